import Derived.Test.YtcneeepdclgdcaaGreatPF3
import Derived.Deep.RegionHeld3
import Derived.BigQuiet
import Derived.Deep.Light
import Derived.Lib.Hide
import Derived.Laws.EntriesVeiled
import Derived.OwnWalk
import Derived.Laws.MakeOwn
import Derived.Deep.QuietTactic
import Derived.Maps.Views
import Derived.Maps.OwnSet
import Derived.Maps.OwnOps
set_option maxRecDepth 100000
set_option maxHeartbeats 4000000
namespace Go.Proofs.YtcneeepdclgdcaaGreat
open Go renaming TypeId->WK,Program->WQ,Ending->XH,wpList->XP,madeCells->YF
open _root_.List renaming getD_eq_getElem?_getD->WL,append_assoc->WM,mem_cons_self->WO,mem_cons_of_mem->WR,mem_cons->WT,mem_of_getElem?->WU,getElem?_cons_succ->WV,mem_map->WX,nodup_append->WY,getElem?_set->WZ,mem_append_left->XA,map_cons->XD,nodup_cons->XE,length_set->XF,flatten_cons->XG,mem_append_right->XI,getElem?_toArray->XJ,eq_nil_of_length_eq_zero->XL,flatten_append->XM,getElem?_eq_some_iff->XO,map_append->XQ,perm_append_comm->XR,set_cons_succ->XV,length_append->XW,ext_getElem?->XX,size_toArray->XY,length_take->YA,mem_append->YB,append_nil->YC,nil_append->YD
open Go.Ending renaming returned->WN
open _root_.List.Perm renaming refl->WS,swap->YE
open _root_.Array renaming getElem?_eq_some_iff->WW
open _root_.Bool renaming and_eq_true->XB
open Go.RowKit renaming Hid->XC
open _root_.Nat renaming mul_le_mul_right->XK,le_refl->XN,le_trans->XT,zero_add->YG
open Go.RowKit.Below renaming heap_setCell->XU
open _root_.Option.some renaming injEq->XZ
set_option linter.all false
section
open Go.RowKit Go.Shelf
abbrev Piece:=Nat × (Obj->Prop)
abbrev PH:=List Piece
def keys (h:PH):List Nat:=h.map Prod.fst
def Ms (T:WK) (C:Array Value):Obj->Prop:=fun o=>o=.cells C T (0,0)
abbrev pt (b:Nat) (T:WK) (C:Array Value):Piece:=(b,Ms T C)
structure Has (h:PH) (w:World):Prop where
 nodup:(keys h).Nodup
 holds:∀ p∈h,∃ o,w.heap[p.1]?=some o/\p.2 o
structure Qh (h:PH) (w:World) (h':PH) (w':World):Prop where
 has:Has h' w'
 only:qj (fun k=>k∈keys h) w w'
 news:∀ k,k∈keys h'->k∈keys h\/w.heap.size<=k
theorem qx1 {l:List Nat} (h:l.Nodup):∀ {i j:Nat} {x:Nat},l[i]?=some x->l[j]?=some x->i=j:=by
 induction l with
 | nil=>intro i j x hi _;simp at hi
 | cons a l ih =>
   obtain ⟨h1,h2⟩:=XE.1 h;intro i j x hi hj;cases i with
   | zero =>
     cases j with
     | zero=>rfl
     | succ j=>simp at hi hj;subst hi;exact absurd (WU hj) h1
   | succ i =>
     cases j with
     | zero=>simp at hi hj;subst hj;exact absurd (WU hi) h1
     | succ j=>simp at hi hj;rw [ih h2 hi hj]
section
variable {h h' h'' F:PH} {w w' w'':World}
theorem Has.perm (H:Has h w) (p:h.Perm h'):Has h' w :=
 ⟨(List.Perm.nodup_iff (p.map _)).1 H.nodup,fun q hq=>H.holds q (p.mem_iff.2 hq)⟩
theorem Has.lt (H:Has h w) {k:Nat} (hk:k∈keys h):k<w.heap.size:=by
 obtain ⟨p,hp,rfl⟩:=WX.1 hk;obtain ⟨o,ho,_⟩:=H.holds p hp;exact (WW.1 ho).1
theorem Jh (a b:PH):keys (a++b)=keys a++keys b:=XQ
theorem Has.left (H:Has (h++F) w):Has h w :=
 ⟨(WY.1 (Jh h F ▸ H.nodup)).1,fun p hp=>H.holds p (XA _ hp)⟩
theorem Has.right (H:Has (h++F) w):Has F w :=
 ⟨(WY.1 (Jh h F ▸ H.nodup)).2.1,fun p hp=>H.holds p (XI _ hp)⟩
theorem Has.apart (H:Has (h++F) w) {k:Nat} (h1:k∈keys h) (h2:k∈keys F):False :=
 (WY.1 (Jh h F ▸ H.nodup)).2.2 k h1 k h2 rfl
theorem Has.drew (H:Has h w):Has h w.drew:=⟨H.nodup,H.holds⟩
theorem Has.only {S:Nat->Prop} (H:Has h w) (ho:qj S w w') (hs:∀ k∈keys h,¬ S k):Has h w' :=
 ⟨H.nodup,fun p hp=>by
   obtain ⟨o,h1,h2⟩:=H.holds p hp
   exact ⟨o,ho.blk h1 (hs _ (WX.2 ⟨p,hp,rfl⟩)),h2⟩⟩
theorem Qh.refl (H:Has h w):Qh h w h w:=⟨H,qj.refl _ _,fun _ hk=>.inl hk⟩
theorem Qh.trans (a:Qh h w h' w') (b:Qh h' w' h'' w''):Qh h w h'' w'' :=
 ⟨b.has,a.only.trans' b.only (fun k hk hs=>(a.news k hs).resolve_right (by omega)),fun k hk=>by
   rcases b.news k hk with h1 | h1
   ·exact a.news k h1
   ·exact .inr (XT a.only.size h1)⟩
theorem Qh.frame (a:Qh h w h' w') (H:Has (h++F) w):Qh (h++F) w (h'++F) w':=by
 have hF:Has F w':=H.right.only a.only (fun k h1 h2=>H.apart h2 h1);refine ⟨⟨?_,?_⟩,a.only.mono (fun k _ hk=>by rw [Jh];exact XA _ hk),fun k hk=>?_⟩
 ·rw [Jh]
  refine WY.2 ⟨a.has.nodup,hF.nodup,fun x hx y hy he=>?_⟩
  subst he;rcases a.news x hx with h1 | h1
  ·exact H.apart h1 hy
  ·exact absurd (H.right.lt hy) (by omega)
 ·intro p hp
  rcases YB.1 hp with h1 | h1
  ·exact a.has.holds p h1
  ·exact hF.holds p h1
 ·rw [Jh] at hk |-
  rcases YB.1 hk with h1 | h1
  ·rcases a.news k h1 with h2 | h2
   ·exact .inl (XA _ h2)
   ·exact .inr h2
  ·exact .inl (XI _ h1)
theorem Qh.perm (a:Qh h w h' w') (p:h'.Perm h''):Qh h w h'' w' :=
 ⟨a.has.perm p,a.only,fun k hk=>a.news k ((p.map Prod.fst).mem_iff.2 hk)⟩
theorem Qh.drop (a:Qh h w (h'++h'') w'):Qh h w h'' w' :=
 ⟨a.has.right,a.only,fun k hk=>a.news k (by rw [Jh];exact XI _ hk)⟩
theorem Qh.xM (a:Qh h w (h'++h'') w'):Qh h w h' w' :=
 ⟨a.has.left,a.only,fun k hk=>a.news k (by rw [Jh];exact XA _ hk)⟩
theorem Qh.drop1 {p:Piece} (a:Qh h w (p::h'') w'):Qh h w h'' w':=Qh.drop (h':=[p]) a
theorem Qh.drew (a:Qh h w h' w'):Qh h w h' w'.drew:=⟨a.has.drew,a.only.drew,a.news⟩
theorem Qh.aN (a:Qh h w h' w') (o:Obj):Qh h w h' (w'.alloc o) :=
 ⟨⟨a.has.nodup,fun p hp=>by obtain ⟨o',h1,h2⟩:=a.has.holds p hp;exact ⟨o',alloc_old h1 o,h2⟩⟩,a.only.alloc o,a.news⟩
theorem Qh.alloc (a:Qh h w h' w') {k:Nat} (hk:k=w'.heap.size) (T:WK) (C:Array Value):Qh h w (pt k T C::h') (w'.alloc (.cells C T)):=by
 subst hk;refine ⟨⟨?_,?_⟩,a.only.alloc _,?_⟩
 ·refine XE.2 ⟨fun hm=>absurd (a.has.lt hm) (Nat.lt_irrefl _),a.has.nodup⟩
 ·intro p hp
  rcases WT.1 hp with rfl | hp
  ·exact ⟨_,Bl _ rfl,rfl⟩
  ·obtain ⟨o',h1,h2⟩:=a.has.holds p hp
   exact ⟨o',alloc_old h1 _,h2⟩
 ·intro k hk
  rcases WT.1 hk with rfl | hk
  ·exact .inr a.only.size
  ·exact a.news k hk
theorem Rp {w:World} {b:Nat} {C:Array Value} {T:WK} (hb:w.heap[b]?=some (.cells C T (0,0))) (i:Nat) (v:Value) :
 (w.setCell ⟨b,i,none⟩ v).heap[b]?=some (.cells (C.setIfInBounds i v) T (0,0)):=by
 show (w.heap.modify b _)[b]?=_
 rw [Array.getElem?_modify,if_pos rfl,hb];rfl
theorem quv {w:World} {B B':Nat} {o:Obj} (h:w.heap[B]?=some o) (hne:B≠B') {i:Nat} (v:Value):(w.setCell ⟨B',i,none⟩ v).heap[B]?=some o :=
 (XU w ⟨B',i,none⟩ v B hne).trans h
theorem Qh.set {b:Nat} {T:WK} {C:Array Value} (a:Qh h w (pt b T C::h') w') (i:Nat) (v:Value):Qh h w (pt b T (C.setIfInBounds i v)::h') (w'.setCell ⟨b,i,none⟩ v):=by
 obtain ⟨o,ho,rfl⟩:=a.has.holds (pt b T C) WO;have hnd:=XE.1 a.has.nodup;refine ⟨⟨a.has.nodup,?_⟩,a.only.setCell _ ?_ v,a.news⟩
 ·intro p hp
  rcases WT.1 hp with rfl | hp
  ·exact ⟨_,Rp ho i v,rfl⟩
  ·obtain ⟨o',h1,h2⟩:=a.has.holds p (WR _ hp)
   exact ⟨o',quv h1 (fun e=>hnd.1 (WX.2 ⟨p,hp,e⟩)) v,h2⟩
 ·rcases a.news b (WO) with h1 | h1
  ·exact .inl h1
  ·exact .inr h1
theorem Qh.say {b:Nat} {p q:Obj->Prop} (a:Qh h w ((b,p)::h') w') (hpq:∀ o,p o->q o):Qh h w ((b,q)::h') w' :=
 ⟨⟨a.has.nodup,fun x hx=>by
   rcases WT.1 hx with rfl | hx
   ·obtain ⟨o,h1,h2⟩:=a.has.holds (b,p) WO;exact ⟨o,h1,hpq o h2⟩
   ·exact a.has.holds x (WR _ hx)⟩,a.only,a.news⟩
theorem Qh.open {b:Nat} {p:Obj->Prop} (a:Qh h w ((b,p)::h') w'):∃ o,p o/\Qh h w ((b,(·=o))::h') w':=by
 obtain ⟨o,h1,h2⟩:=a.has.holds (b,p) WO;refine ⟨o,h2,⟨⟨a.has.nodup,fun x hx=>?_⟩,a.only,a.news⟩⟩
 rcases WT.1 hx with rfl | hx
 ·exact ⟨o,h1,rfl⟩
 ·exact a.has.holds x (WR _ hx)
theorem Qh.blk (a:Qh h w h' w') (i:Nat) {b:Nat} {T:WK} {C:Array Value} (hi:h'[i]?=some (pt b T C)):w'.heap[b]?=some (.cells C T (0,0)):=by
 obtain ⟨o,h1,h2⟩:=a.has.holds _ (WU hi);exact h2 ▸ h1
theorem Qh.cell (a:Qh h w h' w') (i:Nat) {b:Nat} {T:WK} {C:Array Value} (hi:h'[i]?=some (pt b T C)) (o:Nat):w'.cell? ⟨b,o,none⟩=C[o]?:=Q5 (a.blk i hi) o
theorem Qh.free (a:Qh h w h' w') (i:Nat) {b:Nat} {T:WK} {C:Array Value} (hi:h'[i]?=some (pt b T C)) (o:Nat):w'.frozen? ⟨b,o,none⟩=false:=Xw (a.blk i hi) o
theorem Qh.lt (a:Qh h w h' w') (i:Nat) {p:Piece} (hi:h'[i]?=some p):p.1<w'.heap.size :=
 a.has.lt (WX.2 ⟨p,WU hi,rfl⟩)
theorem Qh.ne (a:Qh h w h' w') (i j:Nat) {p q:Piece} (hi:h'[i]?=some p) (hj:h'[j]?=some q) (hij:i≠j):p.1≠q.1:=by
 intro e;have hn:=a.has.nodup;have h1:(keys h')[i]?=some p.1:=by simp [keys,hi]
 have h2:(keys h')[j]?=some q.1:=by simp [keys,hj]
 rw [<- e] at h2;exact hij (qx1 hn h1 h2)
theorem Qh.below (a:Qh [] w h' w'):Below w.heap.size w w':=a.only.below (fun k _ hk=>by simp [keys] at hk) (XN _)
end
theorem Eo {H F:PH} (i:Nat) {p:Piece} (h1:H[i]?=some p) (h2:H.eraseIdx i=F):H.Perm (p::F):=by
 subst h2;induction H generalizing i with
 | nil=>simp at h1
 | cons x l ih =>
   cases i with
   | zero=>simp at h1;subst h1;exact WS _
   | succ n =>
     simp only [WV] at h1;simp only [List.eraseIdx_cons_succ];exact ((ih n h1).cons x).trans (YE p x _)
theorem KR (n:Int) (h0:-9223372036854775808<=n) (h1:n<9223372036854775808):IntKind.i64.wrap n=n:=by
 rw [IntKind.wrap_i64];omega
theorem GY {H:PH} (i:Nat) {p q:Piece} (h1:H[i]?=some p):(q::H.eraseIdx i).Perm (H.set i q):=by
 induction H generalizing i with
 | nil=>simp at h1
 | cons x l ih =>
   cases i with
   | zero=>exact WS _
   | succ n =>
     simp only [WV] at h1;simp only [List.eraseIdx_cons_succ,XV];exact (YE x q _).trans ((ih n h1).cons x)
section
variable {h H:PH} {w w':World}
theorem Qh.setAt (a:Qh h w H w') (i:Nat) {b:Nat} {T:WK} {C:Array Value} (hi:H[i]?=some (pt b T C)) (o:Nat) (v:Value) :
 Qh h w (H.set i (pt b T (C.setIfInBounds o v))) (w'.setCell ⟨b,o,none⟩ v) :=
 ((a.perm (Eo i hi rfl)).set o v).perm (GY i hi)
theorem Qh.dF (a:Qh h w H w') (i:Nat) {b:Nat} {p:Obj->Prop} (hi:H[i]?=some (b,p)) (q:Obj->Prop) (hpq:∀ o,p o->q o) :
 Qh h w (H.set i (b,q)) w' :=
 ((a.perm (Eo i hi rfl)).say hpq).perm (GY i hi)
theorem Qh.dO (a:Qh h w H w') (i:Nat) {b:Nat} {p:Obj->Prop} (hi:H[i]?=some (b,p)) :
 ∃ o,p o/\Qh h w (H.set i (b,(·=o))) w':=by
 obtain ⟨o,h1,h2⟩:=(a.perm (Eo i hi rfl)).open;exact ⟨o,h1,h2.perm (GY i hi)⟩
end
def Does (P:WQ) (f:Nat) (args:Array Value) (h:PH) (R:XH->PH->Prop):Prop :=
 ∀ w,Has h w->Calls P f args w fun e w'=>∃ h',R e h'/\Qh h w h' w'
theorem Does.use {P:WQ} {f:Nat} {args:Array Value} {hc F h H:PH} {R:XH->PH->Prop} {w w1:World} (hd:Does P f args hc R)
 (T:Qh h w H w1) (hp:H.Perm (hc++F)):Calls P f args w1 fun e w2=>∃ h',R e h'/\Qh h w (h'++F) w2:=by
 have T':=T.perm hp;refine (hd w1 T'.has.left).mono ?_
 rintro e w2 ⟨h',hr,ht⟩;exact ⟨h',hr,T'.trans (ht.frame T'.has)⟩
theorem Does.at {P:WQ} {f:Nat} {args:Array Value} {p:Piece} {h H:PH} {R:XH->PH->Prop} {w w1:World} (hd:Does P f args [p] R)
 (T:Qh h w H w1) (i:Nat) (hi:H[i]?=some p):Calls P f args w1 fun e w2=>∃ h',R e h'/\∀ q,h'=[q]->Qh h w (H.set i q) w2:=by
 refine (hd.use T (Eo i hi rfl)).mono ?_
 rintro e w2 ⟨h',hr,ht⟩;exact ⟨h',hr,fun q hq=>by subst hq;exact ht.perm (GY i hi)⟩
theorem Does.mono {P:WQ} {f:Nat} {args:Array Value} {h:PH} {R R':XH->PH->Prop} (hd:Does P f args h R) (hr:∀ e h',R e h'->R' e h'):Does P f args h R' :=
 fun w hw=>(hd w hw).mono fun e w' ⟨h',a,b⟩=>⟨h',hr _ _ a,b⟩
theorem Lx {P:WQ} (t e:WK) (z:Value) (size bytes:Nat) (ht:P.underlying t=some (.slice e)) (hinfo:(P.info? e).map (fun i=>(i.zero,i.size,i.bytes))=some (some z,size,bytes))
 (n:Nat) (hbytes:bytes*n<=281474976710656) (h63:n<=9223372036854775807) (w:World) :
 (Instr.makeSlice t (.int .i64 (n:Int)) (.int .i64 (n:Int))).run P w=.ok (.slice (some ⟨w.heap.size,0,none⟩) n n) (w.alloc (.cells (YF z.cells (n*size)) e)):=by
 obtain ⟨i,hi,hz0,hz1,hz2⟩:=info_parts hinfo;have h:=run_make (P:=P) w t e i z ht hi hz0 .i64 .i64 n n (by omega) (Int.le_refl _) (by rw [hz2];omega) (by omega);simpa [hz1] using h
theorem zq (z:Array Value) (n s i j:Nat) (hz:z.size=s) (hi:i<n) (hj:j<s):(YF z (n*s))[i*s+j]?=z[j]?:=by
 have hlt:i*s+j<n*s:=by
  have h1:(i+1)*s<=n*s:=XK _ hi;rw [Nat.add_mul,Nat.one_mul] at h1;omega
 have hm:(i*s+j) % s=j:=by rw [Nat.add_comm,Nat.add_mul_mod_self_right,Nat.mod_eq_of_lt hj]
 have hjz:j<z.size:=by omega
 simp only [YF,Array.getElem?_map,Array.getElem?_range,hlt,if_true,Option.map_some,hz,hm];rw [Array.getElem?_eq_getElem hjz,getElem!_pos z j hjz]
theorem Vh {P:Prop} (h:P):XC P:=Lib.hid h
theorem bR:(∀ (α:Type) (l:List α) (i:Nat),l.toArray[i]?=l[i]?)/\(∀ (α:Type) (a:α) (l:List α),(a::l)[0]?=some a):=⟨fun _ _ _=>XJ,fun _ _ _=>rfl⟩
theorem aC:(∀ (α:Type) (l:List α) (i:Nat),l.toArray[i]?=l[i]?)/\(∀ (α:Type) (a:α) (l:List α),(a::l)[0]?=some a)/\(∀ (α:Type) (a:α) (l:List α) (i:Nat),(a::l)[i+1]?=l[i]?):=⟨fun _ _ _=>XJ,fun _ _ _=>rfl,fun _ _ _ _=>WV⟩
theorem aT:(∀ (α:Type) (i:Nat),([]:List α)[i]?=none)/\(∀ (α:Type) (l:List α) (i:Nat),l.toArray[i]?=l[i]?)/\(∀ (α:Type) (a:α) (l:List α),(a::l)[0]?=some a)/\(∀ (α:Type) (a:α) (l:List α) (i:Nat),(a::l)[i+1]?=l[i]?):=⟨fun _ _=>List.getElem?_nil,fun _ _ _=>XJ,fun _ _ _=>rfl,fun _ _ _ _=>WV⟩
theorem dx:(∀ (α:Type) (a:α) (l:List α) (i:Nat),(a::l).take (i+1)=a::l.take i)/\(∀ (α:Type) (l:List α),l.take 0=[])/\(∀ (α:Type) (a:α) (l:List α) (i:Nat),(a::l).drop (i+1)=l.drop i)/\(∀ (α:Type) (l:List α),l.drop 0=l):=⟨fun _ _ _ _=>List.take_succ_cons,fun _ _=>List.take_zero,fun _ _ _ _=>List.drop_succ_cons,fun _ _=>List.drop_zero⟩
abbrev ak:=Nat × Obj
abbrev GH:=List (List ak)
def ex (g:List ak):PH:=g.map fun p=>(p.1,(·=p.2))
abbrev cl (b:Nat) (T:WK) (C:Array Value):ak:=(b,.cells C T (0,0))
theorem Zq (a b:List ak):ex (a++b)=ex a++ex b:=XQ
theorem qe {a b:List ak} (h:a.Perm b):(ex a).Perm (ex b):=h.map _
def TG (h:GH) (w:World) (H:GH) (w':World):Prop:=Qh (ex h.flatten) w (ex H.flatten) w'
def Yc (H:GH) (w:World):Prop:=Has (ex H.flatten) w
def qC:GH->List Nat->GH
 | H,[]=>H
 | H,i::is=>qC (H.set i []) is
def je:GH->List Nat->GH->GH
 | H,[],gs=>H++gs
 | H,i::is,[]=>je (H.set i []) is []
 | H,i::is,g::gs=>je (H.set i g) is gs
def kS (H:GH) (is:List Nat):GH:=is.map fun i=>H.getD i []
theorem SU:(∀ (H:GH) (is:List Nat),kS H is=is.map fun i=>H.getD i [])/\(∀ (α β:Type) (f:α->β) (a:α) (l:List α),(a::l).map f=f a::l.map f)/\(∀ (α β:Type) (f:α->β),([]:List α).map f=[]) /\
 (∀ (α:Type) (x:α) (l:List α) (n:Nat) (d:α),(x::l).getD (n+1) d=l.getD n d)/\(∀ (α:Type) (x:α) (l:List α) (d:α),(x::l).getD 0 d=x) /\
 (∀ (α:Type) (x:α) (l:List α) (n:Nat) (d:α),(x::l).set (n+1) d=x::l.set n d)/\(∀ (α:Type) (x:α) (l:List α) (d:α),(x::l).set 0 d=d::l) /\
 (∀ (α:Type) (x:α) (l m:List α),x::l++m=x::(l++m))/\(∀ l m:GH,(l++m).flatten=l.flatten++m.flatten)/\(∀ (a:List ak) (l:GH),(a::l).flatten=a++l.flatten)/\(([]:GH).flatten=[]) /\
 (∀ (α:Type) (l:List α),l++[]=l)/\(∀ (α:Type) (l:List α),[]++l=l) :=
 ⟨fun _ _=>rfl,fun _ _ _ _ _=>rfl,fun _ _ _=>rfl,fun _ _ _ _ _=>rfl,fun _ _ _ _=>rfl,fun _ _ _ _ _=>rfl,fun _ _ _ _=>rfl,fun _ _ _ _=>rfl,fun _ _=>XM,fun _ _=>rfl,rfl,fun _ l=>YC l,fun _ _=>rfl⟩
theorem PU:(∀ (H:GH) (gs:GH),je H [] gs=H++gs)/\(∀ (H:GH) (i:Nat) (is:List Nat),je H (i::is) []=je (H.set i []) is [])/\(∀ (H:GH) (i:Nat) (is:List Nat) (g:List ak) (gs:GH),je H (i::is) (g::gs)=je (H.set i g) is gs) /\
 (∀ (α:Type) (x:α) (l:List α) (n:Nat) (d:α),(x::l).set (n+1) d=x::l.set n d)/\(∀ (α:Type) (x:α) (l:List α) (d:α),(x::l).set 0 d=d::l)/\(∀ (α:Type) (x:α) (l m:List α),x::l++m=x::(l++m)) /\
 (∀ (α:Type) (l:List α),l++[]=l)/\(∀ (α:Type) (l:List α),[]++l=l) :=
 ⟨fun _ _=>rfl,fun _ _ _=>rfl,fun _ _ _ _ _=>rfl,fun _ _ _ _ _=>rfl,fun _ _ _ _=>rfl,fun _ _ _ _=>rfl,fun _ l=>YC l,fun _ _=>rfl⟩
def nodupB:List Nat->Bool
 | []=>true
 | i::is=>!is.contains i && nodupB is
def og (H:GH) (is:List Nat):Bool:=nodupB is && is.all fun i=>decide (i<H.length)
theorem B6 {H:GH}:∀ {i:Nat} (g:List ak),i<H.length->(H.set i g).flatten.Perm (g++(H.set i []).flatten):=by
 induction H with
 | nil=>intro i g h;simp at h
 | cons a l ih =>
   intro i g h;cases i with
   | zero=>simp only [List.set_cons_zero,XG,YD];exact WS _
   | succ n =>
     simp only [XV,XG];refine ((ih g (by simpa using h)).append_left a).trans ?_
     rw [<- WM,<- WM];exact List.perm_append_comm.append_right _
theorem set_self {H:GH} {i:Nat} (h:i<H.length):H.set i (H.getD i [])=H:=by
 apply XX
 intro k;rw [WZ];split
 ·next e=>subst e;simp [h]
 ·rfl
theorem Ae {H:GH} {i:Nat} (h:i<H.length):H.flatten.Perm (H.getD i []++(H.set i []).flatten):=by
 have:=B6 (H.getD i []) h;rwa [set_self h] at this
theorem RN {is:List Nat}:∀ {H:GH} {i:Nat} {g:List ak},i ∉ is->qC (H.set i g) is=(qC H is).set i g:=by
 induction is with
 | nil=>intro H i g _;rfl
 | cons j is ih =>
   intro H i g hi;have hj:i≠j:=fun e=>hi (e ▸ WO)
   simp only [qC];rw [List.set_comm _ _ hj,ih (fun h=>hi (WR _ h))]
theorem qk7 {is:List Nat}:∀ {H:GH},(qC H is).length=H.length:=by
 induction is with
 | nil=>intro H;rfl
 | cons j is ih=>intro H;simp only [qC];rw [ih,XF]
theorem Rn {i:Nat} {is:List Nat} (h:nodupB (i::is)=true):i ∉ is/\nodupB is=true:=by
 simp only [nodupB,XB,Bool.not_eq_true',List.contains_eq_mem,decide_eq_false_iff_not] at h;exact h
theorem Mb {is:List Nat}:∀ {H:GH},og H is=true->H.flatten.Perm ((kS H is).flatten++(qC H is).flatten):=by
 induction is with
 | nil=>intro H _;exact WS _
 | cons i is ih =>
   intro H h;simp only [og,XB,List.all_cons,decide_eq_true_eq] at h;obtain ⟨hn,hi,hl⟩:=h;obtain ⟨h1,h2⟩:=Rn hn;refine (Ae hi).trans ?_
   simp only [kS,XD,XG,qC,WM];refine List.Perm.append_left _ ?_
   refine (ih (H:=H.set i []) (by simp only [og,XB,XF];exact ⟨h2,hl⟩)).trans ?_
   have e:kS (H.set i []) is=kS H is:=by
    apply List.map_congr_left
    intro j hj;have hij:i≠j:=by rintro rfl;exact h1 hj
    rw [WL,WL,WZ,if_neg hij]
   rw [e];exact WS _
theorem TM {is:List Nat}:∀ {H:GH} {gs:GH},og H is=true->(je H is gs).flatten.Perm (gs.flatten++(qC H is).flatten):=by
 induction is with
 | nil=>intro H gs _;simp only [je,qC,XM];exact XR
 | cons i is ih =>
   intro H gs h;simp only [og,XB,List.all_cons,decide_eq_true_eq] at h;obtain ⟨hn,hi,hl⟩:=h;obtain ⟨h1,h2⟩:=Rn hn;have hf:∀ g,og (H.set i g) is=true:=fun g=>by simp only [og,XB,XF];exact ⟨h2,hl⟩
   cases gs with
   | nil=>simp only [je,qC];exact ih (hf _)
   | cons g gs =>
     simp only [je,qC,XG];refine (ih (hf g)).trans ?_
     rw [RN h1,RN h1];have:=B6 (H:=qC H is) (i:=i) g (by rw [qk7];exact hi);refine (this.append_left _).trans ?_
     rw [<- WM];exact List.perm_append_comm.append_right _
section
variable {h H:GH} {w w':World}
theorem TG.refl (a:Yc H w):TG H w H w:=Qh.refl a
theorem TG.trans {H':GH} {w'':World} (a:TG h w H w') (b:TG H w' H' w''):TG h w H' w'':=Qh.trans a b
theorem TG.has (a:TG h w H w'):Yc H w':=Qh.has a
theorem TG.re (a:TG h w H w') {H':GH} (p:H.flatten.Perm H'.flatten):TG h w H' w':=Qh.perm a (qe p)
theorem TG.eq (a:TG h w H w') {H':GH} (p:H.flatten=H'.flatten):TG h w H' w':=a.re (p ▸ WS _)
theorem TG.base (a:TG h w H w') {h':GH} (p:h.flatten=h'.flatten):TG h' w H w':=by unfold TG at a |-;rwa [<- p]
theorem TG.pick (a:TG h w H w') (is:List Nat) (f:og H is=true):TG h w (kS H is) w':=by
 have b:Qh _ _ _ _:=Qh.perm a (qe (Mb f));rw [Zq] at b;exact b.xM
theorem TG.drew (a:TG h w H w'):TG h w H w'.drew:=Qh.drew a
theorem TG.drewN (a:TG h w H w') (n:Nat):TG h w H (w'.drewN n):=⟨⟨a.has.nodup,a.has.holds⟩,Qh.only a |>.drewN n,Qh.news a⟩
theorem TG.aN (a:TG h w H w') (o:Obj):TG h w H (w'.alloc o):=Qh.aN a o
theorem TG.put (a:TG h w H w') {k:Nat} (hk:k=w'.heap.size) (o:Obj):TG h w (H++[[(k,o)]]) (w'.alloc o):=by
 subst hk
 have b:Qh (ex h.flatten) w ((w'.heap.size,(·=o))::ex H.flatten) (w'.alloc o):=by
  have a':Qh _ _ _ _:=a;refine ⟨⟨?_,?_⟩,a'.only.alloc _,?_⟩
  ·exact XE.2 ⟨fun hm=>absurd (a'.has.lt hm) (Nat.lt_irrefl _),a'.has.nodup⟩
  ·intro p hp
   rcases WT.1 hp with rfl | hp
   ·exact ⟨_,Bl _ rfl,rfl⟩
   ·obtain ⟨o',h1,h2⟩:=a'.has.holds p hp
    exact ⟨o',alloc_old h1 _,h2⟩
  ·intro k hk
   rcases WT.1 hk with rfl | hk
   ·exact .inr a'.only.size
   ·exact a'.news k hk
 have e:(H++[[(w'.heap.size,o)]]).flatten=H.flatten++[(w'.heap.size,o)]:=by simp
 unfold TG;rw [e,Zq];exact b.perm (XR (l₁:=[_]))
theorem TG.alloc (a:TG h w H w') {k:Nat} (hk:k=w'.heap.size) (T:WK) (C:Array Value):TG h w (H++[[cl k T C]]) (w'.alloc (.cells C T)):=a.put hk _
theorem KA {i j:Nat} {p:ak} (hij:(H.getD i [])[j]?=some p):i<H.length:=by
 rcases Nat.lt_or_ge i H.length with h1 | h1
 ·exact h1
 ·have e:H.getD i []=[]:=by rw [WL,List.getElem?_eq_none h1];rfl
  rw [e] at hij;cases hij
theorem Uk {i j:Nat} {p:ak} (hij:(H.getD i [])[j]?=some p):p∈H.flatten:=by
 have h1:=WU hij;have h2:=KA hij;exact List.mem_flatten.2 ⟨_,by rw [WL,List.getElem?_eq_getElem h2];exact List.getElem_mem h2,h1⟩
theorem Yc.obj (a:Yc H w) (i j:Nat) {p:ak} (hij:(H.getD i [])[j]?=some p):w.heap[p.1]?=some p.2:=by
 obtain ⟨o,h1,h2⟩:=Has.holds a (p.1,(·=p.2)) (WX.2 ⟨p,Uk hij,rfl⟩);exact h2 ▸ h1
theorem TG.obj (a:TG h w H w') (i j:Nat) {p:ak} (hij:(H.getD i [])[j]?=some p):w'.heap[p.1]?=some p.2:=a.has.obj i j hij
theorem TG.cell (a:TG h w H w') (i j:Nat) {b:Nat} {T:WK} {C:Array Value} (hij:(H.getD i [])[j]?=some (cl b T C)) (o:Nat):w'.cell? ⟨b,o,none⟩=C[o]?:=Q5 (a.obj i j hij) o
theorem TG.free (a:TG h w H w') (i j:Nat) {b:Nat} {T:WK} {C:Array Value} (hij:(H.getD i [])[j]?=some (cl b T C)) (o:Nat):w'.frozen? ⟨b,o,none⟩=false:=Xw (a.obj i j hij) o
theorem TG.lt (a:TG h w H w') (i j:Nat) {p:ak} (hij:(H.getD i [])[j]?=some p):p.1<w'.heap.size:=(WW.1 (a.obj i j hij)).1
theorem q58 (g:List ak):keys (ex g)=g.map Prod.fst:=by simp [keys,ex,Function.comp_def]
theorem TG.nodup (a:TG h w H w'):(H.flatten.map Prod.fst).Nodup:=q58 _ ▸ Has.nodup (Qh.has a)
theorem TG.ne (a:TG h w H w') (i j k l:Nat) (hik:i≠k) {p q:ak} (hij:(H.getD i [])[j]?=some p) (hkl:(H.getD k [])[l]?=some q):p.1≠q.1:=by
 intro e;have hi:=KA hij;have hn:=a.nodup;have hp:=(Ae hi).map Prod.fst;have hn':=(hp.nodup_iff).1 hn;rw [XQ] at hn';have hq:q∈(H.set i []).flatten:=Uk (H:=H.set i []) (i:=k) (j:=l) (by rw [WL,WZ,if_neg hik,<- WL];exact hkl);exact (WY.1 hn').2.2 p.1 (WX.2 ⟨p,WU hij,rfl⟩) p.1 (WX.2 ⟨q,hq,e.symm⟩) rfl
theorem TG.turn (a:TG h w H w') (i:Nat) {b:Nat} {o o':Obj} {pre post:List ak} (hi:i<H.length) (hg:H.getD i []=pre++(b,o)::post)
 {w'':World} (hb:w''.heap[b]?=some o') (ho:∀ k,k≠b->w''.heap[k]?=w'.heap[k]?) (hs:w''.heap.size=w'.heap.size) (h1:w''.os=w'.os) (h2:w''.tape=w'.tape) (h3:w''.output=w'.output) :
 TG h w (H.set i (pre++(b,o')::post)) w'':=by
 have a':Qh _ _ _ _:=a
 have hp:(ex H.flatten).Perm ((b,(·=o))::ex (pre++post++(H.set i []).flatten)):=by
  refine (qe ((Ae hi).trans ?_)).trans (WS (ex ((b,o)::(pre++post++(H.set i []).flatten))))
  rw [hg];refine (List.Perm.append_right _ List.perm_middle).trans ?_
  simp
 have hp':((b,(·=o'))::ex (pre++post++(H.set i []).flatten)).Perm (ex (H.set i (pre++(b,o')::post)).flatten):=by
  refine List.Perm.trans (WS (ex ((b,o')::(pre++post++(H.set i []).flatten)))) (qe ((B6 _ hi).trans ?_).symm)
  refine (List.Perm.append_right _ List.perm_middle).trans ?_
  simp
 have c:=a'.perm hp;have hnd:=XE.1 c.has.nodup;have hbl:=c.has.lt (k:=b) WO;refine Qh.perm ?_ hp'
 refine ⟨⟨c.has.nodup,fun p hp=>?_⟩,⟨h1.trans c.only.os,h2.trans c.only.tape,h3.trans c.only.output,by rw [hs];exact c.only.size,fun k hk hn=>(ho k ?_).trans (c.only.block k hk hn)⟩,c.news⟩
 ·rcases WT.1 hp with rfl | hp
  ·exact ⟨o',hb,rfl⟩
  ·obtain ⟨x,h1,h2⟩:=c.has.holds p (WR _ hp)
   exact ⟨x,(ho _ (fun e=>hnd.1 (WX.2 ⟨p,hp,e⟩))).trans h1,h2⟩
 ·rintro rfl
  rcases c.news k WO with h4 | h4
  ·exact hn h4
  ·omega
theorem q23 {l:List ak} {j:Nat} {p:ak} (hj:l[j]?=some p):l=l.take j++p::l.drop (j+1)/\∀ q,l.set j q=l.take j++q::l.drop (j+1):=by
 obtain ⟨h1,h2⟩:=XO.1 hj;have e:∀ q,l.set j q=l.take j++q::l.drop (j+1):=fun q=>List.set_eq_take_append_cons_drop.trans (if_pos h1)
 refine ⟨?_,e⟩
 rw [<- e,<- h2,List.set_getElem_self]
theorem TG.set (a:TG h w H w') (i j:Nat) {b:Nat} {T:WK} {C:Array Value} (hij:(H.getD i [])[j]?=some (cl b T C)) (o:Nat) (v:Value) :
 TG h w (H.set i ((H.getD i []).set j (cl b T (C.setIfInBounds o v)))) (w'.setCell ⟨b,o,none⟩ v):=by
 obtain ⟨h1,h2⟩:=q23 hij;have:=a.turn (w'':=w'.setCell ⟨b,o,none⟩ v) i (o':=.cells (C.setIfInBounds o v) T (0,0)) (KA hij) h1 (Rp (a.obj i j hij) o v) (fun k hk=>XU w' ⟨b,o,none⟩ v k hk) (Zs _ _ _) rfl rfl rfl;rwa [<- h2] at this
end
def Qa (P:WQ) (f:Nat) (args:Array Value) (gs:GH) (R:XH->GH->Prop):Prop :=
 ∀ w,Yc gs w->Calls P f args w fun e w'=>∃ gs',R e gs'/\TG gs w gs' w'
section
variable {P:WQ} {f:Nat} {args:Array Value} {gs h H:GH} {R R':XH->GH->Prop} {w w1:World}
theorem Qa.use (hd:Qa P f args gs R) (T:TG h w H w1) (is:List Nat) (hp:kS H is=gs) (hf:og H is=true) :
 Calls P f args w1 fun e w2=>∃ gs',R e gs'/\TG h w (je H is gs') w2:=by
 subst hp;have T1:Qh _ _ _ _:=Qh.perm T (qe (Mb hf));rw [Zq] at T1;refine (hd w1 T1.has.left).mono ?_
 rintro e w2 ⟨gs',hr,ht⟩;refine ⟨gs',hr,?_⟩
 have ht':Qh _ _ _ _:=ht;have:=T1.trans (ht'.frame T1.has);rw [<- Zq] at this;exact Qh.perm this (qe (TM hf).symm)
theorem Qa.mono (hd:Qa P f args gs R) (hr:∀ e gs',R e gs'->R' e gs'):Qa P f args gs R' :=
 fun w hw=>(hd w hw).mono fun e w' ⟨g,a,b⟩=>⟨g,hr _ _ a,b⟩
theorem Qa.post (hd:Qa P f args gs R) (hr:∀ e gs',R e gs'->∃ gs'',R' e gs''/\gs'.flatten.Perm gs''.flatten):Qa P f args gs R' :=
 fun w hw=>(hd w hw).mono fun e w' ⟨g,a,b⟩=>by
  obtain ⟨g',h1,h2⟩:=hr _ _ a;exact ⟨g',h1,b.re h2⟩
theorem Qa.pre {gs':GH} (hd:Qa P f args gs R) (he:gs.flatten=gs'.flatten):Qa P f args gs' R :=
 fun w hw=>(hd w (by unfold Yc at hw |-;rwa [he])).mono fun e w' ⟨g,a,b⟩=>⟨g,a,b.base he⟩
theorem Qa.below {Q:XH->Prop} (hc:∀ w,Calls P f args w fun e w'=>Q e/\Below w.heap.size w w'):Qa P f args [] fun e g=>Q e/\g=[] :=
 fun w hw=>(hc w).mono fun e w' ⟨a,b⟩=>⟨[],⟨a,rfl⟩,⟨⟨List.nodup_nil,fun _ h=>by cases h⟩,⟨b.os,b.tape,b.output,b.size,fun k hk _=>b.block k hk⟩,fun k hk=>by cases hk⟩⟩
end
inductive Zx:PH->List ak->Prop
 | nil:Zx [] []
 | cons {b:Nat} {p:Obj->Prop} {o:Obj} {h:PH} {g:List ak}:p o->Zx h g->Zx ((b,p)::h) ((b,o)::g)
theorem Zx.keys {h:PH} {g:List ak} (m:Zx h g):keys h=keys (ex g):=by
 induction m with
 | nil=>rfl
 | cons _ _ ih=>simp only [Go.Proofs.YtcneeepdclgdcaaGreat.keys,ex,XD] at ih |-;rw [ih]
theorem Zx.has {h:PH} {g:List ak} (m:Zx h g) {w:World} (H:Has (ex g) w):Has h w:=by
 refine ⟨m.keys ▸ H.nodup,?_⟩
 have hh:=H.holds;clear H;induction m with
 | nil=>intro p hp;cases hp
 | cons hp m ih =>
   intro q hq;rcases WT.1 hq with rfl | hq
   ·obtain ⟨o,h1,h2⟩:=hh _ (by simp only [ex,XD];exact WO)
    exact ⟨o,h1,by subst h2;exact hp⟩
   ·exact ih (fun p hp=>hh p (by simp only [ex,XD];exact WR _ hp)) q hq
theorem Zx.mM {w:World}:∀ {h:PH},(∀ p∈h,∃ o,w.heap[p.1]?=some o/\p.2 o)->∃ g,Zx h g/\∀ p∈ex g,∃ o,w.heap[p.1]?=some o/\p.2 o
 | [],_=>⟨[],.nil,fun _ h=>by cases h⟩
 | (b,p)::h,H=>by
   obtain ⟨o,h1,h2⟩:=H (b,p) WO;obtain ⟨g,m,hg⟩:=Zx.mM (h:=h) (fun q hq=>H q (WR _ hq));refine ⟨(b,o)::g,.cons h2 m,fun q hq=>?_⟩
   simp only [ex,XD] at hq;rcases WT.1 hq with rfl | hq
   ·exact ⟨o,h1,rfl⟩
   ·exact hg q hq
theorem Does.G {P:WQ} {f:Nat} {args:Array Value} {h:PH} {R:XH->PH->Prop} (hd:Does P f args h R) {gs:GH} (m:Zx h gs.flatten) :
 Qa P f args gs fun e gs'=>∃ h' g,R e h'/\Zx h' g/\gs'=[g]:=by
 intro w hw;refine (hd w (m.has hw)).mono ?_
 rintro e w' ⟨h',hr,ht⟩;obtain ⟨g,mg,hg⟩:=Zx.mM ht.has.holds;refine ⟨[g],⟨h',g,hr,mg,rfl⟩,?_⟩
 have ef:([g]:GH).flatten=g:=by simp
 unfold TG;rw [ef];refine ⟨⟨mg.keys ▸ ht.has.nodup,hg⟩,?_,?_⟩
 ·rw [<- m.keys];exact ht.only
 ·rw [<- m.keys,<- mg.keys];exact ht.news
theorem Zx.append {a b:PH} {g:List ak} (m:Zx (a++b) g):∃ x y,g=x++y/\Zx a x/\Zx b y:=by
 induction a generalizing g with
 | nil=>exact ⟨[],g,rfl,.nil,m⟩
 | cons p a ih =>
   cases m with
   | cons hp m =>
     obtain ⟨x,y,rfl,h1,h2⟩:=ih m;exact ⟨_::x,y,rfl,.cons hp h1,h2⟩
theorem Zx.join {a b:PH} {x y:List ak} (m:Zx a x) (n:Zx b y):Zx (a++b) (x++y):=by
 induction m with
 | nil=>exact n
 | cons hp m ih=>exact .cons hp ih
theorem Zx.one {b:Nat} {p:Obj->Prop} {g:List ak} (m:Zx [(b,p)] g):∃ o,p o/\g=[(b,o)]:=by
 cases m with
 | cons hp m=>cases m;exact ⟨_,hp,rfl⟩
theorem Zx.pZ {b:Nat} {T:WK} {C:Array Value} {g:List ak} (m:Zx [pt b T C] g):g=[cl b T C]:=by
 obtain ⟨o,rfl,rfl⟩:=m.one;rfl
theorem Zx.oJ (b:Nat) (T:WK) (C:Array Value):Zx [pt b T C] [cl b T C]:=.cons rfl .nil
theorem Does.G1 {P:WQ} {f:Nat} {args:Array Value} {a a':PH} {v:Value} {x:List ak} (hd:Does P f args a fun e h'=>e=WN v/\h'=a') (ma:Zx a x) :
 Qa P f args [x] fun e gs=>e=WN v/\∃ x',Zx a' x'/\gs=[x']:=by
 refine (hd.G (gs:=[x]) (by simpa using ma)).mono ?_
 rintro e gs ⟨h',g,⟨he,rfl⟩,m,rfl⟩;exact ⟨he,g,m,rfl⟩
theorem Does.G2 {P:WQ} {f:Nat} {args:Array Value} {a a' b b':PH} {v:Value} {x y:List ak} (hd:Does P f args (a++b) fun e h'=>e=WN v/\h'=a'++b') (ma:Zx a x) (mb:Zx b y) :
 Qa P f args [x,y] fun e gs=>e=WN v/\∃ x' y',Zx a' x'/\Zx b' y'/\gs=[x',y']:=by
 refine (hd.G (gs:=[x,y]) (by simpa using ma.join mb)).post ?_
 rintro e gs ⟨h',g,⟨he,rfl⟩,m,rfl⟩;obtain ⟨x',y',rfl,m1,m2⟩:=m.append;exact ⟨_,⟨he,x',y',m1,m2,rfl⟩,by simp⟩
theorem Yc.nil (w:World):Yc [] w:=⟨List.nodup_nil,fun _ h=>by cases h⟩
theorem Oh {p:Nat->Prop} (h:∀ k,p k) (a b:Nat):p a/\p b:=⟨h a,h b⟩
theorem F8 {p:Nat->Prop} (h:∀ k,p k) (a b c:Nat):p a/\p b/\p c:=⟨h a,h b,h c⟩
theorem Oi {p:Nat->Prop} (h:∀ k,p k) (a b c d:Nat):p a/\p b/\p c/\p d:=⟨h a,h b,h c,h d⟩
theorem Ce5 {p:Nat->Prop} (h:∀ k,p k) (a b c d e:Nat):p a/\p b/\p c/\p d/\p e:=⟨h a,h b,h c,h d,h e⟩
theorem Ce6 {p:Nat->Prop} (h:∀ k,p k) (a b c d e f:Nat):p a/\p b/\p c/\p d/\p e/\p f:=⟨h a,h b,h c,h d,h e,h f⟩
theorem Ce7 {p:Nat->Prop} (h:∀ k,p k) (a b c d e f g:Nat):p a/\p b/\p c/\p d/\p e/\p f/\p g:=⟨h a,h b,h c,h d,h e,h f,h g⟩
theorem Ce8 {p:Nat->Prop} (h:∀ k,p k) (a b c d e f g i:Nat):p a/\p b/\p c/\p d/\p e/\p f/\p g/\p i:=⟨h a,h b,h c,h d,h e,h f,h g,h i⟩
theorem QE {α β:Type} {f:α->β} {K:β->Prop} (h:∀ n,K (f n)):∀ x,(∃ n,x=f n)->K x:=fun _ ⟨n,e⟩=>e ▸ h n
theorem GO {gs:GH} {K:World->Prop} (h:∀ w,XC (TG gs w gs w)->K w):∀ w,Yc gs w->K w:=fun w hw=>h w (TG.refl hw)
theorem Qa.run {P:WQ} {f:Nat} {args:Array Value} {gs h H:GH} {R:XH->GH->Prop} {w w1:World} (hd:Qa P f args gs R) (T:TG h w H w1) (is:List Nat) {K:XH->World->Prop} (hK:∀ e w2 gs',R e gs'->XC (TG h w (je H is gs') w2)->K e w2) (hp:kS H is=gs:=by rfl) (hf:og H is=true:=by rfl):Calls P f args w1 K :=
 (hd.use T is hp hf).mono fun e w2 ⟨gs',a,b⟩=>hK e w2 gs' a b
theorem TG.c {h H:GH} {w w':World} (a:TG h w H w') (i j o:Nat) {b:Nat} {T:WK} {C:Array Value} (hij:(H.getD i [])[j]?=some (cl b T C):=by exact rfl):w'.cell? ⟨b,o,none⟩=C[o]?:=a.cell i j hij o
theorem TG.f {h H:GH} {w w':World} (a:TG h w H w') (i j o:Nat) {b:Nat} {T:WK} {C:Array Value} (hij:(H.getD i [])[j]?=some (cl b T C):=by exact rfl):w'.frozen? ⟨b,o,none⟩=false:=a.free i j hij o
theorem TG.l {h H:GH} {w w':World} (a:TG h w H w') (i j:Nat) {p:ak} (hij:(H.getD i [])[j]?=some p:=by exact rfl):p.1<w'.heap.size:=a.lt i j hij
theorem TG.p {h H:GH} {w w':World} (a:TG h w H w') (is:List Nat) (f:og H is=true:=by rfl):TG h w (kS H is) w':=a.pick is f
theorem TG.a {h H:GH} {w w':World} (a:TG h w H w') (T:WK) (C:Array Value):TG h w (H++[[cl w'.heap.size T C]]) (w'.alloc (.cells C T)):=a.alloc rfl T C
theorem QT {h H:GH} {w w1:World} (T:XC (TG h w H w1)) {K:World->Prop} (hK:∀ n,XC (TG h w H (w1.drewN n))->K (w1.drewN n)):∀ x,(∃ n,x=w1.drewN n)->K x:=fun _ ⟨n,e⟩=>e ▸ hK n (T.out.drewN n)
theorem TG.c2 {h H:GH} {w w':World} (a:TG h w H w') (i j x0 x1:Nat) {b:Nat} {T:WK} {C:Array Value} (hij:(H.getD i [])[j]?=some (cl b T C):=by exact rfl):w'.cell? ⟨b,x0,none⟩=C[x0]?/\w'.cell? ⟨b,x1,none⟩=C[x1]?:=⟨a.cell i j hij x0,a.cell i j hij x1⟩
theorem TG.f2 {h H:GH} {w w':World} (a:TG h w H w') (i j x0 x1:Nat) {b:Nat} {T:WK} {C:Array Value} (hij:(H.getD i [])[j]?=some (cl b T C):=by exact rfl):w'.frozen? ⟨b,x0,none⟩=false/\w'.frozen? ⟨b,x1,none⟩=false:=⟨a.free i j hij x0,a.free i j hij x1⟩
theorem TG.c3 {h H:GH} {w w':World} (a:TG h w H w') (i j x0 x1 x2:Nat) {b:Nat} {T:WK} {C:Array Value} (hij:(H.getD i [])[j]?=some (cl b T C):=by exact rfl):w'.cell? ⟨b,x0,none⟩=C[x0]?/\w'.cell? ⟨b,x1,none⟩=C[x1]?/\w'.cell? ⟨b,x2,none⟩=C[x2]?:=⟨a.cell i j hij x0,a.cell i j hij x1,a.cell i j hij x2⟩
theorem TG.f3 {h H:GH} {w w':World} (a:TG h w H w') (i j x0 x1 x2:Nat) {b:Nat} {T:WK} {C:Array Value} (hij:(H.getD i [])[j]?=some (cl b T C):=by exact rfl):w'.frozen? ⟨b,x0,none⟩=false/\w'.frozen? ⟨b,x1,none⟩=false/\w'.frozen? ⟨b,x2,none⟩=false:=⟨a.free i j hij x0,a.free i j hij x1,a.free i j hij x2⟩
theorem TG.c4 {h H:GH} {w w':World} (a:TG h w H w') (i j x0 x1 x2 x3:Nat) {b:Nat} {T:WK} {C:Array Value} (hij:(H.getD i [])[j]?=some (cl b T C):=by exact rfl):w'.cell? ⟨b,x0,none⟩=C[x0]?/\w'.cell? ⟨b,x1,none⟩=C[x1]?/\w'.cell? ⟨b,x2,none⟩=C[x2]?/\w'.cell? ⟨b,x3,none⟩=C[x3]?:=⟨a.cell i j hij x0,a.cell i j hij x1,a.cell i j hij x2,a.cell i j hij x3⟩
theorem TG.f4 {h H:GH} {w w':World} (a:TG h w H w') (i j x0 x1 x2 x3:Nat) {b:Nat} {T:WK} {C:Array Value} (hij:(H.getD i [])[j]?=some (cl b T C):=by exact rfl):w'.frozen? ⟨b,x0,none⟩=false/\w'.frozen? ⟨b,x1,none⟩=false/\w'.frozen? ⟨b,x2,none⟩=false/\w'.frozen? ⟨b,x3,none⟩=false:=⟨a.free i j hij x0,a.free i j hij x1,a.free i j hij x2,a.free i j hij x3⟩
theorem TG.c5 {h H:GH} {w w':World} (a:TG h w H w') (i j x0 x1 x2 x3 x4:Nat) {b:Nat} {T:WK} {C:Array Value} (hij:(H.getD i [])[j]?=some (cl b T C):=by exact rfl):w'.cell? ⟨b,x0,none⟩=C[x0]?/\w'.cell? ⟨b,x1,none⟩=C[x1]?/\w'.cell? ⟨b,x2,none⟩=C[x2]?/\w'.cell? ⟨b,x3,none⟩=C[x3]?/\w'.cell? ⟨b,x4,none⟩=C[x4]?:=⟨a.cell i j hij x0,a.cell i j hij x1,a.cell i j hij x2,a.cell i j hij x3,a.cell i j hij x4⟩
theorem TG.f5 {h H:GH} {w w':World} (a:TG h w H w') (i j x0 x1 x2 x3 x4:Nat) {b:Nat} {T:WK} {C:Array Value} (hij:(H.getD i [])[j]?=some (cl b T C):=by exact rfl):w'.frozen? ⟨b,x0,none⟩=false/\w'.frozen? ⟨b,x1,none⟩=false/\w'.frozen? ⟨b,x2,none⟩=false/\w'.frozen? ⟨b,x3,none⟩=false/\w'.frozen? ⟨b,x4,none⟩=false:=⟨a.free i j hij x0,a.free i j hij x1,a.free i j hij x2,a.free i j hij x3,a.free i j hij x4⟩
theorem TG.c6 {h H:GH} {w w':World} (a:TG h w H w') (i j x0 x1 x2 x3 x4 x5:Nat) {b:Nat} {T:WK} {C:Array Value} (hij:(H.getD i [])[j]?=some (cl b T C):=by exact rfl):w'.cell? ⟨b,x0,none⟩=C[x0]?/\w'.cell? ⟨b,x1,none⟩=C[x1]?/\w'.cell? ⟨b,x2,none⟩=C[x2]?/\w'.cell? ⟨b,x3,none⟩=C[x3]?/\w'.cell? ⟨b,x4,none⟩=C[x4]?/\w'.cell? ⟨b,x5,none⟩=C[x5]?:=⟨a.cell i j hij x0,a.cell i j hij x1,a.cell i j hij x2,a.cell i j hij x3,a.cell i j hij x4,a.cell i j hij x5⟩
theorem TG.f6 {h H:GH} {w w':World} (a:TG h w H w') (i j x0 x1 x2 x3 x4 x5:Nat) {b:Nat} {T:WK} {C:Array Value} (hij:(H.getD i [])[j]?=some (cl b T C):=by exact rfl):w'.frozen? ⟨b,x0,none⟩=false/\w'.frozen? ⟨b,x1,none⟩=false/\w'.frozen? ⟨b,x2,none⟩=false/\w'.frozen? ⟨b,x3,none⟩=false/\w'.frozen? ⟨b,x4,none⟩=false/\w'.frozen? ⟨b,x5,none⟩=false:=⟨a.free i j hij x0,a.free i j hij x1,a.free i j hij x2,a.free i j hij x3,a.free i j hij x4,a.free i j hij x5⟩
theorem TG.c7 {h H:GH} {w w':World} (a:TG h w H w') (i j x0 x1 x2 x3 x4 x5 x6:Nat) {b:Nat} {T:WK} {C:Array Value} (hij:(H.getD i [])[j]?=some (cl b T C):=by exact rfl):w'.cell? ⟨b,x0,none⟩=C[x0]?/\w'.cell? ⟨b,x1,none⟩=C[x1]?/\w'.cell? ⟨b,x2,none⟩=C[x2]?/\w'.cell? ⟨b,x3,none⟩=C[x3]?/\w'.cell? ⟨b,x4,none⟩=C[x4]?/\w'.cell? ⟨b,x5,none⟩=C[x5]?/\w'.cell? ⟨b,x6,none⟩=C[x6]?:=⟨a.cell i j hij x0,a.cell i j hij x1,a.cell i j hij x2,a.cell i j hij x3,a.cell i j hij x4,a.cell i j hij x5,a.cell i j hij x6⟩
theorem TG.f7 {h H:GH} {w w':World} (a:TG h w H w') (i j x0 x1 x2 x3 x4 x5 x6:Nat) {b:Nat} {T:WK} {C:Array Value} (hij:(H.getD i [])[j]?=some (cl b T C):=by exact rfl):w'.frozen? ⟨b,x0,none⟩=false/\w'.frozen? ⟨b,x1,none⟩=false/\w'.frozen? ⟨b,x2,none⟩=false/\w'.frozen? ⟨b,x3,none⟩=false/\w'.frozen? ⟨b,x4,none⟩=false/\w'.frozen? ⟨b,x5,none⟩=false/\w'.frozen? ⟨b,x6,none⟩=false:=⟨a.free i j hij x0,a.free i j hij x1,a.free i j hij x2,a.free i j hij x3,a.free i j hij x4,a.free i j hij x5,a.free i j hij x6⟩
theorem TG.c8 {h H:GH} {w w':World} (a:TG h w H w') (i j x0 x1 x2 x3 x4 x5 x6 x7:Nat) {b:Nat} {T:WK} {C:Array Value} (hij:(H.getD i [])[j]?=some (cl b T C):=by exact rfl):w'.cell? ⟨b,x0,none⟩=C[x0]?/\w'.cell? ⟨b,x1,none⟩=C[x1]?/\w'.cell? ⟨b,x2,none⟩=C[x2]?/\w'.cell? ⟨b,x3,none⟩=C[x3]?/\w'.cell? ⟨b,x4,none⟩=C[x4]?/\w'.cell? ⟨b,x5,none⟩=C[x5]?/\w'.cell? ⟨b,x6,none⟩=C[x6]?/\w'.cell? ⟨b,x7,none⟩=C[x7]?:=⟨a.cell i j hij x0,a.cell i j hij x1,a.cell i j hij x2,a.cell i j hij x3,a.cell i j hij x4,a.cell i j hij x5,a.cell i j hij x6,a.cell i j hij x7⟩
theorem TG.f8 {h H:GH} {w w':World} (a:TG h w H w') (i j x0 x1 x2 x3 x4 x5 x6 x7:Nat) {b:Nat} {T:WK} {C:Array Value} (hij:(H.getD i [])[j]?=some (cl b T C):=by exact rfl):w'.frozen? ⟨b,x0,none⟩=false/\w'.frozen? ⟨b,x1,none⟩=false/\w'.frozen? ⟨b,x2,none⟩=false/\w'.frozen? ⟨b,x3,none⟩=false/\w'.frozen? ⟨b,x4,none⟩=false/\w'.frozen? ⟨b,x5,none⟩=false/\w'.frozen? ⟨b,x6,none⟩=false/\w'.frozen? ⟨b,x7,none⟩=false:=⟨a.free i j hij x0,a.free i j hij x1,a.free i j hij x2,a.free i j hij x3,a.free i j hij x4,a.free i j hij x5,a.free i j hij x6,a.free i j hij x7⟩
def Q1 (e:WK) (size:Nat) (v:Value) (n:Nat) (xs:List Value) (g:List ak):Prop :=
 xs.length=n*size/\((v=.slice none 0 0/\n=0/\g=[]) \/
  ∃ b cap cur,v=.slice (some ⟨b,0,none⟩) n cap/\g=[cl b e cur]/\n<=cap/\cap<=maxLen/\cur.size=cap*size/\cur.toList.take (n*size)=xs)
section
variable {e:WK} {size:Nat} {v:Value} {n:Nat} {xs:List Value} {g:List ak} {h H:GH} {w w':World}
theorem X5 (e:WK) (size:Nat):Q1 e size (.slice none 0 0) 0 [] []:=⟨by simp,.inl ⟨rfl,rfl,rfl⟩⟩
theorem Up (e:WK) (size b n cap:Nat) (cur:Array Value) (h1:n<=cap) (h2:cap<=maxLen) (h3:cur.size=cap*size):Q1 e size (.slice (some ⟨b,0,none⟩) n cap) n (cur.toList.take (n*size)) [cl b e cur] :=
 ⟨by rw [YA,Array.length_toList,h3];exact Nat.min_eq_left (XK _ h1),.inr ⟨b,cap,cur,rfl,rfl,h1,h2,h3,rfl⟩⟩
theorem Q1.open (r:Q1 e size v n xs g) (hn:0<n):∃ b cap cur,v=.slice (some ⟨b,0,none⟩) n cap/\g=[cl b e cur]/\n<=cap/\cap<=maxLen/\cur.size=cap*size/\∀ j,j<n*size->cur[j]?=xs[j]?:=by
 rcases r.2 with ⟨_,h0,_⟩ | ⟨b,cap,cur,h1,h2,h3,h4,h5,h6⟩
 ·omega
 ·refine ⟨b,cap,cur,h1,h2,h3,h4,h5,fun j hj=>?_⟩
  rw [<- h6,List.getElem?_take,if_pos hj,Array.getElem?_toList]
theorem Q1.val (r:Q1 e size v n xs g):∃ a cap,v=.slice a n cap:=by
 rcases r.2 with ⟨h1,h2,_⟩ | ⟨b,cap,cur,h1,_⟩
 ·subst h2;exact ⟨_,_,h1⟩
 ·exact ⟨_,_,h1⟩
theorem Q1.set (r:Q1 e size v n xs g) {b:Nat} {cur:Array Value} (hg:g=[cl b e cur]) (j:Nat) (x:Value):Q1 e size v n (xs.set j x) [cl b e (cur.setIfInBounds j x)]:=by
 subst hg;refine ⟨by rw [XF];exact r.1,?_⟩
 rcases r.2 with ⟨_,_,h3⟩ | ⟨b',cap,cur',h1,h2,h3,h4,h5,h6⟩
 ·cases h3
 ·cases h2
  refine .inr ⟨b,cap,_,h1,rfl,h3,h4,by simpa using h5,?_⟩
  rw [<- h6,Array.toList_setIfInBounds,List.take_set]
theorem TG.owns (T:TG h w H w') (i:Nat) (hi:H.getD i []=g) (r:Q1 e size v n xs g):w'.ownsRow 0 e size v n xs:=by
 refine ⟨r.1,?_⟩
 rcases r.2 with ⟨h1,h2,_⟩ | ⟨b,cap,cur,h1,h2,h3,h4,h5,h6⟩
 ·exact .inl ⟨h1,h2⟩
 ·exact .inr ⟨b,cap,cur,h1,Nat.zero_le _,T.obj (p:=(b,.cells cur e (0,0))) i 0 (by rw [hi,h2];rfl),h3,h4,h5,h6⟩
theorem TG.xR (T:TG h w H w') (i:Nat) (hi:i<H.length):TG h w (H.set i []) w':=by
 have T':Qh _ _ _ _:=Qh.perm T (qe (Ae hi));rw [Zq] at T';exact T'.drop
theorem TG.putAt (T:TG h w H w') (i:Nat) (hi:i<H.length) {k:Nat} (hk:k=w'.heap.size) (o:Obj):TG h w (H.set i [(k,o)]) (w'.alloc o):=by
 refine ((T.xR i hi).put hk o).re ?_
 rw [XM];refine List.perm_append_comm.trans ?_
 have:([[(k,o)]]:GH).flatten=[(k,o)]:=by simp
 rw [this];exact (B6 _ hi).symm
theorem KS {P:WQ} (t ty e:WK) (i:TypeInfo) (z:Value) (size bytes:Nat) (ht:P.underlying t=some (.slice e)) (hi:P.info? e=some i) (hz:i.zero=some z)
 (hsize:i.size=size) (hby:i.bytes=bytes) (hzs:z.cells.size=size) (hsz:0<size)
 (T:TG h w H w') (k:Nat) (hk:k<H.length) (hg:H.getD k []=g) (r:Q1 e size v n xs g)
 (a:Addr) (m c:Nat) (news:List Value) (hl:news.length=m*size) (hnews:∀ j u,news[j]?=some u->w'.cell? (a.add j)=some u) (h1:∀ u∈news,u.oneCell'=true)
 (h63:n+m<=maxLen) (hbytes:(n+m)*bytes<=140737488355328) :
 ∃ v' w'' g',(Builtin.append_ #[t,t] ty #[v,.slice (some a) m c]).run P w'=.ok v' w''/\Q1 e size v' (n+m) (xs++news) g'/\TG h w (H.set k g') w'':=by
 subst hsize;subst hby;have hsmall:n+m<=9223372036854775807:=by simp only [maxLen] at h63;omega
 have hlen:(xs++news).length=(n+m)*i.size:=by rw [XW,r.1,hl,Nat.add_mul]
 have grown:∀ (old:Nat),old<n+m ->
  Q1 e i.size (.slice (some ⟨w'.heap.size,0,none⟩) (n+m) (grownCap w' (n+m) old e)) (n+m) (xs++news) [cl w'.heap.size e (xs.toArray++news.toArray++Builtin.zeroCells z.cells (grownCap w' (n+m) old e - (n+m)))]:=by
  intro old ho;have hge:=grownCap_ge w' (n+m) old e;have hcm:grownCap w' (n+m) old e<=maxLen:=grownCap_le_maxLen w' (n+m) old e h63;refine ⟨hlen,.inr ⟨w'.heap.size,_,_,rfl,rfl,hge,hcm,?_,?_⟩⟩
  ·simp only [Array.size_append,XY,size_zeroCells,hzs,r.1,hl,<- Nat.add_mul]
   congr 1
   omega
  ·simp only [Array.toList_append,WM]
   rw [<- WM,<- hlen];exact List.take_left
 rcases r.2 with ⟨rfl,rfl,rfl⟩ | ⟨b,cap,cur,rfl,rfl,hnc,hcm,hcs,htake⟩
 ·have hx:xs=[]:=XL (by simpa using r.1)
  subst hx;by_cases hm:m=0
  ·subst hm
   have hn:news=[]:=XL (by simpa using hl);subst hn;refine ⟨.slice none 0 0,w',[],?_,X5 e i.size,T.xR k hk⟩
   simp [Builtin.append_,run_underlying ht,sizeOf,typeInfo,hi,Builtin.lenOf,Builtin.firstCells,loadCells,loadCellsFrom]
  ·have hr:=run_append_nil (P:=P) w' t ty e i z ht hi hz a m c news hl hnews (by omega) (by omega) (by have hb:=hbytes;simp only [YG] at hb;omega)
   have hgr:=grown 0 (by omega);simp only [YG,YD,Array.empty_append] at hgr |-;exact ⟨_,_,_,hr,hgr,T.drew.putAt k hk rfl _⟩
 ·have hgb:w'.heap[b]?=some (.cells cur e (0,0)):=T.obj (p:=(b,.cells cur e (0,0))) k 0 (by rw [hg];rfl)
  by_cases hroom:n+m<=cap
  ·have hfit:n*i.size+news.length<=cur.size:=by rw [hl,hcs,<- Nat.add_mul];exact XK _ hroom
   have hr:=run_append_room (P:=P) w' t ty e i ht hi b n cap cur hgb a m c news hl hnews h1 hroom hfit
   refine ⟨_,_,[cl b e (cur.toList.take (n*i.size)++news++cur.toList.drop (n*i.size+news.length)).toArray],hr,⟨hlen,.inr ⟨b,cap,_,rfl,rfl,hroom,hcm,?_,?_⟩⟩,
    T.turn (pre:=[]) (post:=[]) k (o':=.cells _ e (0,0)) hk hg (setRow_heap w' b cur _ e _ hgb) (fun j hj=>setRow_other w' b j _ hj) (by simp) rfl rfl rfl⟩
   ·simp only [XY,XW,YA,List.length_drop,Array.length_toList]
    omega
   ·rw [htake,<- hlen]
    exact List.take_left
  ·have hown:w'.ownsRow 0 e i.size (.slice (some ⟨b,0,none⟩) n cap) n xs:=T.owns k hg r
   have holds:∀ j u,xs[j]?=some u->w'.cell? ((⟨b,0,none⟩:Addr).add j)=some u:=hown.cells (g:=b) rfl;have hr:=run_append_grow (P:=P) w' t ty e i z ht hi hz ⟨b,0,none⟩ n cap xs r.1 holds a m c news hl hnews (by omega) (by omega) (growslice_fits (by omega) hbytes);exact ⟨_,_,_,hr,grown cap (by omega),T.drew.putAt k hk rfl _⟩
theorem X3 {P:WQ} {ops:Array Oper} {rest:List Oper} {o:Oper} {a:Act} {Q:Exit->Act->World->Prop} (hgd:o.guard=none) (s x:Operand) (t:WK)
 (ho:o.op=.call { callee:=.builtin .append,args:=#[s,x],argTypes:=#[t,t] })
 (e:WK) (size bytes:Nat) (z:Value) (ht:P.underlying t=some (.slice e)) (hinfo:(P.info? e).map (fun i=>(i.zero,i.size,i.bytes))=some (some z,size,bytes)) (hzs:z.cells.size=size) (hsz:0<size)
 (T:TG h w H w') (k:Nat) (hk:decide (k<H.length)=true) (hg:H.getD k []=g) (r:Q1 e size v n xs g) (hs:a.eval s=v)
 (ad:Addr) (m c:Nat) (news:List Value) (hx:a.eval x=.slice (some ad) m c) (hl:news.length=m*size) (hnews:∀ j u,news[j]?=some u->w'.cell? (ad.add j)=some u) (h1:∀ u∈news,u.oneCell'=true)
 (h63:n+m<=maxLen) (hbytes:(n+m)*bytes<=140737488355328)
 (hK:∀ v' w'' g',Q1 e size v' (n+m) (xs++news) g'->TG h w (H.set k g') w''->XP P ops Q rest (a.put o.dst v') w''):XP P ops Q (o::rest) a w':=by
 obtain ⟨i,hi,hz,hsize,hby⟩:=info_parts hinfo;refine wpList_plain hgd fun K hK'=>?_
 obtain ⟨v',w'',g',hr,h2,h3⟩:=KS (P:=P) t o.type e i z size bytes ht hi hz hsize hby hzs hsz T k (of_decide_eq_true hk) hg r ad m c news hl hnews h1 h63 hbytes;unfold Oper.wp execOp;simp only [ho,resolve,invoke,builtin,Sem.run_bind,Sem.run_pure,Result.andThen_ok,List.map_toArray,XD,List.map_nil,hs,hx,hr];exact hK' _ _ (hK v' w'' g' h2 h3)
end
theorem Za (w:World) (T:WK) (l:List Value):∀ j u,l[j]?=some u->(w.alloc (.cells l.toArray T)).cell? ((⟨w.heap.size,0,none⟩:Addr).add j)=some u:=by
 intro j u hu;have e:((⟨w.heap.size,0,none⟩:Addr).add j)=⟨w.heap.size,j,none⟩:=by unfold Addr.add;split <;> simp_all
 rw [e,Q5 (Bl _ rfl)];simpa using hu
def vD (lo c:Nat) (H:GH):Prop:=∀ k,k∈keys (ex H.flatten)->¬ CU lo c k
section
variable {h H H':GH} {w w' w'':World} {lo c:Nat}
theorem Yc.lt (a:Yc H w) {k:Nat} (hk:k∈keys (ex H.flatten)):k<w.heap.size:=Has.lt a hk
theorem vD.of_lt (a:Yc H w) (hw:w.heap.size<=lo):vD lo c H:=fun k hk hx=>by have:=a.lt hk;have:=hx.1;omega
theorem vD.next (a:vD lo c H) (T:TG H w H' w') (hw:lo+c<=w.heap.size):vD lo c H':=fun k hk hx=>by
 rcases Qh.news T k hk with h1 | h1
 ·exact a k h1 hx
 ·have:=hx.2;omega
theorem TG.kept (T:TG H w H' w') (a:vD lo c H) (hw:lo+c<=w.heap.size):Yj lo c w w' :=
 Yj.wW (Qh.only T) hw (fun k h1 h2 hk=>a k hk ⟨h1,h2⟩)
theorem Yc.only {S:Nat->Prop} (a:Yc H w) (ho:qj S w w') (hs:∀ k,k∈keys (ex H.flatten)->¬ S k):Yc H w':=Has.only a ho hs
theorem TG.other {S:Nat->Prop} (T:TG h w H w') (ho:qj S w' w'') (hs:∀ k,k∈keys (ex H.flatten)->¬ S k) (hn:∀ k,S k->w.heap.size<=k):TG h w H w'' :=
 ⟨T.has.only ho hs,(Qh.only T).trans' ho (fun k hk hx=>by have:=hn k hx;omega),Qh.news T⟩
end
def K3 (J:Nat->GH->Prop) (Jx:Nat->Code->GH->Prop) (k:Nat) (H:GH) (W:World):Exit->Act->World->Prop
 | .normal,_,W'=>∃ H',J k H'/\TG H W H' W'
 | .ret,_,W'=>∃ H',Jx k .ret H'/\TG H W H' W'
 | .exit id,_,W'=>∃ H',Jx k (.exit id) H'/\TG H W H' W'
 | .goto t,_,W'=>∃ H',Jx k (.goto t) H'/\TG H W H' W'
 | .panic _,_,_=>False
 | .outgrown,_,_=>False
def QB (P:WQ) (g:Nat) (lb:Array Value) (c N:Nat) (xs:Nat->Array Value) (T:Nat->GH->Prop):Prop :=
 ∀ W,NZ P g lb c N xs (fun k W'=>∃ H,T k H/\Yc H W') W
def Ee (w0:World) (D:Nat) (H:GH) (W:World):Prop:=w0.heap.size<=D/\D<W.heap.size/\D ∉ keys (ex H.flatten)
theorem TG.fin {h H H':GH} {w0 W W':World} {D:Nat} (T:TG h w0 H W) (hA:Ee w0 D H W) (T2:TG H W H' W') (o:Obj):TG h w0 H' (W'.putObj D o) :=
 (T.trans T2).other (qj.putObj (S:=fun j=>j=D) (qj.refl _ _) _ (.inl rfl) o) (fun k hk e=>by
   subst e;rcases Qh.news T2 k hk with h1 | h1
   ·exact hA.2.2 h1
   ·have:=hA.2.1;omega) (fun k e=>by rw [e];exact hA.1)
theorem q0e {P:WQ} {g:Operand} {ps:Array Tmp} {assign body:Code} {Q:Exit->Act->World->Prop} {a:Act} {w0 w:World} {gf:Nat} {lb:Array Value}
 (hg:a.eval g=.func (.func gf) #[] lb) (eg:∀ args w,(callFunc gf args).run P w=.ok (.enter gf args) w)
 {c N:Nat} {xs:Nat->Array Value} {T:Nat->GH->Prop} (hit:QB P gf lb c N xs T) (hps:∀ (k:Nat),k<N->(xs k).size=ps.size)
 {h H0:GH} (T0:TG h w0 H0 w) (J:Nat->GH->Prop) (Jx:Nat->Code->GH->Prop) (h0:J 0 H0) (hT:∀ k H,k<=N->J k H->T k H)
 (hbody:∀ (k:Nat),k<N->∀ (H:GH) (W:World) (l:Nat),J k H->Yc H W ->
   assign.wpIn (Fence.wide.inRound l) 0 P (Exit.then (fun a₁ Wa=>∃ Ha,TG H W Ha Wa /\
    ∀ Wb,Yc Ha Wb->body.wpIn (Fence.wide.inRound l) 0 P (K3 J Jx (k+1) Ha Wb) a₁ Wb) (fun _ _ _=>False))
    { tmps:=(ps.zip (xs k)).foldl (fun t (p,v)=>t.setIfInBounds p v) a.tmps,defers:=[] } W)
 (hdone:∀ H W D,J N H->TG h w0 H W->Ee w0 D H W->W.heap[D]?=some (.deferred (some []))->Q .normal { a with defers:=rC D::a.defers } W)
 (hstop:∀ k cd H W D,k<N->Jx (k+1) cd H->TG h w0 H W->Ee w0 D H W->W.heap[D]?=some (.deferred (some []))->cd.wp P Q { a with defers:=rC D::a.defers } W) :
 (Code.rangeFunc g ps assign body).wp P Q a w:=by
 have hw0:w0.heap.size<=w.heap.size:=(Qh.only T0).size
 refine q3r hg eg c N xs (fun k W'=>∃ H,T k H/\Yc H W') (fun W1 _ _=>hit W1) hps
  (fun k W=>∃ H,J k H/\TG h w0 H W/\vD w.heap.size (2+c) H)
  (fun k cd W=>∃ H,Jx k cd H/\TG h w0 H W/\vD w.heap.size (2+c) H) ?_ ?_ ?_ ?_ ?_ ?_ ?_
 ·rintro k A B ⟨H,hJ,qZ,hA⟩ hle ho
  exact ⟨H,hJ,qZ.other ho (fun i hi hx=>hA i hi hx) (fun i hx=>XT hw0 hx.1),hA⟩
 ·rintro cd k A B ⟨H,hJ,qZ,hA⟩ hle ho
  exact ⟨H,hJ,qZ.other ho (fun i hi hx=>hA i hi hx) (fun i hx=>XT hw0 hx.1),hA⟩
 ·rintro k W hk ⟨H,hJ,qZ,_⟩
  exact ⟨H,hT k H hk hJ,qZ.has⟩
 ·exact ⟨H0,h0,T0,vD.of_lt T0.has (XN _)⟩
 ·rintro k hk W ⟨H,hJ,qZ,hA⟩ hz hr
  refine wpIn_mono (hbody k hk H W (w.heap.size+1) hJ qZ.has) ?_
  intro e a₁ Wa hex;cases e with
  | normal =>
    obtain ⟨Ha,wJ,hb⟩:=hex;have hza:=(Qh.only wJ).size;have FR:=hA.next wJ (by omega);refine ⟨wJ.kept hA (by omega),fun Wb ho hzb _=>?_⟩
    have yV:Yc Ha Wb:=wJ.has.only ho (fun i hi e=>FR i hi ⟨by omega,by omega⟩);have hTb:TG h w0 Ha Wb:=(qZ.trans wJ).other ho (fun i hi e=>FR i hi ⟨by omega,by omega⟩) (fun i e=>by omega);refine wpIn_mono (hb Wb yV) ?_
    intro e2 a₂ W3 h3
    have fin:∀ H',TG Ha Wb H' W3->Yj w.heap.size (2+c) Wb W3/\TG h w0 H' W3/\vD w.heap.size (2+c) H':=fun H' sW =>
     ⟨sW.kept FR (by omega),hTb.trans sW,FR.next sW (by omega)⟩
    cases e2 with
    | normal=>obtain ⟨H',hJ',sW⟩:=h3;obtain ⟨f1,f2,f3⟩:=fin H' sW;exact ⟨f1,H',hJ',f2,f3⟩
    | ret=>obtain ⟨H',hJ',sW⟩:=h3;obtain ⟨f1,f2,f3⟩:=fin H' sW;exact ⟨f1,H',hJ',f2,f3⟩
    | exit id=>obtain ⟨H',hJ',sW⟩:=h3;obtain ⟨f1,f2,f3⟩:=fin H' sW;exact ⟨f1,H',hJ',f2,f3⟩
    | goto t=>obtain ⟨H',hJ',sW⟩:=h3;obtain ⟨f1,f2,f3⟩:=fin H' sW;exact ⟨f1,H',hJ',f2,f3⟩
    | panic ch=>exact h3.elim
    | outgrown=>exact h3.elim
  | ret=>exact hex.elim
  | exit id=>exact hex.elim
  | goto t=>exact hex.elim
  | panic ch=>exact hex.elim
  | outgrown=>exact hex.elim
 ·rintro W ⟨H,hJ,qZ,hA⟩ hK
  have Ki:Ee w0 w.heap.size H W:=⟨hw0,(WW.1 hK).1,fun hk=>hA _ hk ⟨XN _,by omega⟩⟩;exact hdone H W _ hJ qZ Ki hK
 ·rintro k cd W hk ⟨H,hJ,qZ,hA⟩ hK
  have Ki:Ee w0 w.heap.size H W:=⟨hw0,(WW.1 hK).1,fun hk=>hA _ hk ⟨XN _,by omega⟩⟩;exact hstop k cd H W _ hk hJ qZ Ki hK
def Qe (P:WQ) (f:Nat) (args:Array Value) (gs:GH) (v:Value):Prop :=
 ∀ w,Yc gs w->Calls P f args w fun e w'=>e=WN v/\∃ m,w'=w.drewN m
section
variable {P:WQ} {f:Nat} {args:Array Value} {gs h H:GH} {v:Value} {w w1:World}
theorem Qe.does (r:Qe P f args gs v):Qa P f args gs fun e gs'=>e=WN v/\gs'=gs :=
 fun w hw=>(r w hw).mono fun e w' ⟨he,m,hw'⟩=>⟨gs,⟨he,rfl⟩,by subst hw';exact (TG.refl hw).drewN m⟩
theorem Qe.use (r:Qe P f args gs v) (T:TG h w H w1) (is:List Nat) (hp:kS H is=gs) (hf:og H is=true) :
 Calls P f args w1 fun e w2=>e=WN v/\∃ m,w2=w1.drewN m:=by
 subst hp;exact r w1 (T.pick is hf).has
theorem Qe.quiet (r:Qe P f args gs v) (T:TG h w H w1) (n:Nat) (is:List Nat) (hp:kS H is=gs) (hf:og H is=true) :
 Calls P f args (w1.drewN n) fun e w2=>e=WN v/\∃ m,w2=w1.drewN m :=
 Calls.quiet_of (r.use (T.drewN n) is hp hf)
end
theorem Qe.run {P:WQ} {f:Nat} {args:Array Value} {gs h H:GH} {v:Value} {w w1:World} (r:Qe P f args gs v) (T:TG h w H w1) (is:List Nat) {K:XH->World->Prop} (hK:∀ e w2,e=WN v->XC (TG h w H w2)->K e w2) (hp:kS H is=gs:=by rfl) (hf:og H is=true:=by rfl):Calls P f args w1 K :=
 (r.use T is hp hf).mono fun e w2 ⟨a,m,b⟩=>hK e w2 a (b ▸ T.drewN m)
theorem Jw {ι:Type} {P:WQ} (W:ι->World) {id:Nat} {Q:Exit->Act->World->Prop} {a:Act} {w:World} {l:List Oper} (hm:P.follows .mixedOrders=true) (hB:Region.lexB .any l.toArray=true)
 (h0:∃ i,w.drew=W i) (h:wpQuiet P l.toArray (fun w'=>∃ i,w'=W i) (fun a'=>∀ w',(∃ i,w'=W i)->Q .normal a' w') l a):(Code.region id l.toArray true).wp P Q a w :=
 wp_region_quiet (C:=fun w'=>∃ i,w'=W i) hm hB h0 (by simpa using h)
section
variable {h H:GH} {w w':World}
theorem TG.bF (T:TG h w H w') (i:Nat) {g:List ak} (hi:decide (i<H.length)=true) (hp:(H.getD i []).Perm g):TG h w (H.set i g) w':=by
 have hi:=of_decide_eq_true hi;exact T.re ((Ae hi).trans ((hp.append_right _).trans (B6 g hi).symm))
theorem TG.merge (T:TG h w H w') (i j:Nat) (hij:i≠j) (hi:decide (i<H.length)=true) (hj:decide (j<H.length)=true):TG h w ((H.set j []).set i (H.getD i []++H.getD j [])) w':=by
 have hi:=of_decide_eq_true hi;have hj:=of_decide_eq_true hj;have hi':i<(H.set j []).length:=by rw [XF];exact hi
 have e:(H.set j []).getD i []=H.getD i []:=by rw [WL,WZ,if_neg (Ne.symm hij),<- WL]
 refine T.re ((Ae hj).trans ?_)
 refine List.Perm.trans ?_ (B6 _ hi').symm
 refine ((Ae hi').append_left _).trans ?_
 rw [e,<- WM];exact List.perm_append_comm.append_right _
end
section
variable {α:Type} {f:α->List ak} {l:List α} {k:Nat} {a:α}
theorem Yg (hk:l[k]?=some a):l.set k a=l:=by
 apply XX
 intro i;rw [WZ];split
 ·next e=>subst e;rw [hk];simp [(XO.1 hk).1]
 ·rfl
end
def Yx {α:Type} (P:α->List ak->Prop):List α->List ak->Prop
 | [],g=>g=[]
 | a::l,g=>∃ x y,P a x/\Yx P l y/\g=x++y
section
variable {α:Type} {P:α->List ak->Prop}
theorem Yx.snoc {l:List α} {g x:List ak} {a:α} (h:Yx P l g) (hx:P a x):Yx P (l++[a]) (g++x):=by
 induction l generalizing g with
 | nil=>obtain rfl:g=[]:=h;exact ⟨x,[],hx,rfl,by simp⟩
 | cons b l ih =>
   obtain ⟨y,z,hy,hz,rfl⟩:=h;exact ⟨y,z++x,hy,ih hz,by simp⟩
theorem Yx.out {l:List α} {g:List ak} {k:Nat} {a:α} (h:Yx P l g) (hk:l[k]?=some a) :
 ∃ x y,P a x/\g.Perm (x++y)/\∀ a' x',P a' x'->∃ g',Yx P (l.set k a') g'/\(x'++y).Perm g':=by
 induction l generalizing g k with
 | nil=>simp at hk
 | cons b l ih =>
   obtain ⟨u,v,hu,hv,rfl⟩:=h;cases k with
   | zero =>
     simp only [List.getElem?_cons_zero,XZ] at hk;subst hk;exact ⟨u,v,hu,WS _,fun a' x' hx'=>⟨x'++v,⟨x',v,hx',hv,rfl⟩,WS _⟩⟩
   | succ k =>
     simp only [WV] at hk;obtain ⟨x,y,hx,hp,hr⟩:=ih hv hk;refine ⟨x,u++y,hx,?_,fun a' x' hx'=>?_⟩
     ·refine (hp.append_left u).trans ?_
      rw [<- WM,<- WM];exact List.perm_append_comm.append_right _
     ·obtain ⟨g',hg',hp'⟩:=hr a' x' hx'
      refine ⟨u++g',⟨u,g',hu,hg',rfl⟩,?_⟩
      refine List.Perm.trans ?_ (hp'.append_left u)
      rw [<- WM,<- WM];exact List.perm_append_comm.append_right _
end
end
section
open Go.RowKit Go.Shelf Go.Maps Go.ChangeMaps Go.MapKept
open Go.WideElems (Fit rd rg pl rd_val elemAt)
def EP (v:Value):Option (DataW Value × List MemPlace):=some (.held v,[])
def Ar (D:DataW Value) (m:Lit->Option Value) (z:Nat):Prop :=
 Tidy D/\Maps.size D=z/\∀ kl,WideAt.IsKeyLit kl->Maps.has D kl=(m kl).isSome/\∀ u,D.atKey kl (.held u)=.held ((m kl).getD u)
def nA (P:WQ) (K:WK) (b n:Nat) (m:Lit->Option Value) (z:Nat) (g:List ak):Prop :=
 ∃ es clock D,g=[(b,.map es clock)]/\(∀ w:World,w.heap[b]?=some (.map es clock)->w.ownsMap P K EP b n D)/\Ar D m z
open Classical in
noncomputable def pg (m:Lit->Option Value) (k:Lit) (v:Value):Lit->Option Value:=fun x=>if x=k then some v else m x
open Classical in
noncomputable def q5z (m:Lit->Option Value) (k:Lit):Lit->Option Value:=fun x=>if x=k then none else m x
def Gc:Lit->Option Value:=fun _=>none
theorem ownsMap_at {P:WQ} {K:WK} {R:Value->Option (DataW Value × List MemPlace)} {b n:Nat} {D:DataW Value} {w:World} (h:w.ownsMap P K R b n D) :
 ∃ es clock,w.heap[b]?=some (.map es clock)/\∀ w':World,w'.heap[b]?=some (.map es clock)->w'.ownsMap P K R b n D:=by
 obtain ⟨es,clock,hb,r⟩:=h;exact ⟨es,clock,hb,fun w' hb'=>⟨es,clock,hb',r⟩⟩
theorem Ui (P:WQ) (K:WK) (b:Nat):nA P K b 0 Gc 0 [(b,.map #[] 0)]:=by
 refine ⟨#[],0,.map [],rfl,fun w hb=>⟨#[],0,hb,⟨by simp,stamped_empty 0,by simp⟩,XN _,rfl⟩,tidy_empty,rfl,fun kl _=>⟨rfl,fun u=>rfl⟩⟩
theorem qz6 {D:DataW Value} {m:Lit->Option Value} {z:Nat} (h:Ar D m z) {kl:Lit} (hk:WideAt.IsKeyLit kl) (v:Value):Ar (D.put kl (.held v)) (pg m kl v) (if (m kl).isSome then z else z+1):=by
 obtain ⟨t,s,a⟩:=h;refine ⟨t.put hk _,?_,fun k' hk'=>?_⟩
 ·rw [size_put t,(a kl hk).1,s]
 ·by_cases e:k'=kl
  ·subst e
   rw [has_put_same t.isMap hk];simp only [pg,if_true,Option.isSome_some,Option.getD_some,true_and];exact fun u=>atKey_put_same t.isMap hk _ _
  ·rw [has_put_other e]
   simp only [pg,if_neg e];exact ⟨(a k' hk').1,fun u=>(atKey_put_other e _ _).trans ((a k' hk').2 u)⟩
theorem qz5 {D:DataW Value} {m:Lit->Option Value} {z:Nat} (h:Ar D m z) {kl:Lit} (hk:WideAt.IsKeyLit kl) (t':Tidy (D.del kl)):Ar (D.del kl) (q5z m kl) (if (m kl).isSome then z - 1 else z):=by
 obtain ⟨t,s,a⟩:=h;refine ⟨t',?_,fun k' hk'=>?_⟩
 ·have h1:=size_del (k:=kl) t
  rw [(a kl hk).1,s] at h1;split at h1 <;> simp_all
  omega
 ·by_cases e:k'=kl
  ·subst e
   rw [has_del_same];simp only [q5z,if_true,Option.isSome_none,Option.getD_none,true_and];exact fun u=>atKey_del_same _
  ·rw [has_del_other e]
   simp only [q5z,if_neg e];exact ⟨(a k' hk').1,fun u=>(atKey_del_other e _).trans ((a k' hk').2 u)⟩
section
variable {P:WQ} {K T E:WK} {b n z:Nat} {m:Lit->Option Value} {g:List ak} {h H:GH} {w w1:World}
theorem TG.l9 (T:TG h w H w1) (i:Nat) (hi:H.getD i []=g) (r:nA P K b n m z g):∃ D,w1.ownsMap P K EP b n D/\Ar D m z:=by
 obtain ⟨es,clock,D,rfl,ho,hv⟩:=r;exact ⟨D,ho w1 (T.obj (p:=(b,.map es clock)) i 0 (by rw [hi];rfl)),hv⟩
theorem TG.mapTurned (T:TG h w H w1) (i:Nat) (hi:decide (i<H.length)=true) (hg:H.getD i []=g) (r:nA P K b n m z g) {w2:World} (ht:w1.mapTurned w2 b) {D':DataW Value} {n' z':Nat} {m':Lit->Option Value}
 (ho:w2.ownsMap P K EP b n' D') (hv:Ar D' m' z'):∃ g',nA P K b n' m' z' g'/\TG h w (H.set i g') w2:=by
 obtain ⟨es,clock,D,rfl,_,_⟩:=r;obtain ⟨es',clock',hb',ho'⟩:=ownsMap_at ho;refine ⟨[(b,.map es' clock')],⟨es',clock',D',rfl,ho',hv⟩,?_⟩
 obtain ⟨_,_,es2,clock2,hb,rfl⟩:=ht;exact T.turn (pre:=[]) (post:=[]) i (of_decide_eq_true hi) hg hb' (fun k hk=>heap_setBlock_other hb _ hk) (by simp [setBlock]) rfl rfl rfl
variable {ops:Array Oper} {rest:List Oper} {o:Oper} {a:Act} {Q:Exit->Act->World->Prop}
theorem Jd (hgd:o.guard=none) (mo x:Operand) (hop:o.op=Op.lookup T mo x true) (hK:Keyed P K) (ht:P.underlying T=some (.map K E)) (zero:Value) (hz:∀ w,(zeroValue E).run P w=.ok zero w)
 (TT:TG h w H w1) (i:Nat) (hi:H.getD i []=g) (r:nA P K b n m z g) (hm:a.eval mo=.map (some b)) (key:Value) (kl:Lit) (hx:a.eval x=key) (hkey:keyOf P K key=some kl)
 (hk:XP P ops Q rest (a.put o.dst (.tuple #[(m kl).getD zero,.bool (m kl).isSome])) w1):XP P ops Q (o::rest) a w1:=by
 refine wpList_plain hgd fun K' hK'=>?_
 obtain ⟨D,hown,hv⟩:=TT.l9 i hi r;obtain ⟨v,ps,hrun,hR⟩:=hown.look_ok hK ht (hz w1) (zd:=.held zero) (zp:=[]) rfl hkey
 have e:v=(m kl).getD zero:=by
  rw [(hv.2.2 kl (hK.key hkey)).2 zero] at hR;simp only [EP,XZ,Prod.mk.injEq,DataW.held.injEq] at hR;exact hR.1
 subst e;rw [(hv.2.2 kl (hK.key hkey)).1] at hrun;unfold Oper.wp;simp [execOp,hop,hm,hx,hrun,Result.andThen]
 exact hK' _ _ hk
theorem Jq (hgd:o.guard=none) (mo x v:Operand) (hop:o.op=Op.mapUpdate T mo x v) (hK:Keyed P K) (ht:P.underlying T=some (.map K E))
 (TT:TG h w H w1) (i:Nat) (hi:decide (i<H.length)=true) (hg:H.getD i []=g) (r:nA P K b n m z g) (hn:n<maxLen) (hm:a.eval mo=.map (some b)) (key val:Value) (kl:Lit) (hx:a.eval x=key) (hv:a.eval v=val) (hkey:keyOf P K key=some kl)
 (hk:∀ w2 g',nA P K b (n+1) (pg m kl val) (if (m kl).isSome then z else z+1) g'->TG h w (H.set i g') w2->XP P ops Q rest (a.put o.dst undef) w2):XP P ops Q (o::rest) a w1:=by
 refine wpList_plain hgd fun K' hK'=>?_
 obtain ⟨D,hown,hvw⟩:=TT.l9 i hg r;obtain ⟨w2,hrun,ho,Ku⟩:=hown.store hK ht hn hkey (d:=.held val) (ps:=[]) rfl;obtain ⟨g',r',T'⟩:=TT.mapTurned i hi hg r Ku ho (qz6 hvw (hK.key hkey) val);unfold Oper.wp;simp [execOp,hop,hm,hx,hv,hrun,Result.andThen]
 exact hK' _ _ (hk w2 g' r' T')
theorem qis (hgd:o.guard=none) (mo x:Operand) (hop:o.op=Op.call { callee:=Callee.builtin Builtin.delete,args:=#[mo,x],argTypes:=#[T,K] }) (hK:Keyed P K) (ht:P.underlying T=some (.map K E))
 (TT:TG h w H w1) (i:Nat) (hi:decide (i<H.length)=true) (hg:H.getD i []=g) (r:nA P K b n m z g) (hm:a.eval mo=.map (some b)) (key:Value) (kl:Lit) (hx:a.eval x=key) (hkey:keyOf P K key=some kl)
 (hk:∀ w2 g',nA P K b n (q5z m kl) (if (m kl).isSome then z - 1 else z) g'->TG h w (H.set i g') w2->XP P ops Q rest (a.put o.dst (.tuple #[])) w2):XP P ops Q (o::rest) a w1:=by
 refine wpList_plain hgd fun K' hK'=>?_
 obtain ⟨D,hown,hvw⟩:=TT.l9 i hg r;obtain ⟨w2,hrun,ho,Ku⟩:=hown.drop hK ht hkey o.type;obtain ⟨g',r',T'⟩:=TT.mapTurned i hi hg r Ku ho (qz5 hvw (hK.key hkey) (ho.tidy hK));unfold Oper.wp;simp [execOp,hop,resolve,invoke,builtin,hm,hx,hrun,Result.andThen]
 exact hK' _ _ (hk w2 g' r' T')
end
end
end Go.Proofs.YtcneeepdclgdcaaGreat
