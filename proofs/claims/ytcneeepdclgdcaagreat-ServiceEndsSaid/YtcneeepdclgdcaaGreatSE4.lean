import Derived.Test.YtcneeepdclgdcaaGreatSE3
import Derived.Deep.RegionHeld3
import Derived.BigQuiet
import Derived.Deep.Light
import Derived.Lib.Hide
import Derived.Laws.EntriesVeiled
import Derived.OwnWalk
import Derived.Laws.MakeOwn
import Derived.Deep.QuietTactic
set_option maxRecDepth 100000
set_option maxHeartbeats 4000000
namespace Go.Proofs.YtcneeepdclgdcaaGreat
open Go renaming TypeId->U1,Program->U8,Ending->UQ,madeCells->Vg
open _root_.List renaming getD_eq_getElem?_getD->U2,append_assoc->U3,mem_cons_self->U5,mem_cons_of_mem->U6,mem_cons->U9,mem_of_getElem?->UA,getElem?_cons_succ->UB,mem_map->UD,nodup_append->UE,getElem?_set->UF,mem_append_left->UG,map_cons->UJ,nodup_cons->UK,length_set->UL,flatten_cons->UM,mem_append_right->UN,getElem?_toArray->UO,eq_nil_of_length_eq_zero->UR,flatten_append->US,getElem?_eq_some_iff->UT,map_append->UU,perm_append_comm->UX,set_cons_succ->V6,length_append->V7,ext_getElem?->V8,size_toArray->V9,length_take->Va,mem_append->Vb,append_nil->Vd,nil_append->Ve
open Go.Ending renaming returned->U4
open _root_.List.Perm renaming refl->U7,swap->Vf
open _root_.Array renaming getElem?_eq_some_iff->UC
open _root_.Bool renaming and_eq_true->UH
open Go.RowKit renaming Hid->UI
open _root_.Nat renaming le_refl->UW,le_trans->UY,zero_add->Vi
open Go.RowKit.Below renaming heap_setCell->UZ
set_option linter.all false
section
open Go.RowKit Go.Shelf
abbrev Piece:=Nat × (Obj->Prop)
abbrev PH:=List Piece
def keys (h:PH):List Nat:=h.map Prod.fst
def KE (T:U1) (C:Array Value):Obj->Prop:=fun o=>o=.cells C T (0,0)
abbrev pt (b:Nat) (T:U1) (C:Array Value):Piece:=(b,KE T C)
structure Has (h:PH) (w:World):Prop where
 nodup:(keys h).Nodup
 holds:∀ p∈h,∃ o,w.heap[p.1]?=some o/\p.2 o
structure Qh (h:PH) (w:World) (h':PH) (w':World):Prop where
 has:Has h' w'
 only:q6 (fun k=>k∈keys h) w w'
 news:∀ k,k∈keys h'->k∈keys h\/w.heap.size<=k
theorem qws {l:List Nat} (h:l.Nodup):∀ {i j:Nat} {x:Nat},l[i]?=some x->l[j]?=some x->i=j:=by
 induction l with
 | nil=>intro i j x hi _;simp at hi
 | cons a l ih =>
   obtain ⟨h1,h2⟩:=UK.1 h;intro i j x hi hj;cases i with
   | zero =>
     cases j with
     | zero=>rfl
     | succ j=>simp at hi hj;subst hi;exact absurd (UA hj) h1
   | succ i =>
     cases j with
     | zero=>simp at hi hj;subst hj;exact absurd (UA hi) h1
     | succ j=>simp at hi hj;rw [ih h2 hi hj]
section
variable {h h' h'' F:PH} {w w' w'':World}
theorem Has.perm (H:Has h w) (p:h.Perm h'):Has h' w :=
 ⟨(List.Perm.nodup_iff (p.map _)).1 H.nodup,fun q hq=>H.holds q (p.mem_iff.2 hq)⟩
theorem Has.lt (H:Has h w) {k:Nat} (hk:k∈keys h):k<w.heap.size:=by
 obtain ⟨p,hp,rfl⟩:=UD.1 hk;obtain ⟨o,ho,_⟩:=H.holds p hp;exact (UC.1 ho).1
theorem Jh (a b:PH):keys (a++b)=keys a++keys b:=UU
theorem Has.left (H:Has (h++F) w):Has h w :=
 ⟨(UE.1 (Jh h F ▸ H.nodup)).1,fun p hp=>H.holds p (UG _ hp)⟩
theorem Has.right (H:Has (h++F) w):Has F w :=
 ⟨(UE.1 (Jh h F ▸ H.nodup)).2.1,fun p hp=>H.holds p (UN _ hp)⟩
theorem Has.apart (H:Has (h++F) w) {k:Nat} (h1:k∈keys h) (h2:k∈keys F):False :=
 (UE.1 (Jh h F ▸ H.nodup)).2.2 k h1 k h2 rfl
theorem Has.drew (H:Has h w):Has h w.drew:=⟨H.nodup,H.holds⟩
theorem Has.only {S:Nat->Prop} (H:Has h w) (ho:q6 S w w') (hs:∀ k∈keys h,¬ S k):Has h w' :=
 ⟨H.nodup,fun p hp=>by
   obtain ⟨o,h1,h2⟩:=H.holds p hp
   exact ⟨o,ho.blk h1 (hs _ (UD.2 ⟨p,hp,rfl⟩)),h2⟩⟩
theorem Qh.refl (H:Has h w):Qh h w h w:=⟨H,q6.refl _ _,fun _ hk=>.inl hk⟩
theorem Qh.trans (a:Qh h w h' w') (b:Qh h' w' h'' w''):Qh h w h'' w'' :=
 ⟨b.has,a.only.trans' b.only (fun k hk hs=>(a.news k hs).resolve_right (by omega)),fun k hk=>by
   rcases b.news k hk with h1 | h1
   ·exact a.news k h1
   ·exact .inr (UY a.only.size h1)⟩
theorem Qh.frame (a:Qh h w h' w') (H:Has (h++F) w):Qh (h++F) w (h'++F) w':=by
 have hF:Has F w':=H.right.only a.only (fun k h1 h2=>H.apart h2 h1);refine ⟨⟨?_,?_⟩,a.only.mono (fun k _ hk=>by rw [Jh];exact UG _ hk),fun k hk=>?_⟩
 ·rw [Jh]
  refine UE.2 ⟨a.has.nodup,hF.nodup,fun x hx y hy he=>?_⟩
  subst he;rcases a.news x hx with h1 | h1
  ·exact H.apart h1 hy
  ·exact absurd (H.right.lt hy) (by omega)
 ·intro p hp
  rcases Vb.1 hp with h1 | h1
  ·exact a.has.holds p h1
  ·exact hF.holds p h1
 ·rw [Jh] at hk |-
  rcases Vb.1 hk with h1 | h1
  ·rcases a.news k h1 with h2 | h2
   ·exact .inl (UG _ h2)
   ·exact .inr h2
  ·exact .inl (UN _ h1)
theorem Qh.perm (a:Qh h w h' w') (p:h'.Perm h''):Qh h w h'' w' :=
 ⟨a.has.perm p,a.only,fun k hk=>a.news k ((p.map Prod.fst).mem_iff.2 hk)⟩
theorem Qh.drop (a:Qh h w (h'++h'') w'):Qh h w h'' w' :=
 ⟨a.has.right,a.only,fun k hk=>a.news k (by rw [Jh];exact UN _ hk)⟩
theorem Qh.wW (a:Qh h w (h'++h'') w'):Qh h w h' w' :=
 ⟨a.has.left,a.only,fun k hk=>a.news k (by rw [Jh];exact UG _ hk)⟩
theorem Qh.drop1 {p:Piece} (a:Qh h w (p::h'') w'):Qh h w h'' w':=Qh.drop (h':=[p]) a
theorem Qh.drew (a:Qh h w h' w'):Qh h w h' w'.drew:=⟨a.has.drew,a.only.drew,a.news⟩
theorem Qh.aT (a:Qh h w h' w') (o:Obj):Qh h w h' (w'.alloc o) :=
 ⟨⟨a.has.nodup,fun p hp=>by obtain ⟨o',h1,h2⟩:=a.has.holds p hp;exact ⟨o',alloc_old h1 o,h2⟩⟩,a.only.alloc o,a.news⟩
theorem Qh.alloc (a:Qh h w h' w') {k:Nat} (hk:k=w'.heap.size) (T:U1) (C:Array Value):Qh h w (pt k T C::h') (w'.alloc (.cells C T)):=by
 subst hk;refine ⟨⟨?_,?_⟩,a.only.alloc _,?_⟩
 ·refine UK.2 ⟨fun hm=>absurd (a.has.lt hm) (Nat.lt_irrefl _),a.has.nodup⟩
 ·intro p hp
  rcases U9.1 hp with rfl | hp
  ·exact ⟨_,Ku _ rfl,rfl⟩
  ·obtain ⟨o',h1,h2⟩:=a.has.holds p hp
   exact ⟨o',alloc_old h1 _,h2⟩
 ·intro k hk
  rcases U9.1 hk with rfl | hk
  ·exact .inr a.only.size
  ·exact a.news k hk
theorem OP {w:World} {b:Nat} {C:Array Value} {T:U1} (hb:w.heap[b]?=some (.cells C T (0,0))) (i:Nat) (v:Value) :
 (w.setCell ⟨b,i,none⟩ v).heap[b]?=some (.cells (C.setIfInBounds i v) T (0,0)):=by
 show (w.heap.modify b _)[b]?=_
 rw [Array.getElem?_modify,if_pos rfl,hb];rfl
theorem qtx {w:World} {B B':Nat} {o:Obj} (h:w.heap[B]?=some o) (hne:B≠B') {i:Nat} (v:Value):(w.setCell ⟨B',i,none⟩ v).heap[B]?=some o :=
 (UZ w ⟨B',i,none⟩ v B hne).trans h
theorem Qh.set {b:Nat} {T:U1} {C:Array Value} (a:Qh h w (pt b T C::h') w') (i:Nat) (v:Value):Qh h w (pt b T (C.setIfInBounds i v)::h') (w'.setCell ⟨b,i,none⟩ v):=by
 obtain ⟨o,ho,rfl⟩:=a.has.holds (pt b T C) U5;have hnd:=UK.1 a.has.nodup;refine ⟨⟨a.has.nodup,?_⟩,a.only.setCell _ ?_ v,a.news⟩
 ·intro p hp
  rcases U9.1 hp with rfl | hp
  ·exact ⟨_,OP ho i v,rfl⟩
  ·obtain ⟨o',h1,h2⟩:=a.has.holds p (U6 _ hp)
   exact ⟨o',qtx h1 (fun e=>hnd.1 (UD.2 ⟨p,hp,e⟩)) v,h2⟩
 ·rcases a.news b (U5) with h1 | h1
  ·exact .inl h1
  ·exact .inr h1
theorem Qh.say {b:Nat} {p q:Obj->Prop} (a:Qh h w ((b,p)::h') w') (hpq:∀ o,p o->q o):Qh h w ((b,q)::h') w' :=
 ⟨⟨a.has.nodup,fun x hx=>by
   rcases U9.1 hx with rfl | hx
   ·obtain ⟨o,h1,h2⟩:=a.has.holds (b,p) U5;exact ⟨o,h1,hpq o h2⟩
   ·exact a.has.holds x (U6 _ hx)⟩,a.only,a.news⟩
theorem Qh.open {b:Nat} {p:Obj->Prop} (a:Qh h w ((b,p)::h') w'):∃ o,p o/\Qh h w ((b,(·=o))::h') w':=by
 obtain ⟨o,h1,h2⟩:=a.has.holds (b,p) U5;refine ⟨o,h2,⟨⟨a.has.nodup,fun x hx=>?_⟩,a.only,a.news⟩⟩
 rcases U9.1 hx with rfl | hx
 ·exact ⟨o,h1,rfl⟩
 ·exact a.has.holds x (U6 _ hx)
theorem Qh.blk (a:Qh h w h' w') (i:Nat) {b:Nat} {T:U1} {C:Array Value} (hi:h'[i]?=some (pt b T C)):w'.heap[b]?=some (.cells C T (0,0)):=by
 obtain ⟨o,h1,h2⟩:=a.has.holds _ (UA hi);exact h2 ▸ h1
theorem Qh.cell (a:Qh h w h' w') (i:Nat) {b:Nat} {T:U1} {C:Array Value} (hi:h'[i]?=some (pt b T C)) (o:Nat):w'.cell? ⟨b,o,none⟩=C[o]?:=Q8 (a.blk i hi) o
theorem Qh.free (a:Qh h w h' w') (i:Nat) {b:Nat} {T:U1} {C:Array Value} (hi:h'[i]?=some (pt b T C)) (o:Nat):w'.frozen? ⟨b,o,none⟩=false:=X0 (a.blk i hi) o
theorem Qh.lt (a:Qh h w h' w') (i:Nat) {p:Piece} (hi:h'[i]?=some p):p.1<w'.heap.size :=
 a.has.lt (UD.2 ⟨p,UA hi,rfl⟩)
theorem Qh.ne (a:Qh h w h' w') (i j:Nat) {p q:Piece} (hi:h'[i]?=some p) (hj:h'[j]?=some q) (hij:i≠j):p.1≠q.1:=by
 intro e;have hn:=a.has.nodup;have h1:(keys h')[i]?=some p.1:=by simp [keys,hi]
 have h2:(keys h')[j]?=some q.1:=by simp [keys,hj]
 rw [<- e] at h2;exact hij (qws hn h1 h2)
theorem Qh.below (a:Qh [] w h' w'):Below w.heap.size w w':=a.only.below (fun k _ hk=>by simp [keys] at hk) (UW _)
end
theorem Dh {H F:PH} (i:Nat) {p:Piece} (h1:H[i]?=some p) (h2:H.eraseIdx i=F):H.Perm (p::F):=by
 subst h2;induction H generalizing i with
 | nil=>simp at h1
 | cons x l ih =>
   cases i with
   | zero=>simp at h1;subst h1;exact U7 _
   | succ n =>
     simp only [UB] at h1;simp only [List.eraseIdx_cons_succ];exact ((ih n h1).cons x).trans (Vf p x _)
theorem q5z (n:Int) (h0:-9223372036854775808<=n) (h1:n<9223372036854775808):IntKind.i64.wrap n=n:=by
 rw [IntKind.wrap_i64];omega
theorem FJ {H:PH} (i:Nat) {p q:Piece} (h1:H[i]?=some p):(q::H.eraseIdx i).Perm (H.set i q):=by
 induction H generalizing i with
 | nil=>simp at h1
 | cons x l ih =>
   cases i with
   | zero=>exact U7 _
   | succ n =>
     simp only [UB] at h1;simp only [List.eraseIdx_cons_succ,V6];exact (Vf x q _).trans ((ih n h1).cons x)
section
variable {h H:PH} {w w':World}
theorem Qh.setAt (a:Qh h w H w') (i:Nat) {b:Nat} {T:U1} {C:Array Value} (hi:H[i]?=some (pt b T C)) (o:Nat) (v:Value) :
 Qh h w (H.set i (pt b T (C.setIfInBounds o v))) (w'.setCell ⟨b,o,none⟩ v) :=
 ((a.perm (Dh i hi rfl)).set o v).perm (FJ i hi)
theorem Qh.dD (a:Qh h w H w') (i:Nat) {b:Nat} {p:Obj->Prop} (hi:H[i]?=some (b,p)) (q:Obj->Prop) (hpq:∀ o,p o->q o) :
 Qh h w (H.set i (b,q)) w' :=
 ((a.perm (Dh i hi rfl)).say hpq).perm (FJ i hi)
theorem Qh.dR (a:Qh h w H w') (i:Nat) {b:Nat} {p:Obj->Prop} (hi:H[i]?=some (b,p)) :
 ∃ o,p o/\Qh h w (H.set i (b,(·=o))) w':=by
 obtain ⟨o,h1,h2⟩:=(a.perm (Dh i hi rfl)).open;exact ⟨o,h1,h2.perm (FJ i hi)⟩
end
def Does (P:U8) (f:Nat) (args:Array Value) (h:PH) (R:UQ->PH->Prop):Prop :=
 ∀ w,Has h w->Calls P f args w fun e w'=>∃ h',R e h'/\Qh h w h' w'
theorem Does.use {P:U8} {f:Nat} {args:Array Value} {hc F h H:PH} {R:UQ->PH->Prop} {w w1:World} (hd:Does P f args hc R)
 (T:Qh h w H w1) (hp:H.Perm (hc++F)):Calls P f args w1 fun e w2=>∃ h',R e h'/\Qh h w (h'++F) w2:=by
 have T':=T.perm hp;refine (hd w1 T'.has.left).mono ?_
 rintro e w2 ⟨h',hr,ht⟩;exact ⟨h',hr,T'.trans (ht.frame T'.has)⟩
theorem Does.at {P:U8} {f:Nat} {args:Array Value} {p:Piece} {h H:PH} {R:UQ->PH->Prop} {w w1:World} (hd:Does P f args [p] R)
 (T:Qh h w H w1) (i:Nat) (hi:H[i]?=some p):Calls P f args w1 fun e w2=>∃ h',R e h'/\∀ q,h'=[q]->Qh h w (H.set i q) w2:=by
 refine (hd.use T (Dh i hi rfl)).mono ?_
 rintro e w2 ⟨h',hr,ht⟩;exact ⟨h',hr,fun q hq=>by subst hq;exact ht.perm (FJ i hi)⟩
theorem Does.mono {P:U8} {f:Nat} {args:Array Value} {h:PH} {R R':UQ->PH->Prop} (hd:Does P f args h R) (hr:∀ e h',R e h'->R' e h'):Does P f args h R' :=
 fun w hw=>(hd w hw).mono fun e w' ⟨h',a,b⟩=>⟨h',hr _ _ a,b⟩
theorem Kl {P:U8} (t e:U1) (z:Value) (size bytes:Nat) (ht:P.underlying t=some (.slice e)) (hinfo:(P.info? e).map (fun i=>(i.zero,i.size,i.bytes))=some (some z,size,bytes))
 (n:Nat) (hbytes:bytes*n<=281474976710656) (h63:n<=9223372036854775807) (w:World) :
 (Instr.makeSlice t (.int .i64 (n:Int)) (.int .i64 (n:Int))).run P w=.ok (.slice (some ⟨w.heap.size,0,none⟩) n n) (w.alloc (.cells (Vg z.cells (n*size)) e)):=by
 obtain ⟨i,hi,hz0,hz1,hz2⟩:=info_parts hinfo;have h:=run_make (P:=P) w t e i z ht hi hz0 .i64 .i64 n n (by omega) (Int.le_refl _) (by rw [hz2];omega) (by omega);simpa [hz1] using h
theorem zo (z:Array Value) (n s i j:Nat) (hz:z.size=s) (hi:i<n) (hj:j<s):(Vg z (n*s))[i*s+j]?=z[j]?:=by
 have hlt:i*s+j<n*s:=by
  have h1:(i+1)*s<=n*s:=Nat.mul_le_mul_right _ hi;rw [Nat.add_mul,Nat.one_mul] at h1;omega
 have hm:(i*s+j) % s=j:=by rw [Nat.add_comm,Nat.add_mul_mod_self_right,Nat.mod_eq_of_lt hj]
 have hjz:j<z.size:=by omega
 simp only [Vg,Array.getElem?_map,Array.getElem?_range,hlt,if_true,Option.map_some,hz,hm];rw [Array.getElem?_eq_getElem hjz,getElem!_pos z j hjz]
theorem Vh {P:Prop} (h:P):UI P:=Lib.hid h
theorem bP:(∀ (α:Type) (l:List α) (i:Nat),l.toArray[i]?=l[i]?)/\(∀ (α:Type) (a:α) (l:List α),(a::l)[0]?=some a):=⟨fun _ _ _=>UO,fun _ _ _=>rfl⟩
theorem az:(∀ (α:Type) (l:List α) (i:Nat),l.toArray[i]?=l[i]?)/\(∀ (α:Type) (a:α) (l:List α),(a::l)[0]?=some a)/\(∀ (α:Type) (a:α) (l:List α) (i:Nat),(a::l)[i+1]?=l[i]?):=⟨fun _ _ _=>UO,fun _ _ _=>rfl,fun _ _ _ _=>UB⟩
theorem aN:(∀ (α:Type) (i:Nat),([]:List α)[i]?=none)/\(∀ (α:Type) (l:List α) (i:Nat),l.toArray[i]?=l[i]?)/\(∀ (α:Type) (a:α) (l:List α),(a::l)[0]?=some a)/\(∀ (α:Type) (a:α) (l:List α) (i:Nat),(a::l)[i+1]?=l[i]?):=⟨fun _ _=>List.getElem?_nil,fun _ _ _=>UO,fun _ _ _=>rfl,fun _ _ _ _=>UB⟩
theorem bY:(∀ (α:Type) (a:α) (l:List α) (i:Nat),(a::l).take (i+1)=a::l.take i)/\(∀ (α:Type) (l:List α),l.take 0=[])/\(∀ (α:Type) (a:α) (l:List α) (i:Nat),(a::l).drop (i+1)=l.drop i)/\(∀ (α:Type) (l:List α),l.drop 0=l):=⟨fun _ _ _ _=>List.take_succ_cons,fun _ _=>List.take_zero,fun _ _ _ _=>List.drop_succ_cons,fun _ _=>List.drop_zero⟩
abbrev ak:=Nat × Obj
abbrev GH:=List (List ak)
def ex (g:List ak):PH:=g.map fun p=>(p.1,(·=p.2))
abbrev cl (b:Nat) (T:U1) (C:Array Value):ak:=(b,.cells C T (0,0))
theorem Jg (a b:List ak):ex (a++b)=ex a++ex b:=UU
theorem vV {a b:List ak} (h:a.Perm b):(ex a).Perm (ex b):=h.map _
def TG (h:GH) (w:World) (H:GH) (w':World):Prop:=Qh (ex h.flatten) w (ex H.flatten) w'
def Yz (H:GH) (w:World):Prop:=Has (ex H.flatten) w
def pU:GH->List Nat->GH
 | H,[]=>H
 | H,i::is=>pU (H.set i []) is
def j3:GH->List Nat->GH->GH
 | H,[],gs=>H++gs
 | H,i::is,[]=>j3 (H.set i []) is []
 | H,i::is,g::gs=>j3 (H.set i g) is gs
def lI (H:GH) (is:List Nat):GH:=is.map fun i=>H.getD i []
theorem SU:(∀ (H:GH) (is:List Nat),lI H is=is.map fun i=>H.getD i [])/\(∀ (α β:Type) (f:α->β) (a:α) (l:List α),(a::l).map f=f a::l.map f)/\(∀ (α β:Type) (f:α->β),([]:List α).map f=[]) /\
 (∀ (α:Type) (x:α) (l:List α) (n:Nat) (d:α),(x::l).getD (n+1) d=l.getD n d)/\(∀ (α:Type) (x:α) (l:List α) (d:α),(x::l).getD 0 d=x) /\
 (∀ (α:Type) (x:α) (l:List α) (n:Nat) (d:α),(x::l).set (n+1) d=x::l.set n d)/\(∀ (α:Type) (x:α) (l:List α) (d:α),(x::l).set 0 d=d::l) /\
 (∀ (α:Type) (x:α) (l m:List α),x::l++m=x::(l++m))/\(∀ l m:GH,(l++m).flatten=l.flatten++m.flatten)/\(∀ (a:List ak) (l:GH),(a::l).flatten=a++l.flatten)/\(([]:GH).flatten=[]) /\
 (∀ (α:Type) (l:List α),l++[]=l)/\(∀ (α:Type) (l:List α),[]++l=l) :=
 ⟨fun _ _=>rfl,fun _ _ _ _ _=>rfl,fun _ _ _=>rfl,fun _ _ _ _ _=>rfl,fun _ _ _ _=>rfl,fun _ _ _ _ _=>rfl,fun _ _ _ _=>rfl,fun _ _ _ _=>rfl,fun _ _=>US,fun _ _=>rfl,rfl,fun _ l=>Vd l,fun _ _=>rfl⟩
theorem PU:(∀ (H:GH) (gs:GH),j3 H [] gs=H++gs)/\(∀ (H:GH) (i:Nat) (is:List Nat),j3 H (i::is) []=j3 (H.set i []) is [])/\(∀ (H:GH) (i:Nat) (is:List Nat) (g:List ak) (gs:GH),j3 H (i::is) (g::gs)=j3 (H.set i g) is gs) /\
 (∀ (α:Type) (x:α) (l:List α) (n:Nat) (d:α),(x::l).set (n+1) d=x::l.set n d)/\(∀ (α:Type) (x:α) (l:List α) (d:α),(x::l).set 0 d=d::l)/\(∀ (α:Type) (x:α) (l m:List α),x::l++m=x::(l++m)) /\
 (∀ (α:Type) (l:List α),l++[]=l)/\(∀ (α:Type) (l:List α),[]++l=l) :=
 ⟨fun _ _=>rfl,fun _ _ _=>rfl,fun _ _ _ _ _=>rfl,fun _ _ _ _ _=>rfl,fun _ _ _ _=>rfl,fun _ _ _ _=>rfl,fun _ l=>Vd l,fun _ _=>rfl⟩
def nodupB:List Nat->Bool
 | []=>true
 | i::is=>!is.contains i && nodupB is
def oG (H:GH) (is:List Nat):Bool:=nodupB is && is.all fun i=>decide (i<H.length)
theorem A7 {H:GH}:∀ {i:Nat} (g:List ak),i<H.length->(H.set i g).flatten.Perm (g++(H.set i []).flatten):=by
 induction H with
 | nil=>intro i g h;simp at h
 | cons a l ih =>
   intro i g h;cases i with
   | zero=>simp only [List.set_cons_zero,UM,Ve];exact U7 _
   | succ n =>
     simp only [V6,UM];refine ((ih g (by simpa using h)).append_left a).trans ?_
     rw [<- U3,<- U3];exact List.perm_append_comm.append_right _
theorem set_self {H:GH} {i:Nat} (h:i<H.length):H.set i (H.getD i [])=H:=by
 apply V8
 intro k;rw [UF];split
 ·next e=>subst e;simp [h]
 ·rfl
theorem qc3 {H:GH} {i:Nat} (h:i<H.length):H.flatten.Perm (H.getD i []++(H.set i []).flatten):=by
 have:=A7 (H.getD i []) h;rwa [set_self h] at this
theorem Pb {is:List Nat}:∀ {H:GH} {i:Nat} {g:List ak},i ∉ is->pU (H.set i g) is=(pU H is).set i g:=by
 induction is with
 | nil=>intro H i g _;rfl
 | cons j is ih =>
   intro H i g hi;have hj:i≠j:=fun e=>hi (e ▸ U5)
   simp only [pU];rw [List.set_comm _ _ hj,ih (fun h=>hi (U6 _ h))]
theorem qkg {is:List Nat}:∀ {H:GH},(pU H is).length=H.length:=by
 induction is with
 | nil=>intro H;rfl
 | cons j is ih=>intro H;simp only [pU];rw [ih,UL]
theorem OJ {i:Nat} {is:List Nat} (h:nodupB (i::is)=true):i ∉ is/\nodupB is=true:=by
 simp only [nodupB,UH,Bool.not_eq_true',List.contains_eq_mem,decide_eq_false_iff_not] at h;exact h
theorem QS {is:List Nat}:∀ {H:GH},oG H is=true->H.flatten.Perm ((lI H is).flatten++(pU H is).flatten):=by
 induction is with
 | nil=>intro H _;exact U7 _
 | cons i is ih =>
   intro H h;simp only [oG,UH,List.all_cons,decide_eq_true_eq] at h;obtain ⟨hn,hi,hl⟩:=h;obtain ⟨h1,h2⟩:=OJ hn;refine (qc3 hi).trans ?_
   simp only [lI,UJ,UM,pU,U3];refine List.Perm.append_left _ ?_
   refine (ih (H:=H.set i []) (by simp only [oG,UH,UL];exact ⟨h2,hl⟩)).trans ?_
   have e:lI (H.set i []) is=lI H is:=by
    apply List.map_congr_left
    intro j hj;have hij:i≠j:=by rintro rfl;exact h1 hj
    rw [U2,U2,UF,if_neg hij]
   rw [e];exact U7 _
theorem q1a {is:List Nat}:∀ {H:GH} {gs:GH},oG H is=true->(j3 H is gs).flatten.Perm (gs.flatten++(pU H is).flatten):=by
 induction is with
 | nil=>intro H gs _;simp only [j3,pU,US];exact UX
 | cons i is ih =>
   intro H gs h;simp only [oG,UH,List.all_cons,decide_eq_true_eq] at h;obtain ⟨hn,hi,hl⟩:=h;obtain ⟨h1,h2⟩:=OJ hn;have hf:∀ g,oG (H.set i g) is=true:=fun g=>by simp only [oG,UH,UL];exact ⟨h2,hl⟩
   cases gs with
   | nil=>simp only [j3,pU];exact ih (hf _)
   | cons g gs =>
     simp only [j3,pU,UM];refine (ih (hf g)).trans ?_
     rw [Pb h1,Pb h1];have:=A7 (H:=pU H is) (i:=i) g (by rw [qkg];exact hi);refine (this.append_left _).trans ?_
     rw [<- U3];exact List.perm_append_comm.append_right _
section
variable {h H:GH} {w w':World}
theorem TG.refl (a:Yz H w):TG H w H w:=Qh.refl a
theorem TG.trans {H':GH} {w'':World} (a:TG h w H w') (b:TG H w' H' w''):TG h w H' w'':=Qh.trans a b
theorem TG.has (a:TG h w H w'):Yz H w':=Qh.has a
theorem TG.re (a:TG h w H w') {H':GH} (p:H.flatten.Perm H'.flatten):TG h w H' w':=Qh.perm a (vV p)
theorem TG.eq (a:TG h w H w') {H':GH} (p:H.flatten=H'.flatten):TG h w H' w':=a.re (p ▸ U7 _)
theorem TG.base (a:TG h w H w') {h':GH} (p:h.flatten=h'.flatten):TG h' w H w':=by unfold TG at a |-;rwa [<- p]
theorem TG.pick (a:TG h w H w') (is:List Nat) (f:oG H is=true):TG h w (lI H is) w':=by
 have b:Qh _ _ _ _:=Qh.perm a (vV (QS f));rw [Jg] at b;exact b.wW
theorem TG.drew (a:TG h w H w'):TG h w H w'.drew:=Qh.drew a
theorem TG.drewN (a:TG h w H w') (n:Nat):TG h w H (w'.drewN n):=⟨⟨a.has.nodup,a.has.holds⟩,Qh.only a |>.drewN n,Qh.news a⟩
theorem TG.aT (a:TG h w H w') (o:Obj):TG h w H (w'.alloc o):=Qh.aT a o
theorem TG.put (a:TG h w H w') {k:Nat} (hk:k=w'.heap.size) (o:Obj):TG h w (H++[[(k,o)]]) (w'.alloc o):=by
 subst hk
 have b:Qh (ex h.flatten) w ((w'.heap.size,(·=o))::ex H.flatten) (w'.alloc o):=by
  have a':Qh _ _ _ _:=a;refine ⟨⟨?_,?_⟩,a'.only.alloc _,?_⟩
  ·exact UK.2 ⟨fun hm=>absurd (a'.has.lt hm) (Nat.lt_irrefl _),a'.has.nodup⟩
  ·intro p hp
   rcases U9.1 hp with rfl | hp
   ·exact ⟨_,Ku _ rfl,rfl⟩
   ·obtain ⟨o',h1,h2⟩:=a'.has.holds p hp
    exact ⟨o',alloc_old h1 _,h2⟩
  ·intro k hk
   rcases U9.1 hk with rfl | hk
   ·exact .inr a'.only.size
   ·exact a'.news k hk
 have e:(H++[[(w'.heap.size,o)]]).flatten=H.flatten++[(w'.heap.size,o)]:=by simp
 unfold TG;rw [e,Jg];exact b.perm (UX (l₁:=[_]))
theorem TG.alloc (a:TG h w H w') {k:Nat} (hk:k=w'.heap.size) (T:U1) (C:Array Value):TG h w (H++[[cl k T C]]) (w'.alloc (.cells C T)):=a.put hk _
theorem ID {i j:Nat} {p:ak} (hij:(H.getD i [])[j]?=some p):i<H.length:=by
 rcases Nat.lt_or_ge i H.length with h1 | h1
 ·exact h1
 ·have e:H.getD i []=[]:=by rw [U2,List.getElem?_eq_none h1];rfl
  rw [e] at hij;cases hij
theorem Rk {i j:Nat} {p:ak} (hij:(H.getD i [])[j]?=some p):p∈H.flatten:=by
 have h1:=UA hij;have h2:=ID hij;exact List.mem_flatten.2 ⟨_,by rw [U2,List.getElem?_eq_getElem h2];exact List.getElem_mem h2,h1⟩
theorem Yz.obj (a:Yz H w) (i j:Nat) {p:ak} (hij:(H.getD i [])[j]?=some p):w.heap[p.1]?=some p.2:=by
 obtain ⟨o,h1,h2⟩:=Has.holds a (p.1,(·=p.2)) (UD.2 ⟨p,Rk hij,rfl⟩);exact h2 ▸ h1
theorem TG.obj (a:TG h w H w') (i j:Nat) {p:ak} (hij:(H.getD i [])[j]?=some p):w'.heap[p.1]?=some p.2:=a.has.obj i j hij
theorem TG.cell (a:TG h w H w') (i j:Nat) {b:Nat} {T:U1} {C:Array Value} (hij:(H.getD i [])[j]?=some (cl b T C)) (o:Nat):w'.cell? ⟨b,o,none⟩=C[o]?:=Q8 (a.obj i j hij) o
theorem TG.free (a:TG h w H w') (i j:Nat) {b:Nat} {T:U1} {C:Array Value} (hij:(H.getD i [])[j]?=some (cl b T C)) (o:Nat):w'.frozen? ⟨b,o,none⟩=false:=X0 (a.obj i j hij) o
theorem TG.lt (a:TG h w H w') (i j:Nat) {p:ak} (hij:(H.getD i [])[j]?=some p):p.1<w'.heap.size:=(UC.1 (a.obj i j hij)).1
theorem q4d (g:List ak):keys (ex g)=g.map Prod.fst:=by simp [keys,ex,Function.comp_def]
theorem TG.nodup (a:TG h w H w'):(H.flatten.map Prod.fst).Nodup:=q4d _ ▸ Has.nodup (Qh.has a)
theorem TG.ne (a:TG h w H w') (i j k l:Nat) (hik:i≠k) {p q:ak} (hij:(H.getD i [])[j]?=some p) (hkl:(H.getD k [])[l]?=some q):p.1≠q.1:=by
 intro e;have hi:=ID hij;have hn:=a.nodup;have hp:=(qc3 hi).map Prod.fst;have hn':=(hp.nodup_iff).1 hn;rw [UU] at hn';have hq:q∈(H.set i []).flatten:=Rk (H:=H.set i []) (i:=k) (j:=l) (by rw [U2,UF,if_neg hik,<- U2];exact hkl);exact (UE.1 hn').2.2 p.1 (UD.2 ⟨p,UA hij,rfl⟩) p.1 (UD.2 ⟨q,hq,e.symm⟩) rfl
theorem TG.turn (a:TG h w H w') (i:Nat) {b:Nat} {o o':Obj} {pre post:List ak} (hi:i<H.length) (hg:H.getD i []=pre++(b,o)::post)
 {w'':World} (hb:w''.heap[b]?=some o') (ho:∀ k,k≠b->w''.heap[k]?=w'.heap[k]?) (hs:w''.heap.size=w'.heap.size) (h1:w''.os=w'.os) (h2:w''.tape=w'.tape) (h3:w''.output=w'.output) :
 TG h w (H.set i (pre++(b,o')::post)) w'':=by
 have a':Qh _ _ _ _:=a
 have hp:(ex H.flatten).Perm ((b,(·=o))::ex (pre++post++(H.set i []).flatten)):=by
  refine (vV ((qc3 hi).trans ?_)).trans (U7 (ex ((b,o)::(pre++post++(H.set i []).flatten))))
  rw [hg];refine (List.Perm.append_right _ List.perm_middle).trans ?_
  simp
 have hp':((b,(·=o'))::ex (pre++post++(H.set i []).flatten)).Perm (ex (H.set i (pre++(b,o')::post)).flatten):=by
  refine List.Perm.trans (U7 (ex ((b,o')::(pre++post++(H.set i []).flatten)))) (vV ((A7 _ hi).trans ?_).symm)
  refine (List.Perm.append_right _ List.perm_middle).trans ?_
  simp
 have c:=a'.perm hp;have hnd:=UK.1 c.has.nodup;have hbl:=c.has.lt (k:=b) U5;refine Qh.perm ?_ hp'
 refine ⟨⟨c.has.nodup,fun p hp=>?_⟩,⟨h1.trans c.only.os,h2.trans c.only.tape,h3.trans c.only.output,by rw [hs];exact c.only.size,fun k hk hn=>(ho k ?_).trans (c.only.block k hk hn)⟩,c.news⟩
 ·rcases U9.1 hp with rfl | hp
  ·exact ⟨o',hb,rfl⟩
  ·obtain ⟨x,h1,h2⟩:=c.has.holds p (U6 _ hp)
   exact ⟨x,(ho _ (fun e=>hnd.1 (UD.2 ⟨p,hp,e⟩))).trans h1,h2⟩
 ·rintro rfl
  rcases c.news k U5 with h4 | h4
  ·exact hn h4
  ·omega
theorem q1g {l:List ak} {j:Nat} {p:ak} (hj:l[j]?=some p):l=l.take j++p::l.drop (j+1)/\∀ q,l.set j q=l.take j++q::l.drop (j+1):=by
 obtain ⟨h1,h2⟩:=UT.1 hj;have e:∀ q,l.set j q=l.take j++q::l.drop (j+1):=fun q=>List.set_eq_take_append_cons_drop.trans (if_pos h1)
 refine ⟨?_,e⟩
 rw [<- e,<- h2,List.set_getElem_self]
theorem TG.set (a:TG h w H w') (i j:Nat) {b:Nat} {T:U1} {C:Array Value} (hij:(H.getD i [])[j]?=some (cl b T C)) (o:Nat) (v:Value) :
 TG h w (H.set i ((H.getD i []).set j (cl b T (C.setIfInBounds o v)))) (w'.setCell ⟨b,o,none⟩ v):=by
 obtain ⟨h1,h2⟩:=q1g hij;have:=a.turn (w'':=w'.setCell ⟨b,o,none⟩ v) i (o':=.cells (C.setIfInBounds o v) T (0,0)) (ID hij) h1 (OP (a.obj i j hij) o v) (fun k hk=>UZ w' ⟨b,o,none⟩ v k hk) (Zv _ _ _) rfl rfl rfl;rwa [<- h2] at this
end
def Qa (P:U8) (f:Nat) (args:Array Value) (gs:GH) (R:UQ->GH->Prop):Prop :=
 ∀ w,Yz gs w->Calls P f args w fun e w'=>∃ gs',R e gs'/\TG gs w gs' w'
section
variable {P:U8} {f:Nat} {args:Array Value} {gs h H:GH} {R R':UQ->GH->Prop} {w w1:World}
theorem Qa.use (hd:Qa P f args gs R) (T:TG h w H w1) (is:List Nat) (hp:lI H is=gs) (hf:oG H is=true) :
 Calls P f args w1 fun e w2=>∃ gs',R e gs'/\TG h w (j3 H is gs') w2:=by
 subst hp;have T1:Qh _ _ _ _:=Qh.perm T (vV (QS hf));rw [Jg] at T1;refine (hd w1 T1.has.left).mono ?_
 rintro e w2 ⟨gs',hr,ht⟩;refine ⟨gs',hr,?_⟩
 have ht':Qh _ _ _ _:=ht;have:=T1.trans (ht'.frame T1.has);rw [<- Jg] at this;exact Qh.perm this (vV (q1a hf).symm)
theorem Qa.mono (hd:Qa P f args gs R) (hr:∀ e gs',R e gs'->R' e gs'):Qa P f args gs R' :=
 fun w hw=>(hd w hw).mono fun e w' ⟨g,a,b⟩=>⟨g,hr _ _ a,b⟩
theorem Qa.post (hd:Qa P f args gs R) (hr:∀ e gs',R e gs'->∃ gs'',R' e gs''/\gs'.flatten.Perm gs''.flatten):Qa P f args gs R' :=
 fun w hw=>(hd w hw).mono fun e w' ⟨g,a,b⟩=>by
  obtain ⟨g',h1,h2⟩:=hr _ _ a;exact ⟨g',h1,b.re h2⟩
theorem Qa.pre {gs':GH} (hd:Qa P f args gs R) (he:gs.flatten=gs'.flatten):Qa P f args gs' R :=
 fun w hw=>(hd w (by unfold Yz at hw |-;rwa [he])).mono fun e w' ⟨g,a,b⟩=>⟨g,a,b.base he⟩
end
inductive Z1:PH->List ak->Prop
 | nil:Z1 [] []
 | cons {b:Nat} {p:Obj->Prop} {o:Obj} {h:PH} {g:List ak}:p o->Z1 h g->Z1 ((b,p)::h) ((b,o)::g)
theorem Z1.keys {h:PH} {g:List ak} (m:Z1 h g):keys h=keys (ex g):=by
 induction m with
 | nil=>rfl
 | cons _ _ ih=>simp only [Go.Proofs.YtcneeepdclgdcaaGreat.keys,ex,UJ] at ih |-;rw [ih]
theorem Z1.has {h:PH} {g:List ak} (m:Z1 h g) {w:World} (H:Has (ex g) w):Has h w:=by
 refine ⟨m.keys ▸ H.nodup,?_⟩
 have hh:=H.holds;clear H;induction m with
 | nil=>intro p hp;cases hp
 | cons hp m ih =>
   intro q hq;rcases U9.1 hq with rfl | hq
   ·obtain ⟨o,h1,h2⟩:=hh _ (by simp only [ex,UJ];exact U5)
    exact ⟨o,h1,by subst h2;exact hp⟩
   ·exact ih (fun p hp=>hh p (by simp only [ex,UJ];exact U6 _ hp)) q hq
theorem Z1.mJ {w:World}:∀ {h:PH},(∀ p∈h,∃ o,w.heap[p.1]?=some o/\p.2 o)->∃ g,Z1 h g/\∀ p∈ex g,∃ o,w.heap[p.1]?=some o/\p.2 o
 | [],_=>⟨[],.nil,fun _ h=>by cases h⟩
 | (b,p)::h,H=>by
   obtain ⟨o,h1,h2⟩:=H (b,p) U5;obtain ⟨g,m,hg⟩:=Z1.mJ (h:=h) (fun q hq=>H q (U6 _ hq));refine ⟨(b,o)::g,.cons h2 m,fun q hq=>?_⟩
   simp only [ex,UJ] at hq;rcases U9.1 hq with rfl | hq
   ·exact ⟨o,h1,rfl⟩
   ·exact hg q hq
theorem Does.G {P:U8} {f:Nat} {args:Array Value} {h:PH} {R:UQ->PH->Prop} (hd:Does P f args h R) {gs:GH} (m:Z1 h gs.flatten) :
 Qa P f args gs fun e gs'=>∃ h' g,R e h'/\Z1 h' g/\gs'=[g]:=by
 intro w hw;refine (hd w (m.has hw)).mono ?_
 rintro e w' ⟨h',hr,ht⟩;obtain ⟨g,mg,hg⟩:=Z1.mJ ht.has.holds;refine ⟨[g],⟨h',g,hr,mg,rfl⟩,?_⟩
 have ef:([g]:GH).flatten=g:=by simp
 unfold TG;rw [ef];refine ⟨⟨mg.keys ▸ ht.has.nodup,hg⟩,?_,?_⟩
 ·rw [<- m.keys];exact ht.only
 ·rw [<- m.keys,<- mg.keys];exact ht.news
theorem Z1.append {a b:PH} {g:List ak} (m:Z1 (a++b) g):∃ x y,g=x++y/\Z1 a x/\Z1 b y:=by
 induction a generalizing g with
 | nil=>exact ⟨[],g,rfl,.nil,m⟩
 | cons p a ih =>
   cases m with
   | cons hp m =>
     obtain ⟨x,y,rfl,h1,h2⟩:=ih m;exact ⟨_::x,y,rfl,.cons hp h1,h2⟩
theorem Z1.join {a b:PH} {x y:List ak} (m:Z1 a x) (n:Z1 b y):Z1 (a++b) (x++y):=by
 induction m with
 | nil=>exact n
 | cons hp m ih=>exact .cons hp ih
theorem Z1.one {b:Nat} {p:Obj->Prop} {g:List ak} (m:Z1 [(b,p)] g):∃ o,p o/\g=[(b,o)]:=by
 cases m with
 | cons hp m=>cases m;exact ⟨_,hp,rfl⟩
theorem Z1.pP {b:Nat} {T:U1} {C:Array Value} {g:List ak} (m:Z1 [pt b T C] g):g=[cl b T C]:=by
 obtain ⟨o,rfl,rfl⟩:=m.one;rfl
theorem Z1.o8 (b:Nat) (T:U1) (C:Array Value):Z1 [pt b T C] [cl b T C]:=.cons rfl .nil
theorem Does.G1 {P:U8} {f:Nat} {args:Array Value} {a a':PH} {v:Value} {x:List ak} (hd:Does P f args a fun e h'=>e=U4 v/\h'=a') (ma:Z1 a x) :
 Qa P f args [x] fun e gs=>e=U4 v/\∃ x',Z1 a' x'/\gs=[x']:=by
 refine (hd.G (gs:=[x]) (by simpa using ma)).mono ?_
 rintro e gs ⟨h',g,⟨he,rfl⟩,m,rfl⟩;exact ⟨he,g,m,rfl⟩
theorem Does.G2 {P:U8} {f:Nat} {args:Array Value} {a a' b b':PH} {v:Value} {x y:List ak} (hd:Does P f args (a++b) fun e h'=>e=U4 v/\h'=a'++b') (ma:Z1 a x) (mb:Z1 b y) :
 Qa P f args [x,y] fun e gs=>e=U4 v/\∃ x' y',Z1 a' x'/\Z1 b' y'/\gs=[x',y']:=by
 refine (hd.G (gs:=[x,y]) (by simpa using ma.join mb)).post ?_
 rintro e gs ⟨h',g,⟨he,rfl⟩,m,rfl⟩;obtain ⟨x',y',rfl,m1,m2⟩:=m.append;exact ⟨_,⟨he,x',y',m1,m2,rfl⟩,by simp⟩
theorem Yz.nil (w:World):Yz [] w:=⟨List.nodup_nil,fun _ h=>by cases h⟩
theorem Ce2 {p:Nat->Prop} (h:∀ k,p k) (a b:Nat):p a/\p b:=⟨h a,h b⟩
theorem Ce3 {p:Nat->Prop} (h:∀ k,p k) (a b c:Nat):p a/\p b/\p c:=⟨h a,h b,h c⟩
theorem Ce4 {p:Nat->Prop} (h:∀ k,p k) (a b c d:Nat):p a/\p b/\p c/\p d:=⟨h a,h b,h c,h d⟩
theorem Ce5 {p:Nat->Prop} (h:∀ k,p k) (a b c d e:Nat):p a/\p b/\p c/\p d/\p e:=⟨h a,h b,h c,h d,h e⟩
theorem Ce6 {p:Nat->Prop} (h:∀ k,p k) (a b c d e f:Nat):p a/\p b/\p c/\p d/\p e/\p f:=⟨h a,h b,h c,h d,h e,h f⟩
theorem Ce7 {p:Nat->Prop} (h:∀ k,p k) (a b c d e f g:Nat):p a/\p b/\p c/\p d/\p e/\p f/\p g:=⟨h a,h b,h c,h d,h e,h f,h g⟩
theorem Ce8 {p:Nat->Prop} (h:∀ k,p k) (a b c d e f g i:Nat):p a/\p b/\p c/\p d/\p e/\p f/\p g/\p i:=⟨h a,h b,h c,h d,h e,h f,h g,h i⟩
theorem QE {α β:Type} {f:α->β} {K:β->Prop} (h:∀ n,K (f n)):∀ x,(∃ n,x=f n)->K x:=fun _ ⟨n,e⟩=>e ▸ h n
theorem GO {gs:GH} {K:World->Prop} (h:∀ w,UI (TG gs w gs w)->K w):∀ w,Yz gs w->K w:=fun w hw=>h w (TG.refl hw)
theorem Qa.run {P:U8} {f:Nat} {args:Array Value} {gs h H:GH} {R:UQ->GH->Prop} {w w1:World} (hd:Qa P f args gs R) (T:TG h w H w1) (is:List Nat) {K:UQ->World->Prop} (hK:∀ e w2 gs',R e gs'->UI (TG h w (j3 H is gs') w2)->K e w2) (hp:lI H is=gs:=by rfl) (hf:oG H is=true:=by rfl):Calls P f args w1 K :=
 (hd.use T is hp hf).mono fun e w2 ⟨gs',a,b⟩=>hK e w2 gs' a b
theorem TG.c {h H:GH} {w w':World} (a:TG h w H w') (i j o:Nat) {b:Nat} {T:U1} {C:Array Value} (hij:(H.getD i [])[j]?=some (cl b T C):=by exact rfl):w'.cell? ⟨b,o,none⟩=C[o]?:=a.cell i j hij o
theorem TG.f {h H:GH} {w w':World} (a:TG h w H w') (i j o:Nat) {b:Nat} {T:U1} {C:Array Value} (hij:(H.getD i [])[j]?=some (cl b T C):=by exact rfl):w'.frozen? ⟨b,o,none⟩=false:=a.free i j hij o
theorem TG.l {h H:GH} {w w':World} (a:TG h w H w') (i j:Nat) {p:ak} (hij:(H.getD i [])[j]?=some p:=by exact rfl):p.1<w'.heap.size:=a.lt i j hij
theorem TG.p {h H:GH} {w w':World} (a:TG h w H w') (is:List Nat) (f:oG H is=true:=by rfl):TG h w (lI H is) w':=a.pick is f
theorem TG.a {h H:GH} {w w':World} (a:TG h w H w') (T:U1) (C:Array Value):TG h w (H++[[cl w'.heap.size T C]]) (w'.alloc (.cells C T)):=a.alloc rfl T C
theorem QT {h H:GH} {w w1:World} (T:UI (TG h w H w1)) {K:World->Prop} (hK:∀ n,UI (TG h w H (w1.drewN n))->K (w1.drewN n)):∀ x,(∃ n,x=w1.drewN n)->K x:=fun _ ⟨n,e⟩=>e ▸ hK n (T.out.drewN n)
theorem TG.c2 {h H:GH} {w w':World} (a:TG h w H w') (i j x0 x1:Nat) {b:Nat} {T:U1} {C:Array Value} (hij:(H.getD i [])[j]?=some (cl b T C):=by exact rfl):w'.cell? ⟨b,x0,none⟩=C[x0]?/\w'.cell? ⟨b,x1,none⟩=C[x1]?:=⟨a.cell i j hij x0,a.cell i j hij x1⟩
theorem TG.f2 {h H:GH} {w w':World} (a:TG h w H w') (i j x0 x1:Nat) {b:Nat} {T:U1} {C:Array Value} (hij:(H.getD i [])[j]?=some (cl b T C):=by exact rfl):w'.frozen? ⟨b,x0,none⟩=false/\w'.frozen? ⟨b,x1,none⟩=false:=⟨a.free i j hij x0,a.free i j hij x1⟩
theorem TG.c3 {h H:GH} {w w':World} (a:TG h w H w') (i j x0 x1 x2:Nat) {b:Nat} {T:U1} {C:Array Value} (hij:(H.getD i [])[j]?=some (cl b T C):=by exact rfl):w'.cell? ⟨b,x0,none⟩=C[x0]?/\w'.cell? ⟨b,x1,none⟩=C[x1]?/\w'.cell? ⟨b,x2,none⟩=C[x2]?:=⟨a.cell i j hij x0,a.cell i j hij x1,a.cell i j hij x2⟩
theorem TG.f3 {h H:GH} {w w':World} (a:TG h w H w') (i j x0 x1 x2:Nat) {b:Nat} {T:U1} {C:Array Value} (hij:(H.getD i [])[j]?=some (cl b T C):=by exact rfl):w'.frozen? ⟨b,x0,none⟩=false/\w'.frozen? ⟨b,x1,none⟩=false/\w'.frozen? ⟨b,x2,none⟩=false:=⟨a.free i j hij x0,a.free i j hij x1,a.free i j hij x2⟩
theorem TG.c4 {h H:GH} {w w':World} (a:TG h w H w') (i j x0 x1 x2 x3:Nat) {b:Nat} {T:U1} {C:Array Value} (hij:(H.getD i [])[j]?=some (cl b T C):=by exact rfl):w'.cell? ⟨b,x0,none⟩=C[x0]?/\w'.cell? ⟨b,x1,none⟩=C[x1]?/\w'.cell? ⟨b,x2,none⟩=C[x2]?/\w'.cell? ⟨b,x3,none⟩=C[x3]?:=⟨a.cell i j hij x0,a.cell i j hij x1,a.cell i j hij x2,a.cell i j hij x3⟩
theorem TG.f4 {h H:GH} {w w':World} (a:TG h w H w') (i j x0 x1 x2 x3:Nat) {b:Nat} {T:U1} {C:Array Value} (hij:(H.getD i [])[j]?=some (cl b T C):=by exact rfl):w'.frozen? ⟨b,x0,none⟩=false/\w'.frozen? ⟨b,x1,none⟩=false/\w'.frozen? ⟨b,x2,none⟩=false/\w'.frozen? ⟨b,x3,none⟩=false:=⟨a.free i j hij x0,a.free i j hij x1,a.free i j hij x2,a.free i j hij x3⟩
theorem TG.c5 {h H:GH} {w w':World} (a:TG h w H w') (i j x0 x1 x2 x3 x4:Nat) {b:Nat} {T:U1} {C:Array Value} (hij:(H.getD i [])[j]?=some (cl b T C):=by exact rfl):w'.cell? ⟨b,x0,none⟩=C[x0]?/\w'.cell? ⟨b,x1,none⟩=C[x1]?/\w'.cell? ⟨b,x2,none⟩=C[x2]?/\w'.cell? ⟨b,x3,none⟩=C[x3]?/\w'.cell? ⟨b,x4,none⟩=C[x4]?:=⟨a.cell i j hij x0,a.cell i j hij x1,a.cell i j hij x2,a.cell i j hij x3,a.cell i j hij x4⟩
theorem TG.f5 {h H:GH} {w w':World} (a:TG h w H w') (i j x0 x1 x2 x3 x4:Nat) {b:Nat} {T:U1} {C:Array Value} (hij:(H.getD i [])[j]?=some (cl b T C):=by exact rfl):w'.frozen? ⟨b,x0,none⟩=false/\w'.frozen? ⟨b,x1,none⟩=false/\w'.frozen? ⟨b,x2,none⟩=false/\w'.frozen? ⟨b,x3,none⟩=false/\w'.frozen? ⟨b,x4,none⟩=false:=⟨a.free i j hij x0,a.free i j hij x1,a.free i j hij x2,a.free i j hij x3,a.free i j hij x4⟩
theorem TG.c6 {h H:GH} {w w':World} (a:TG h w H w') (i j x0 x1 x2 x3 x4 x5:Nat) {b:Nat} {T:U1} {C:Array Value} (hij:(H.getD i [])[j]?=some (cl b T C):=by exact rfl):w'.cell? ⟨b,x0,none⟩=C[x0]?/\w'.cell? ⟨b,x1,none⟩=C[x1]?/\w'.cell? ⟨b,x2,none⟩=C[x2]?/\w'.cell? ⟨b,x3,none⟩=C[x3]?/\w'.cell? ⟨b,x4,none⟩=C[x4]?/\w'.cell? ⟨b,x5,none⟩=C[x5]?:=⟨a.cell i j hij x0,a.cell i j hij x1,a.cell i j hij x2,a.cell i j hij x3,a.cell i j hij x4,a.cell i j hij x5⟩
theorem TG.f6 {h H:GH} {w w':World} (a:TG h w H w') (i j x0 x1 x2 x3 x4 x5:Nat) {b:Nat} {T:U1} {C:Array Value} (hij:(H.getD i [])[j]?=some (cl b T C):=by exact rfl):w'.frozen? ⟨b,x0,none⟩=false/\w'.frozen? ⟨b,x1,none⟩=false/\w'.frozen? ⟨b,x2,none⟩=false/\w'.frozen? ⟨b,x3,none⟩=false/\w'.frozen? ⟨b,x4,none⟩=false/\w'.frozen? ⟨b,x5,none⟩=false:=⟨a.free i j hij x0,a.free i j hij x1,a.free i j hij x2,a.free i j hij x3,a.free i j hij x4,a.free i j hij x5⟩
theorem TG.c7 {h H:GH} {w w':World} (a:TG h w H w') (i j x0 x1 x2 x3 x4 x5 x6:Nat) {b:Nat} {T:U1} {C:Array Value} (hij:(H.getD i [])[j]?=some (cl b T C):=by exact rfl):w'.cell? ⟨b,x0,none⟩=C[x0]?/\w'.cell? ⟨b,x1,none⟩=C[x1]?/\w'.cell? ⟨b,x2,none⟩=C[x2]?/\w'.cell? ⟨b,x3,none⟩=C[x3]?/\w'.cell? ⟨b,x4,none⟩=C[x4]?/\w'.cell? ⟨b,x5,none⟩=C[x5]?/\w'.cell? ⟨b,x6,none⟩=C[x6]?:=⟨a.cell i j hij x0,a.cell i j hij x1,a.cell i j hij x2,a.cell i j hij x3,a.cell i j hij x4,a.cell i j hij x5,a.cell i j hij x6⟩
theorem TG.f7 {h H:GH} {w w':World} (a:TG h w H w') (i j x0 x1 x2 x3 x4 x5 x6:Nat) {b:Nat} {T:U1} {C:Array Value} (hij:(H.getD i [])[j]?=some (cl b T C):=by exact rfl):w'.frozen? ⟨b,x0,none⟩=false/\w'.frozen? ⟨b,x1,none⟩=false/\w'.frozen? ⟨b,x2,none⟩=false/\w'.frozen? ⟨b,x3,none⟩=false/\w'.frozen? ⟨b,x4,none⟩=false/\w'.frozen? ⟨b,x5,none⟩=false/\w'.frozen? ⟨b,x6,none⟩=false:=⟨a.free i j hij x0,a.free i j hij x1,a.free i j hij x2,a.free i j hij x3,a.free i j hij x4,a.free i j hij x5,a.free i j hij x6⟩
theorem TG.c8 {h H:GH} {w w':World} (a:TG h w H w') (i j x0 x1 x2 x3 x4 x5 x6 x7:Nat) {b:Nat} {T:U1} {C:Array Value} (hij:(H.getD i [])[j]?=some (cl b T C):=by exact rfl):w'.cell? ⟨b,x0,none⟩=C[x0]?/\w'.cell? ⟨b,x1,none⟩=C[x1]?/\w'.cell? ⟨b,x2,none⟩=C[x2]?/\w'.cell? ⟨b,x3,none⟩=C[x3]?/\w'.cell? ⟨b,x4,none⟩=C[x4]?/\w'.cell? ⟨b,x5,none⟩=C[x5]?/\w'.cell? ⟨b,x6,none⟩=C[x6]?/\w'.cell? ⟨b,x7,none⟩=C[x7]?:=⟨a.cell i j hij x0,a.cell i j hij x1,a.cell i j hij x2,a.cell i j hij x3,a.cell i j hij x4,a.cell i j hij x5,a.cell i j hij x6,a.cell i j hij x7⟩
theorem TG.f8 {h H:GH} {w w':World} (a:TG h w H w') (i j x0 x1 x2 x3 x4 x5 x6 x7:Nat) {b:Nat} {T:U1} {C:Array Value} (hij:(H.getD i [])[j]?=some (cl b T C):=by exact rfl):w'.frozen? ⟨b,x0,none⟩=false/\w'.frozen? ⟨b,x1,none⟩=false/\w'.frozen? ⟨b,x2,none⟩=false/\w'.frozen? ⟨b,x3,none⟩=false/\w'.frozen? ⟨b,x4,none⟩=false/\w'.frozen? ⟨b,x5,none⟩=false/\w'.frozen? ⟨b,x6,none⟩=false/\w'.frozen? ⟨b,x7,none⟩=false:=⟨a.free i j hij x0,a.free i j hij x1,a.free i j hij x2,a.free i j hij x3,a.free i j hij x4,a.free i j hij x5,a.free i j hij x6,a.free i j hij x7⟩
def Q3 (e:U1) (size:Nat) (v:Value) (n:Nat) (xs:List Value) (g:List ak):Prop :=
 xs.length=n*size/\((v=.slice none 0 0/\n=0/\g=[]) \/
  ∃ b cap cur,v=.slice (some ⟨b,0,none⟩) n cap/\g=[cl b e cur]/\n<=cap/\cap<=maxLen/\cur.size=cap*size/\cur.toList.take (n*size)=xs)
section
variable {e:U1} {size:Nat} {v:Value} {n:Nat} {xs:List Value} {g:List ak} {h H:GH} {w w':World}
theorem X7 (e:U1) (size:Nat):Q3 e size (.slice none 0 0) 0 [] []:=⟨by simp,.inl ⟨rfl,rfl,rfl⟩⟩
theorem Lg (e:U1) (size b n cap:Nat) (cur:Array Value) (h1:n<=cap) (h2:cap<=maxLen) (h3:cur.size=cap*size):Q3 e size (.slice (some ⟨b,0,none⟩) n cap) n (cur.toList.take (n*size)) [cl b e cur] :=
 ⟨by rw [Va,Array.length_toList,h3];exact Nat.min_eq_left (Nat.mul_le_mul_right _ h1),.inr ⟨b,cap,cur,rfl,rfl,h1,h2,h3,rfl⟩⟩
theorem Q3.open (r:Q3 e size v n xs g) (hn:0<n):∃ b cap cur,v=.slice (some ⟨b,0,none⟩) n cap/\g=[cl b e cur]/\n<=cap/\cap<=maxLen/\cur.size=cap*size/\∀ j,j<n*size->cur[j]?=xs[j]?:=by
 rcases r.2 with ⟨_,h0,_⟩ | ⟨b,cap,cur,h1,h2,h3,h4,h5,h6⟩
 ·omega
 ·refine ⟨b,cap,cur,h1,h2,h3,h4,h5,fun j hj=>?_⟩
  rw [<- h6,List.getElem?_take,if_pos hj,Array.getElem?_toList]
theorem Q3.val (r:Q3 e size v n xs g):∃ a cap,v=.slice a n cap:=by
 rcases r.2 with ⟨h1,h2,_⟩ | ⟨b,cap,cur,h1,_⟩
 ·subst h2;exact ⟨_,_,h1⟩
 ·exact ⟨_,_,h1⟩
theorem Q3.set (r:Q3 e size v n xs g) {b:Nat} {cur:Array Value} (hg:g=[cl b e cur]) (j:Nat) (x:Value):Q3 e size v n (xs.set j x) [cl b e (cur.setIfInBounds j x)]:=by
 subst hg;refine ⟨by rw [UL];exact r.1,?_⟩
 rcases r.2 with ⟨_,_,h3⟩ | ⟨b',cap,cur',h1,h2,h3,h4,h5,h6⟩
 ·cases h3
 ·cases h2
  refine .inr ⟨b,cap,_,h1,rfl,h3,h4,by simpa using h5,?_⟩
  rw [<- h6,Array.toList_setIfInBounds,List.take_set]
theorem TG.owns (T:TG h w H w') (i:Nat) (hi:H.getD i []=g) (r:Q3 e size v n xs g):w'.ownsRow 0 e size v n xs:=by
 refine ⟨r.1,?_⟩
 rcases r.2 with ⟨h1,h2,_⟩ | ⟨b,cap,cur,h1,h2,h3,h4,h5,h6⟩
 ·exact .inl ⟨h1,h2⟩
 ·exact .inr ⟨b,cap,cur,h1,Nat.zero_le _,T.obj (p:=(b,.cells cur e (0,0))) i 0 (by rw [hi,h2];rfl),h3,h4,h5,h6⟩
theorem TG.xc (T:TG h w H w') (i:Nat) (hi:i<H.length):TG h w (H.set i []) w':=by
 have T':Qh _ _ _ _:=Qh.perm T (vV (qc3 hi));rw [Jg] at T';exact T'.drop
theorem TG.putAt (T:TG h w H w') (i:Nat) (hi:i<H.length) {k:Nat} (hk:k=w'.heap.size) (o:Obj):TG h w (H.set i [(k,o)]) (w'.alloc o):=by
 refine ((T.xc i hi).put hk o).re ?_
 rw [US];refine List.perm_append_comm.trans ?_
 have:([[(k,o)]]:GH).flatten=[(k,o)]:=by simp
 rw [this];exact (A7 _ hi).symm
theorem z8 {P:U8} (t ty e:U1) (i:TypeInfo) (z:Value) (size bytes:Nat) (ht:P.underlying t=some (.slice e)) (hi:P.info? e=some i) (hz:i.zero=some z)
 (hsize:i.size=size) (hby:i.bytes=bytes) (hzs:z.cells.size=size) (hsz:0<size)
 (T:TG h w H w') (k:Nat) (hk:k<H.length) (hg:H.getD k []=g) (r:Q3 e size v n xs g)
 (a:Addr) (m c:Nat) (news:List Value) (hl:news.length=m*size) (hnews:∀ j u,news[j]?=some u->w'.cell? (a.add j)=some u) (h1:∀ u∈news,u.oneCell'=true)
 (h63:n+m<=maxLen) (hbytes:(n+m)*bytes<=140737488355328) :
 ∃ v' w'' g',(Builtin.append_ #[t,t] ty #[v,.slice (some a) m c]).run P w'=.ok v' w''/\Q3 e size v' (n+m) (xs++news) g'/\TG h w (H.set k g') w'':=by
 subst hsize;subst hby;have hsmall:n+m<=9223372036854775807:=by simp only [maxLen] at h63;omega
 have hlen:(xs++news).length=(n+m)*i.size:=by rw [V7,r.1,hl,Nat.add_mul]
 have grown:∀ (old:Nat),old<n+m ->
  Q3 e i.size (.slice (some ⟨w'.heap.size,0,none⟩) (n+m) (grownCap w' (n+m) old e)) (n+m) (xs++news) [cl w'.heap.size e (xs.toArray++news.toArray++Builtin.zeroCells z.cells (grownCap w' (n+m) old e - (n+m)))]:=by
  intro old ho;have hge:=grownCap_ge w' (n+m) old e;have hcm:grownCap w' (n+m) old e<=maxLen:=grownCap_le_maxLen w' (n+m) old e h63;refine ⟨hlen,.inr ⟨w'.heap.size,_,_,rfl,rfl,hge,hcm,?_,?_⟩⟩
  ·simp only [Array.size_append,V9,size_zeroCells,hzs,r.1,hl,<- Nat.add_mul]
   congr 1
   omega
  ·simp only [Array.toList_append,U3]
   rw [<- U3,<- hlen];exact List.take_left
 rcases r.2 with ⟨rfl,rfl,rfl⟩ | ⟨b,cap,cur,rfl,rfl,hnc,hcm,hcs,htake⟩
 ·have hx:xs=[]:=UR (by simpa using r.1)
  subst hx;by_cases hm:m=0
  ·subst hm
   have hn:news=[]:=UR (by simpa using hl);subst hn;refine ⟨.slice none 0 0,w',[],?_,X7 e i.size,T.xc k hk⟩
   simp [Builtin.append_,run_underlying ht,sizeOf,typeInfo,hi,Builtin.lenOf,Builtin.firstCells,loadCells,loadCellsFrom]
  ·have hr:=run_append_nil (P:=P) w' t ty e i z ht hi hz a m c news hl hnews (by omega) (by omega) (by have hb:=hbytes;simp only [Vi] at hb;omega)
   have hgr:=grown 0 (by omega);simp only [Vi,Ve,Array.empty_append] at hgr |-;exact ⟨_,_,_,hr,hgr,T.drew.putAt k hk rfl _⟩
 ·have hgb:w'.heap[b]?=some (.cells cur e (0,0)):=T.obj (p:=(b,.cells cur e (0,0))) k 0 (by rw [hg];rfl)
  by_cases hroom:n+m<=cap
  ·have hfit:n*i.size+news.length<=cur.size:=by rw [hl,hcs,<- Nat.add_mul];exact Nat.mul_le_mul_right _ hroom
   have hr:=run_append_room (P:=P) w' t ty e i ht hi b n cap cur hgb a m c news hl hnews h1 hroom hfit
   refine ⟨_,_,[cl b e (cur.toList.take (n*i.size)++news++cur.toList.drop (n*i.size+news.length)).toArray],hr,⟨hlen,.inr ⟨b,cap,_,rfl,rfl,hroom,hcm,?_,?_⟩⟩,
    T.turn (pre:=[]) (post:=[]) k (o':=.cells _ e (0,0)) hk hg (setRow_heap w' b cur _ e _ hgb) (fun j hj=>setRow_other w' b j _ hj) (by simp) rfl rfl rfl⟩
   ·simp only [V9,V7,Va,List.length_drop,Array.length_toList]
    omega
   ·rw [htake,<- hlen]
    exact List.take_left
  ·have hown:w'.ownsRow 0 e i.size (.slice (some ⟨b,0,none⟩) n cap) n xs:=T.owns k hg r
   have holds:∀ j u,xs[j]?=some u->w'.cell? ((⟨b,0,none⟩:Addr).add j)=some u:=hown.cells (g:=b) rfl;have hr:=run_append_grow (P:=P) w' t ty e i z ht hi hz ⟨b,0,none⟩ n cap xs r.1 holds a m c news hl hnews (by omega) (by omega) (growslice_fits (by omega) hbytes);exact ⟨_,_,_,hr,grown cap (by omega),T.drew.putAt k hk rfl _⟩
theorem Z0 {P:U8} {ops:Array Oper} {rest:List Oper} {o:Oper} {a:Act} {Q:Exit->Act->World->Prop} (hgd:o.guard=none) (s x:Operand) (t:U1)
 (ho:o.op=.call { callee:=.builtin .append,args:=#[s,x],argTypes:=#[t,t] })
 (e:U1) (size bytes:Nat) (z:Value) (ht:P.underlying t=some (.slice e)) (hinfo:(P.info? e).map (fun i=>(i.zero,i.size,i.bytes))=some (some z,size,bytes)) (hzs:z.cells.size=size) (hsz:0<size)
 (T:TG h w H w') (k:Nat) (hk:decide (k<H.length)=true) (hg:H.getD k []=g) (r:Q3 e size v n xs g) (hs:a.eval s=v)
 (ad:Addr) (m c:Nat) (news:List Value) (hx:a.eval x=.slice (some ad) m c) (hl:news.length=m*size) (hnews:∀ j u,news[j]?=some u->w'.cell? (ad.add j)=some u) (h1:∀ u∈news,u.oneCell'=true)
 (h63:n+m<=maxLen) (hbytes:(n+m)*bytes<=140737488355328)
 (hK:∀ v' w'' g',Q3 e size v' (n+m) (xs++news) g'->TG h w (H.set k g') w''->wpList P ops Q rest (a.put o.dst v') w''):wpList P ops Q (o::rest) a w':=by
 obtain ⟨i,hi,hz,hsize,hby⟩:=info_parts hinfo;refine wpList_plain hgd fun K hK'=>?_
 obtain ⟨v',w'',g',hr,h2,h3⟩:=z8 (P:=P) t o.type e i z size bytes ht hi hz hsize hby hzs hsz T k (of_decide_eq_true hk) hg r ad m c news hl hnews h1 h63 hbytes;unfold Oper.wp execOp;simp only [ho,resolve,invoke,builtin,Sem.run_bind,Sem.run_pure,Result.andThen_ok,List.map_toArray,UJ,List.map_nil,hs,hx,hr];exact hK' _ _ (hK v' w'' g' h2 h3)
end
theorem Zy (w:World) (T:U1) (l:List Value):∀ j u,l[j]?=some u->(w.alloc (.cells l.toArray T)).cell? ((⟨w.heap.size,0,none⟩:Addr).add j)=some u:=by
 intro j u hu;have e:((⟨w.heap.size,0,none⟩:Addr).add j)=⟨w.heap.size,j,none⟩:=by unfold Addr.add;split <;> simp_all
 rw [e,Q8 (Ku _ rfl)];simpa using hu
def uQ (lo c:Nat) (H:GH):Prop:=∀ k,k∈keys (ex H.flatten)->¬ BQ lo c k
section
variable {h H H':GH} {w w' w'':World} {lo c:Nat}
theorem Yz.lt (a:Yz H w) {k:Nat} (hk:k∈keys (ex H.flatten)):k<w.heap.size:=Has.lt a hk
theorem uQ.of_lt (a:Yz H w) (hw:w.heap.size<=lo):uQ lo c H:=fun k hk hx=>by have:=a.lt hk;have:=hx.1;omega
theorem uQ.next (a:uQ lo c H) (T:TG H w H' w') (hw:lo+c<=w.heap.size):uQ lo c H':=fun k hk hx=>by
 rcases Qh.news T k hk with h1 | h1
 ·exact a k h1 hx
 ·have:=hx.2;omega
theorem TG.kept (T:TG H w H' w') (a:uQ lo c H) (hw:lo+c<=w.heap.size):Yl lo c w w' :=
 Yl.vP (Qh.only T) hw (fun k h1 h2 hk=>a k hk ⟨h1,h2⟩)
theorem Yz.only {S:Nat->Prop} (a:Yz H w) (ho:q6 S w w') (hs:∀ k,k∈keys (ex H.flatten)->¬ S k):Yz H w':=Has.only a ho hs
theorem TG.other {S:Nat->Prop} (T:TG h w H w') (ho:q6 S w' w'') (hs:∀ k,k∈keys (ex H.flatten)->¬ S k) (hn:∀ k,S k->w.heap.size<=k):TG h w H w'' :=
 ⟨T.has.only ho hs,(Qh.only T).trans' ho (fun k hk hx=>by have:=hn k hx;omega),Qh.news T⟩
end
def I1 (J:Nat->GH->Prop) (Jx:Nat->Code->GH->Prop) (k:Nat) (H:GH) (W:World):Exit->Act->World->Prop
 | .normal,_,W'=>∃ H',J k H'/\TG H W H' W'
 | .ret,_,W'=>∃ H',Jx k .ret H'/\TG H W H' W'
 | .exit id,_,W'=>∃ H',Jx k (.exit id) H'/\TG H W H' W'
 | .goto t,_,W'=>∃ H',Jx k (.goto t) H'/\TG H W H' W'
 | .panic _,_,_=>False
 | .outgrown,_,_=>False
def Od (P:U8) (g:Nat) (lb:Array Value) (c N:Nat) (xs:Nat->Array Value) (T:Nat->GH->Prop):Prop :=
 ∀ W,JA P g lb c N xs (fun k W'=>∃ H,T k H/\Yz H W') W
def Db (w0:World) (D:Nat) (H:GH) (W:World):Prop:=w0.heap.size<=D/\D<W.heap.size/\D ∉ keys (ex H.flatten)
theorem TG.fin {h H H':GH} {w0 W W':World} {D:Nat} (T:TG h w0 H W) (hA:Db w0 D H W) (T2:TG H W H' W') (o:Obj):TG h w0 H' (W'.putObj D o) :=
 (T.trans T2).other (q6.putObj (S:=fun j=>j=D) (q6.refl _ _) _ (.inl rfl) o) (fun k hk e=>by
   subst e;rcases Qh.news T2 k hk with h1 | h1
   ·exact hA.2.2 h1
   ·have:=hA.2.1;omega) (fun k e=>by rw [e];exact hA.1)
theorem qyt {P:U8} {g:Operand} {ps:Array Tmp} {assign body:Code} {Q:Exit->Act->World->Prop} {a:Act} {w0 w:World} {gf:Nat} {lb:Array Value}
 (hg:a.eval g=.func (.func gf) #[] lb) (eg:∀ args w,(callFunc gf args).run P w=.ok (.enter gf args) w)
 {c N:Nat} {xs:Nat->Array Value} {T:Nat->GH->Prop} (hit:Od P gf lb c N xs T) (hps:∀ (k:Nat),k<N->(xs k).size=ps.size)
 {h H0:GH} (T0:TG h w0 H0 w) (J:Nat->GH->Prop) (Jx:Nat->Code->GH->Prop) (h0:J 0 H0) (hT:∀ k H,k<=N->J k H->T k H)
 (hbody:∀ (k:Nat),k<N->∀ (H:GH) (W:World) (l:Nat),J k H->Yz H W ->
   assign.wpIn (Fence.wide.inRound l) 0 P (Exit.then (fun a₁ Wa=>∃ Ha,TG H W Ha Wa /\
    ∀ Wb,Yz Ha Wb->body.wpIn (Fence.wide.inRound l) 0 P (I1 J Jx (k+1) Ha Wb) a₁ Wb) (fun _ _ _=>False))
    { tmps:=(ps.zip (xs k)).foldl (fun t (p,v)=>t.setIfInBounds p v) a.tmps,defers:=[] } W)
 (hdone:∀ H W D,J N H->TG h w0 H W->Db w0 D H W->W.heap[D]?=some (.deferred (some []))->Q .normal { a with defers:=wC D::a.defers } W)
 (hstop:∀ k cd H W D,k<N->Jx (k+1) cd H->TG h w0 H W->Db w0 D H W->W.heap[D]?=some (.deferred (some []))->cd.wp P Q { a with defers:=wC D::a.defers } W) :
 (Code.rangeFunc g ps assign body).wp P Q a w:=by
 have hw0:w0.heap.size<=w.heap.size:=(Qh.only T0).size
 refine q15 hg eg c N xs (fun k W'=>∃ H,T k H/\Yz H W') (fun W1 _ _=>hit W1) hps
  (fun k W=>∃ H,J k H/\TG h w0 H W/\uQ w.heap.size (2+c) H)
  (fun k cd W=>∃ H,Jx k cd H/\TG h w0 H W/\uQ w.heap.size (2+c) H) ?_ ?_ ?_ ?_ ?_ ?_ ?_
 ·rintro k A B ⟨H,hJ,qJ,hA⟩ hle ho
  exact ⟨H,hJ,qJ.other ho (fun i hi hx=>hA i hi hx) (fun i hx=>UY hw0 hx.1),hA⟩
 ·rintro cd k A B ⟨H,hJ,qJ,hA⟩ hle ho
  exact ⟨H,hJ,qJ.other ho (fun i hi hx=>hA i hi hx) (fun i hx=>UY hw0 hx.1),hA⟩
 ·rintro k W hk ⟨H,hJ,qJ,_⟩
  exact ⟨H,hT k H hk hJ,qJ.has⟩
 ·exact ⟨H0,h0,T0,uQ.of_lt T0.has (UW _)⟩
 ·rintro k hk W ⟨H,hJ,qJ,hA⟩ hz hr
  refine wpIn_mono (hbody k hk H W (w.heap.size+1) hJ qJ.has) ?_
  intro e a₁ Wa hex;cases e with
  | normal =>
    obtain ⟨Ha,yt,hb⟩:=hex;have hza:=(Qh.only yt).size;have EP:=hA.next yt (by omega);refine ⟨yt.kept hA (by omega),fun Wb ho hzb _=>?_⟩
    have ER:Yz Ha Wb:=yt.has.only ho (fun i hi e=>EP i hi ⟨by omega,by omega⟩);have hTb:TG h w0 Ha Wb:=(qJ.trans yt).other ho (fun i hi e=>EP i hi ⟨by omega,by omega⟩) (fun i e=>by omega);refine wpIn_mono (hb Wb ER) ?_
    intro e2 a₂ W3 h3
    have fin:∀ H',TG Ha Wb H' W3->Yl w.heap.size (2+c) Wb W3/\TG h w0 H' W3/\uQ w.heap.size (2+c) H':=fun H' rP =>
     ⟨rP.kept EP (by omega),hTb.trans rP,EP.next rP (by omega)⟩
    cases e2 with
    | normal=>obtain ⟨H',hJ',rP⟩:=h3;obtain ⟨f1,f2,f3⟩:=fin H' rP;exact ⟨f1,H',hJ',f2,f3⟩
    | ret=>obtain ⟨H',hJ',rP⟩:=h3;obtain ⟨f1,f2,f3⟩:=fin H' rP;exact ⟨f1,H',hJ',f2,f3⟩
    | exit id=>obtain ⟨H',hJ',rP⟩:=h3;obtain ⟨f1,f2,f3⟩:=fin H' rP;exact ⟨f1,H',hJ',f2,f3⟩
    | goto t=>obtain ⟨H',hJ',rP⟩:=h3;obtain ⟨f1,f2,f3⟩:=fin H' rP;exact ⟨f1,H',hJ',f2,f3⟩
    | panic ch=>exact h3.elim
    | outgrown=>exact h3.elim
  | ret=>exact hex.elim
  | exit id=>exact hex.elim
  | goto t=>exact hex.elim
  | panic ch=>exact hex.elim
  | outgrown=>exact hex.elim
 ·rintro W ⟨H,hJ,qJ,hA⟩ hK
  have Ii:Db w0 w.heap.size H W:=⟨hw0,(UC.1 hK).1,fun hk=>hA _ hk ⟨UW _,by omega⟩⟩;exact hdone H W _ hJ qJ Ii hK
 ·rintro k cd W hk ⟨H,hJ,qJ,hA⟩ hK
  have Ii:Db w0 w.heap.size H W:=⟨hw0,(UC.1 hK).1,fun hk=>hA _ hk ⟨UW _,by omega⟩⟩;exact hstop k cd H W _ hk hJ qJ Ii hK
def Qd (P:U8) (f:Nat) (args:Array Value) (gs:GH) (v:Value):Prop :=
 ∀ w,Yz gs w->Calls P f args w fun e w'=>e=U4 v/\∃ m,w'=w.drewN m
section
variable {P:U8} {f:Nat} {args:Array Value} {gs h H:GH} {v:Value} {w w1:World}
theorem Qd.does (r:Qd P f args gs v):Qa P f args gs fun e gs'=>e=U4 v/\gs'=gs :=
 fun w hw=>(r w hw).mono fun e w' ⟨he,m,hw'⟩=>⟨gs,⟨he,rfl⟩,by subst hw';exact (TG.refl hw).drewN m⟩
theorem Qd.use (r:Qd P f args gs v) (T:TG h w H w1) (is:List Nat) (hp:lI H is=gs) (hf:oG H is=true) :
 Calls P f args w1 fun e w2=>e=U4 v/\∃ m,w2=w1.drewN m:=by
 subst hp;exact r w1 (T.pick is hf).has
theorem Qd.quiet (r:Qd P f args gs v) (T:TG h w H w1) (n:Nat) (is:List Nat) (hp:lI H is=gs) (hf:oG H is=true) :
 Calls P f args (w1.drewN n) fun e w2=>e=U4 v/\∃ m,w2=w1.drewN m :=
 Calls.quiet_of (r.use (T.drewN n) is hp hf)
end
theorem Qd.run {P:U8} {f:Nat} {args:Array Value} {gs h H:GH} {v:Value} {w w1:World} (r:Qd P f args gs v) (T:TG h w H w1) (is:List Nat) {K:UQ->World->Prop} (hK:∀ e w2,e=U4 v->UI (TG h w H w2)->K e w2) (hp:lI H is=gs:=by rfl) (hf:oG H is=true:=by rfl):Calls P f args w1 K :=
 (r.use T is hp hf).mono fun e w2 ⟨a,m,b⟩=>hK e w2 a (b ▸ T.drewN m)
theorem Jv {ι:Type} {P:U8} (W:ι->World) {id:Nat} {Q:Exit->Act->World->Prop} {a:Act} {w:World} {l:List Oper} (hm:P.follows .mixedOrders=true) (hB:Region.lexB .any l.toArray=true)
 (h0:∃ i,w.drew=W i) (h:wpQuiet P l.toArray (fun w'=>∃ i,w'=W i) (fun a'=>∀ w',(∃ i,w'=W i)->Q .normal a' w') l a):(Code.region id l.toArray true).wp P Q a w :=
 wp_region_quiet (C:=fun w'=>∃ i,w'=W i) hm hB h0 (by simpa using h)
section
variable {h H:GH} {w w':World}
theorem TG.bz (T:TG h w H w') (i:Nat) {g:List ak} (hi:decide (i<H.length)=true) (hp:(H.getD i []).Perm g):TG h w (H.set i g) w':=by
 have hi:=of_decide_eq_true hi;exact T.re ((qc3 hi).trans ((hp.append_right _).trans (A7 g hi).symm))
theorem TG.merge (T:TG h w H w') (i j:Nat) (hij:i≠j) (hi:decide (i<H.length)=true) (hj:decide (j<H.length)=true):TG h w ((H.set j []).set i (H.getD i []++H.getD j [])) w':=by
 have hi:=of_decide_eq_true hi;have hj:=of_decide_eq_true hj;have hi':i<(H.set j []).length:=by rw [UL];exact hi
 have e:(H.set j []).getD i []=H.getD i []:=by rw [U2,UF,if_neg (Ne.symm hij),<- U2]
 refine T.re ((qc3 hj).trans ?_)
 refine List.Perm.trans ?_ (A7 _ hi').symm
 refine ((qc3 hi').append_left _).trans ?_
 rw [e,<- U3];exact List.perm_append_comm.append_right _
end
section
variable {α:Type} {f:α->List ak} {l:List α} {k:Nat} {a:α}
theorem Yh (hk:l[k]?=some a):l.set k a=l:=by
 apply V8
 intro i;rw [UF];split
 ·next e=>subst e;rw [hk];simp [(UT.1 hk).1]
 ·rfl
end
def Yy {α:Type} (P:α->List ak->Prop):List α->List ak->Prop
 | [],g=>g=[]
 | a::l,g=>∃ x y,P a x/\Yy P l y/\g=x++y
section
variable {α:Type} {P:α->List ak->Prop}
theorem Yy.snoc {l:List α} {g x:List ak} {a:α} (h:Yy P l g) (hx:P a x):Yy P (l++[a]) (g++x):=by
 induction l generalizing g with
 | nil=>obtain rfl:g=[]:=h;exact ⟨x,[],hx,rfl,by simp⟩
 | cons b l ih =>
   obtain ⟨y,z,hy,hz,rfl⟩:=h;exact ⟨y,z++x,hy,ih hz,by simp⟩
theorem Yy.out {l:List α} {g:List ak} {k:Nat} {a:α} (h:Yy P l g) (hk:l[k]?=some a) :
 ∃ x y,P a x/\g.Perm (x++y)/\∀ a' x',P a' x'->∃ g',Yy P (l.set k a') g'/\(x'++y).Perm g':=by
 induction l generalizing g k with
 | nil=>simp at hk
 | cons b l ih =>
   obtain ⟨u,v,hu,hv,rfl⟩:=h;cases k with
   | zero =>
     simp only [List.getElem?_cons_zero,Option.some.injEq] at hk;subst hk;exact ⟨u,v,hu,U7 _,fun a' x' hx'=>⟨x'++v,⟨x',v,hx',hv,rfl⟩,U7 _⟩⟩
   | succ k =>
     simp only [UB] at hk;obtain ⟨x,y,hx,hp,hr⟩:=ih hv hk;refine ⟨x,u++y,hx,?_,fun a' x' hx'=>?_⟩
     ·refine (hp.append_left u).trans ?_
      rw [<- U3,<- U3];exact List.perm_append_comm.append_right _
     ·obtain ⟨g',hg',hp'⟩:=hr a' x' hx'
      refine ⟨u++g',⟨u,g',hu,hg',rfl⟩,?_⟩
      refine List.Perm.trans ?_ (hp'.append_left u)
      rw [<- U3,<- U3];exact List.perm_append_comm.append_right _
end
end
end Go.Proofs.YtcneeepdclgdcaaGreat
