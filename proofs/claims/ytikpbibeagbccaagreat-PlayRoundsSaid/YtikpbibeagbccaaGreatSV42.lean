import Derived.Test.YtikpbibeagbccaaGreatSV41
import Derived.Test.YtikpbibeagbccaaGreatSV15
set_option maxRecDepth 100000
set_option maxHeartbeats 4000000
namespace Go.Proofs.YtikpbibeagbccaaGreat
set_option linter.unusedVariables false
set_option linter.unusedSimpArgs false
section
open Go.RowKit Go.Shelf Go.ChangeShapes
structure qi2 (w:World) (a:Option Addr) (cap:Nat) (zs:List Int):Prop where
 arg:qvb w a zs
 le:zs.length≤cap
 max:cap≤maxLen
 nil:a=none→cap=0
theorem argIn_of {w:World} {a:Option Addr} {len cap:Nat} {z:List Int} (h:(a=none∧len=0∧cap=0∧z=[])∨∃ x,a=some x∧len≤cap∧cap≤maxLen∧z.length=cap∧(∀ i,i<z.length→w.cell? (x.add i)=some (.int .u8 (z.getD i 0)))∧∀ n∈z,(Lit.int .u8 n).wf=true):∃ zs,zs.length=len∧qi2 w a cap zs:=by
 obtain ⟨zs,h1,h2,h3⟩:=qv5 h;refine ⟨zs,h1,h2,?_,?_,?_⟩
 ·rcases h with ⟨_,rfl,rfl,_⟩ | ⟨_,_,h4,_⟩
  ·exact Nat.le_of_eq h1
  ·omega
 ·rcases h with ⟨_,_,rfl,_⟩ | ⟨_,_,_,h4,_⟩
  ·exact Nat.zero_le _
  ·exact h4
 ·rintro rfl
  rcases h with ⟨_,_,h4,_⟩ | ⟨x,h4,_⟩
  ·exact h4
  ·cases h4
theorem qi2.take {w:World} {a:Option Addr} {cap:Nat} {zs:List Int} (h:qi2 w a cap zs) (n:Nat):qi2 w a cap (zs.take n):=by
 refine ⟨⟨fun x hx=>h.arg.1 x (List.mem_of_mem_take hx),?_⟩,by rw [List.length_take];have:=h.le;omega,h.max,h.nil⟩
 rcases h.arg.2 with h0 | ⟨b,off,h1,h2,h3⟩
 ·exact .inl (by rw [h0];exact List.take_nil)
 ·refine .inr ⟨b,off,h1,h2,fun i x hi=>?_⟩
  rw [List.getElem?_take] at hi;split at hi
  ·exact h3 i x hi
  ·cases hi
theorem qi2.src {w:World} {a:Option Addr} {cap:Nat} {zs:List Int} (h:qi2 w a cap zs) {H:GH} {w':World} (T:TG [] w H w') :
 (a=none∧zs.length=0∧cap=0)∨∃ ad,a=some ad∧∀ j u,(zs.map (Value.int .u8))[j]?=some u→w'.cell? (ad.add j)=some u:=by
 cases a with
 | none=>exact .inl ⟨rfl,by have:=h.nil rfl;have:=h.le;omega,h.nil rfl⟩
 | some ad =>
   refine .inr ⟨ad,rfl,fun j u hu=>?_⟩
   rw [List.getElem?_map] at hu;cases hz:zs[j]? with
   | none=>rw [hz] at hu;cases hu
   | some x =>
     rw [hz] at hu;cases hu
     rcases h.arg.2 with rfl | ⟨b,off,he,hb,hc⟩
     ·cases hz
     ·cases he
      rw [show (⟨b,off,none⟩:Addr).add j=⟨b,off+j,none⟩ from Go.WideShapes.add_plain _ _ _,T.old (p:=⟨b,off+j,none⟩) hb];exact hc j x hz
theorem qyl (l:List Int):∀ u∈l.map (Value.int .u8),u.oneCell'=true:=by
 intro u hu;obtain ⟨n,_,rfl⟩:=List.mem_map.1 hu;rfl
section
variable {h H:GH} {w w':World} {g:List Blk} {v:Value} {n:Nat} {xs:List Value}
theorem zz {P:Program} {ops:Array Oper} {rest:List Oper} {o:Oper} {a:Act} {Q:Exit→Act→World→Prop} (hgd:o.guard=none) (s x:Operand) (t:TypeId)
 (ho:o.op=.call { callee:=.builtin .append,args:=#[s,x],argTypes:=#[t,t] })
 (e:TypeId) (size bytes:Nat) (z:Value) (ht:P.underlying t=some (.slice e)) (hinfo:(P.info? e).map (fun i=>(i.zero,i.size,i.bytes))=some (some z,size,bytes)) (hzs:z.cells.size=size) (hsz:0<size)
 (T:TG h w H w') (k:Nat) (hk:decide (k<H.length)=true) (hg:H.getD k []=g) (r:Qr e size v n xs g) (hs:a.eval s=v)
 (A:Option Addr) (m c:Nat) (news:List Value) (hx:a.eval x=.slice A m c) (hl:news.length=m*size) (hA:(A=none∧m=0∧c=0)∨∃ ad,A=some ad∧∀ j u,news[j]?=some u→w'.cell? (ad.add j)=some u) (h1:∀ u∈news,u.oneCell'=true)
 (h63:n+m≤maxLen) (hbytes:(n+m)*bytes≤140737488355328)
 (hK:∀ v' w'' g',Qr e size v' (n+m) (xs++news) g'→TG h w (H.set k g') w''→wpList P ops Q rest (a.put o.dst v') w''):wpList P ops Q (o::rest) a w':=by
 rcases hA with ⟨rfl,rfl,rfl⟩ | ⟨ad,rfl,hc⟩
 ·have hn0:news=[]:=List.eq_nil_of_length_eq_zero (by simpa using hl)
  subst hn0;obtain ⟨i,hi,hz,hsize,hby⟩:=info_parts hinfo;refine wpList_append_own_none hgd s x t ho 0 e i size ht hi v n xs hs (T.owns k hg r) hx (hK v w' g (by simpa using r) ?_)
  have:H.set k g=H:=by rw [← hg];exact set_self (of_decide_eq_true hk)
  rw [this];exact T
 ·exact Xj hgd s x t ho e size bytes z ht hinfo hzs hsz T k hk hg r hs ad m c news hx hl hc h1 h63 hbytes hK
end
theorem que {h H:GH} {w w':World} (T:TG h w H w') {i j:Nat} (hij:i≠j) {v:Value} {zs:List Int} {g gr:List Blk} (hi:H.getD i []=g) (hj:H.getD j []=gr) (r:Qr 5 1 v zs.length (zs.map (Value.int .u8)) gr) (hz:∀ x∈zs,0≤x∧x≤255) :
 ∃ a cap,v=.slice a zs.length cap∧zs.length≤cap∧cap≤maxLen∧qco w' a zs g:=by
 obtain ⟨hl,(⟨rfl,h0,rfl⟩ | ⟨b,cap,cur,rfl,rfl,h1,h2,h3,h4⟩)⟩:=r
 ·have he:zs=[]:=List.eq_nil_of_length_eq_zero h0
  subst he;exact ⟨none,0,rfl,Nat.le_refl _,Nat.zero_le _,⟨hz,.inl rfl⟩,.inl rfl⟩
 ·refine ⟨some ⟨b,0,none⟩,cap,rfl,h1,h2,⟨hz,.inr ⟨b,0,rfl,?_,fun k hk=>?_⟩⟩,.inr ?_⟩
  ·exact T.lt j 0 (p:=(b,_)) (by rw [hj];rfl)
  ·have hq:cur[k]?=(zs.map (Value.int .u8))[k]?:=by
    rw [← h4,List.getElem?_take,if_pos (by omega),Array.getElem?_toList]
   rw [Nat.zero_add,T.cell j 0 (b:=b) (by rw [hj];rfl) k]
   show cur[k]?=_
   rw [hq,List.getElem?_map,List.getElem?_eq_getElem hk,List.getD_eq_getElem?_getD,List.getElem?_eq_getElem hk];rfl
  ·rintro b' off he p hp
   cases he
   obtain ⟨q,hq⟩:=List.mem_iff_getElem?.1 hp;exact T.ne i q j 0 hij (by rw [hi];exact hq) (q:=(b,_)) (by rw [hj];rfl)
end
end Go.Proofs.YtikpbibeagbccaaGreat
