import Derived.Test.YtcneeepdclgdcaaGreatPF4
import Derived.Conc.LoneSelect
set_option maxRecDepth 100000
set_option maxHeartbeats 4000000
namespace Go.Proofs.YtcneeepdclgdcaaGreat
set_option linter.all false
section
open Go Go.RowKit Go.Conc
def Ch (P:Program) (c:Code) (Q:Exit->Act->World->Prop) (a:Act) (w:World):Prop :=
 ∀ (b:Frame),b.kind=.normal->∀ (k:List Item) (cs:List Frame),∃ e a' w',Q e a' w'/\Arrives P (lone (b.at a (.code c::k)) cs w) b k cs e a' w'
section
variable {P:Program} {Q:Exit->Act->World->Prop} {a:Act} {w:World}
theorem Z7 {c:Code} (h:c.wp P Q a w):Ch P c Q a w:=fun b _ k cs=>h b k cs
theorem zc {x y:Code} (h:Ch P x (Exit.then (Ch P y Q) Q) a w):Ch P (Code.seq x y) Q a w:=by
 intro b hb k cs;obtain ⟨e,a₁,w₁,hq,harr⟩:=h b hb (.code y::k) cs;cases e with
 | normal =>
   obtain ⟨e₂,a₂,w₂,hq₂,harr₂⟩:=hq b hb k cs;exact ⟨e₂,a₂,w₂,hq₂,.of_steps (.head step_seq harr) harr₂⟩
 | exit id=>exact ⟨_,a₁,w₁,hq,.of_steps (.one step_seq) (.pass (x:=.code y) rfl (fun _ _=>.inl (by simp)) harr)⟩
 | goto l=>exact ⟨_,a₁,w₁,hq,.of_steps (.one step_seq) (.pass (x:=.code y) rfl (fun _ _=>.inl (by simp)) harr)⟩
 | ret=>exact ⟨_,a₁,w₁,hq,.of_steps (.one step_seq) (.pass (x:=.code y) rfl (fun _ _=>.inl (by simp)) harr)⟩
 | panic ch=>exact ⟨_,a₁,w₁,hq,.of_steps (.one step_seq) (.pass (x:=.code y) rfl (fun _ _=>.inl (by simp)) harr)⟩
 | outgrown=>exact ⟨_,a₁,w₁,hq,.of_steps (.one step_seq) (.pass (x:=.code y) rfl (fun _ _=>.inl (by simp)) harr)⟩
theorem Yt {id:Nat} {o:Oper} {rest:List Oper} {cases:Array CommCase} {blocking:Bool} {shape:CommShape} {v:Value} {w1 w':World}
 (hw:Region.wanted o (yielded (o::rest).toArray a.tmps)=true) (hr:(execOp a.eval o).run P w=.ok (.comm cases blocking shape) w1)
 (hs:∀ (fr:Frame) (cs:List Frame) (es:Array Event),stepG P true (G fr cs) w=.comm (G fr cs) cases blocking shape w1 es->step P (solo (G fr cs) w)=.next (solo (G (fr.finish v) cs) w'))
 (h:wpList P (o::rest).toArray Q rest (a.put o.dst v) w'):Ch P (Code.region id (o::rest).toArray false) Q a w:=by
 intro b hb k cs;have h0:((o::rest).toArray)[0]?=some o:=by simp
 have hl:List.range (o::rest).toArray.size=0::List.range' 1 rest.length:=by
  simp [List.range_eq_range',List.range'_succ]
 have hg:=stepG_comm (P:=P) (main:=true) (a:=a) (w:=w) (b:=b) (k:=k) (cs:=cs) (ops:=(o::rest).toArray) (i:=0) (rest:=List.range' 1 rest.length) h0 hw (by rw [hb];decide) hr;have hst:=hs _ cs _ hg;rw [Frame.finish_at,h0] at hst
 have hst:step P (lone (b.at a (.inRegion (o::rest).toArray (0::List.range' 1 rest.length)::k)) cs w)=.next (lone (b.at (a.put o.dst v) (.inRegion (o::rest).toArray (List.range' 1 rest.length)::k)) cs w'):=by
  rw [lone_eq_solo,lone_eq_solo];exact hst
 rw [<- wpOps_eq_wpList (ops:=(o::rest).toArray) (Q:=Q) rest 1 (fun j=>by simp [Nat.add_comm 1 j])] at h;obtain ⟨e,a',w'',hq,harr⟩:=wp_ops _ _ _ h b k cs;refine ⟨e,a',w'',hq,.of_steps (.head ?_ (.one hst)) harr⟩
 have:=step_region (P:=P) (b:=b) (a:=a) (k:=k) (cs:=cs) (w:=w) (id:=id) (ops:=(o::rest).toArray);rw [hl] at this;exact this
theorem KW {f:FuncId} {fn:Func} {c:Code} {args:Array Value} {R:Ending->World->Prop}
 (hf:P.funcs[f]?=some fn) (hb:fn.body=some c)
 (h:Ch P c (bodyPost P fn R) { tmps:=args++Array.replicate (fn.ntmps - args.size) undef,defers:=[] } w):Calls P f args w R:=by
 intro cs
 let b:Frame:={ (default:Frame) with fn:=f,kind:=.normal }
 have henter:Frame.enter P f args .normal=b.at { tmps:=args++Array.replicate (fn.ntmps - args.size) undef,defers:=[] } [.code c]:=by
  simp [Frame.enter,Frame.at,hf,hb,b]
 obtain ⟨e,a',w',hq,harr⟩:=h b rfl [] cs;rw [<- henter] at harr;cases e with
 | normal =>
   obtain ⟨hd,v,hr,hR⟩:=hq;exact ⟨.returned v,w',_,hR,Steps.trans harr (.one step_end),rfl,rfl,hd,rfl,fn,hf,hr⟩
 | ret =>
   obtain ⟨hd,v,hr,hR⟩:=hq;obtain ⟨todo,hs⟩:=harr;exact ⟨.returned v,w',_,hR,hs,rfl,rfl,hd,rfl,fn,hf,hr⟩
 | panic chain =>
   obtain ⟨hd,hR⟩:=hq;obtain ⟨todo,hs⟩:=harr;exact ⟨.panicked chain,w',_,hR,hs,rfl,rfl,hd,fn,hf⟩
 | exit id=>exact hq.elim
 | goto l=>exact hq.elim
 | outgrown=>exact ⟨.outgrown,w',b,hq,harr.resolve_left (by simp [b]),rfl,trivial⟩
end
end
end Go.Proofs.YtcneeepdclgdcaaGreat
