import Derived.Test.YtcneeepdclgdcaaGreatPF20
import Derived.Deep.DeepCutAuto
import Derived.Deep.CutBlock
import Derived.WalkSpells
set_option maxRecDepth 100000
set_option maxHeartbeats 4000000
namespace Go.Proofs.YtcneeepdclgdcaaGreat
set_option linter.all false
section
open Go.RowKit Go.Shelf
def EC (l:List EvS):List Value:=l.flatMap fun e=>e.cells.toList
theorem qmt (l:List EvS) (e:EvS):EC (l++[e])=EC l++e.cells.toList:=by simp [EC]
def Cg (tr:Value) (l:List EvS) (g:List ak):Prop:=Q1 73 10 tr l.length (EC l) g
theorem Cg.put {tr:Value} {l:List EvS} {e:EvS} {g:List ak} (h:Q1 73 10 tr (l.length+1) (EC l++e.cells.toList) g):Cg tr (l++[e]) g:=by
 unfold Cg;rw [qmt,List.length_append];exact h
theorem q7n:Cg (.slice none 0 0) [] []:=X5 _ _
end
end Go.Proofs.YtcneeepdclgdcaaGreat
