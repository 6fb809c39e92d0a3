import Derived.Test.YtcneeepdclgdcaaGreatCO18
import Derived.Deep.DeepCutAuto
import Derived.Deep.CutBlock
import Derived.WalkSpells
set_option maxRecDepth 100000
set_option maxHeartbeats 4000000
namespace Go.Proofs.YtcneeepdclgdcaaGreat
set_option linter.unusedVariables false
set_option linter.unusedSimpArgs false
section
open Go.RowKit Go.Shelf
def za (l:List EvS):List Value:=l.flatMap fun e=>e.cells.toList
theorem qc5 (l:List EvS) (e:EvS):za (l++[e])=za l++e.cells.toList:=by simp [za]
def trG (tr:Value) (l:List EvS) (g:List Blk):Prop:=J5 73 10 tr l.length (za l) g
theorem trG.put {tr:Value} {l:List EvS} {e:EvS} {g:List Blk} (h:J5 73 10 tr (l.length+1) (za l++e.cells.toList) g):trG tr (l++[e]) g:=by
 unfold trG;rw [qc5,List.length_append];exact h
theorem qku:trG (.slice none 0 0) [] []:=qz _ _
end
end Go.Proofs.YtcneeepdclgdcaaGreat
