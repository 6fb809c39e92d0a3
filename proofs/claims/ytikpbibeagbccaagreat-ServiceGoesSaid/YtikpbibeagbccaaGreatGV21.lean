import Derived.Test.YtikpbibeagbccaaGreatGV19
import Derived.Deep.DeepCutAuto
import Derived.Deep.CutBlock
import Derived.WalkSpells
set_option maxRecDepth 100000
set_option maxHeartbeats 4000000
namespace Go.Proofs.YtikpbibeagbccaaGreat
set_option linter.unusedVariables false
set_option linter.unusedSimpArgs false
section
open Go.RowKit Go.Shelf
def qd6 (l:List EvS):List Value:=l.flatMap fun e=>e.cells.toList
theorem qin (l:List EvS) (e:EvS):qd6 (l++[e])=qd6 l++e.cells.toList:=by simp [qd6]
def trG (tr:Value) (l:List EvS) (g:List Blk):Prop:=Qu 123 10 tr l.length (qd6 l) g
theorem trG.put {tr:Value} {l:List EvS} {e:EvS} {g:List Blk} (h:Qu 123 10 tr (l.length+1) (qd6 l++e.cells.toList) g):trG tr (l++[e]) g:=by
 unfold trG;rw [qin,List.length_append];exact h
theorem qy7:trG (.slice none 0 0) [] []:=Zi _ _
end
end Go.Proofs.YtikpbibeagbccaaGreat
