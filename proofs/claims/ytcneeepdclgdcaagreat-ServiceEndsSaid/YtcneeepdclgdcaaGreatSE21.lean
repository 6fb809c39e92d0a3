import Derived.Test.YtcneeepdclgdcaaGreatSE19
import Derived.Deep.DeepCutAuto
import Derived.Deep.CutBlock
import Derived.WalkSpells
set_option maxRecDepth 100000
set_option maxHeartbeats 4000000
namespace Go.Proofs.YtcneeepdclgdcaaGreat
set_option linter.all false
section
open Go.RowKit Go.Shelf
def D6 (l:List EvS):List Value:=l.flatMap fun e=>e.cells.toList
theorem qlz (l:List EvS) (e:EvS):D6 (l++[e])=D6 l++e.cells.toList:=by simp [D6]
def Bq (tr:Value) (l:List EvS) (g:List ak):Prop:=Q3 73 10 tr l.length (D6 l) g
theorem Bq.put {tr:Value} {l:List EvS} {e:EvS} {g:List ak} (h:Q3 73 10 tr (l.length+1) (D6 l++e.cells.toList) g):Bq tr (l++[e]) g:=by
 unfold Bq;rw [qlz,List.length_append];exact h
theorem q5r:Bq (.slice none 0 0) [] []:=X7 _ _
end
end Go.Proofs.YtcneeepdclgdcaaGreat
