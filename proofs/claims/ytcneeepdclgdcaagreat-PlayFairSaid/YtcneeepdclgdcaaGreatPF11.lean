import Derived.Test.YtcneeepdclgdcaaGreatChecked
import Derived.Test.YtcneeepdclgdcaaGreatPF3
import Derived.WalkKit
import Derived.WalkSpells
import Derived.WalkLawsBesides
import Derived.Lib.Hide
import Derived.Deep.Light
import Derived.Deep.QuietTactic
import Derived.BigQuiet
import Derived.StillTailTactics
import Derived.LoopTactic
import Derived.Deep.LoopGhost
set_option maxRecDepth 100000
set_option maxHeartbeats 4000000
namespace Go.Proofs.YtcneeepdclgdcaaGreat
set_option linter.all false
open Go.Proofs.Tryz
section
open Go.RowKit
abbrev Ij (w w':World):Prop:=qj (fun _=>False) w w'
structure fG where
 k:Int
 n:Int
 c:Int
 i:Int
 d:Int
 p:Int
def fG.val (e:fG):Value:=.agg #[.int .i64 e.k,.int .i64 e.n,.int .i64 e.c,.int .u64 e.i,.int .u64 e.d,.int .u64 e.p]
def fG.ok (e:fG):Bool :=
 if e.k=0 then e.n == 0 && (e.c == 0 && (e.i == 0 && (e.d == 0 && e.p == 0)))
 else if e.k=1 then decide (0<=e.n) && decide (e.n<=8) && decide (1<=e.c) && decide (e.c<=7) && decide (e.i<=255) && decide (e.d<=255) && decide (e.p<=255)
 else decide (2<=e.k) && decide (e.k<=4) && decide (0<=e.n) && decide (e.n<=255) && (e.c == 0 && (e.i == 0 && (e.d == 0 && e.p == 0)))
theorem GZ {a b:Bool} (h:a=b):Ending.returned (.bool a)=.returned (.bool b):=by rw [h]
theorem EB {k:IntKind} {a b:Int} (h:a=b):Ending.returned (.int k a)=.returned (.int k b):=by rw [h]
theorem qp8 (k n c i d p:Int) (w:World) :
 Calls prog 124 #[.agg #[.int .i64 k,.int .i64 n,.int .i64 c,.int .u64 i,.int .u64 d,.int .u64 p]] w fun e w'=>e=.returned (.bool (fG.ok ⟨k,n,c,i,d,p⟩))/\Ij w w':=by
 go_enter func124,ntmps124
 go_wp2
 all_goals go_ret
 all_goals refine ⟨GZ ?_,by repeat (first | exact qj.refl _ _ | apply qj.alloc)⟩
 all_goals go_light
 all_goals simp_all [fG.ok]
 all_goals omega
def Bytes (w:World) (a:Option Addr) (xs:List Int):Prop :=
 (∀ x∈xs,0<=x/\x<=255)/\(xs=[]\/∃ b off,a=some ⟨b,off,none⟩/\b<w.heap.size/\∀ i,i<xs.length->w.cell? ⟨b,off+i,none⟩=some (.int .u8 (xs.getD i 0)))
theorem Bytes.cells' {w:World} {a:Option Addr} {xs:List Int} (h:Bytes w a xs) {i:Nat} (hi:i<xs.length):∃ b off,a=some ⟨b,off,none⟩/\b<w.heap.size/\∀ i,i<xs.length->w.cell? ⟨b,off+i,none⟩=some (.int .u8 (xs.getD i 0)):=by
 rcases h.2 with rfl | ⟨b,off,h1,h2,h3⟩
 ·simp at hi
 ·exact ⟨b,off,h1,h2,h3⟩
theorem Bytes.byte {w:World} {a:Option Addr} {xs:List Int} (h:Bytes w a xs) (i:Nat):0<=xs.getD i 0/\xs.getD i 0<=255:=by
 by_cases hi:i<xs.length
 ·rw [List.getD_eq_getElem?_getD,List.getElem?_eq_getElem hi];exact h.1 _ (List.getElem_mem hi)
 ·rw [List.getD_eq_getElem?_getD,List.getElem?_eq_none (by omega)];simp
def fG.zero:fG:=⟨0,0,0,0,0,0⟩
end
end Go.Proofs.YtcneeepdclgdcaaGreat
