import Derived.Test.YtblhfbcodbjgcaaGreatSV4
import Derived.ProofKit
import Derived.OpenShut
namespace Go.Proofs.YtblhfbcodbjgcaaGreat
set_option linter.unusedVariables false
set_option linter.unusedSimpArgs false
section
open Go.RowKit Go.ChangeShapes
def ArgU8 (w:World) (a:Option Addr) (zs:List Int):Prop :=
 (∀ x∈zs,0≤x∧x≤255)∧(zs=[]∨∃ b off,a=some ⟨b,off,none⟩∧b<w.heap.size∧∀ (i:Nat) (x:Int),zs[i]?=some x→w.cell? ⟨b,off+i,none⟩=some (.int .u8 x))
theorem TG.old {H:GH} {w w':World} (T:TG [] w H w') {p:Addr} (hp:p.block<w.heap.size):w'.cell? p=w.cell? p :=
 (Turned.below T).cell hp
theorem TG.ofW {w:World}:TG [] w [] w:=TG.refl (HasG.nil w)
theorem TG.bel {H:GH} {w w':World} (T:TG [] w H w'):Below w.heap.size w w':=Turned.below T
theorem ArgU8.at {w:World} {a:Option Addr} {zs:List Int} (h:ArgU8 w a zs) {i:Nat} (hi:i<zs.length) :
 ∃ (b off:Nat) (x:Int),a=some ⟨b,off,none⟩∧zs[i]?=some x∧0≤x∧x≤255∧∀ {H:GH} {w':World},TG [] w H w'→w'.cell? ⟨b,off+i,none⟩=some (.int .u8 x):=by
 have hg:=List.getElem?_eq_getElem hi
 have hb:=h.1 _ (List.getElem_mem hi)
 rcases h.2 with h0 | ⟨b,off,ha,hlt,hc⟩
 ·subst h0;exact absurd hi (Nat.not_lt_zero _)
 ·exact ⟨b,off,zs[i],ha,hg,hb.1,hb.2,fun T=>(T.old hlt).trans (hc i _ hg)⟩
end
end Go.Proofs.YtblhfbcodbjgcaaGreat
