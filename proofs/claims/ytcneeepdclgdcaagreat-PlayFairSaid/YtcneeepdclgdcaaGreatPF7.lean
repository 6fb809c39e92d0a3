import Derived.Test.YtcneeepdclgdcaaGreatPF4
import Derived.ProofKit
import Derived.OpenShut
set_option maxRecDepth 100000
set_option maxHeartbeats 4000000
namespace Go.Proofs.YtcneeepdclgdcaaGreat
set_option linter.all false
section
open Go.RowKit Go.ChangeShapes
def Gd (w:World) (a:Option Addr) (zs:List Int):Prop :=
 (∀ x∈zs,0<=x/\x<=255)/\(zs=[]\/∃ b off,a=some ⟨b,off,none⟩/\b<w.heap.size/\∀ (i:Nat) (x:Int),zs[i]?=some x->w.cell? ⟨b,off+i,none⟩=some (.int .u8 x))
theorem TG.old {H:GH} {w w':World} (T:TG [] w H w') {p:Addr} (hp:p.block<w.heap.size):w'.cell? p=w.cell? p :=
 (Qh.below T).cell hp
theorem TG.DX {w:World}:TG [] w [] w:=TG.refl (Yc.nil w)
theorem TG.bel {H:GH} {w w':World} (T:TG [] w H w'):Below w.heap.size w w':=Qh.below T
theorem q0t {w:World} {a:Option Addr} {len cap:Nat} {z:List Int} (h:(a=none/\len=0/\cap=0/\z=[])\/∃ x,a=some x/\len<=cap/\cap<=maxLen/\z.length=cap/\(∀ i,i<z.length->w.cell? (x.add i)=some (.int .u8 (z.getD i 0)))/\∀ n∈z,(Lit.int .u8 n).wf=true):∃ zs,zs.length=len/\Gd w a zs/\len<=maxLen:=by
 rcases h with ⟨rfl,rfl,rfl,rfl⟩ | ⟨x,rfl,hl,hm,hz,hc,hwf⟩
 ·exact ⟨[],rfl,⟨fun x hx=>(by cases hx),.inl rfl⟩,Nat.zero_le _⟩
 ·refine ⟨z.take len,by rw [List.length_take];omega,⟨fun x hx=>bounds_u8 (hwf x (List.mem_of_mem_take hx)),?_⟩,by omega⟩
  by_cases h0:len=0
  ·exact .inl (by subst h0;rfl)
  ·obtain ⟨b,off,rfl,hc'⟩:=ints_at hc (by omega)
   refine .inr ⟨b,off,rfl,?_,fun i x hi=>?_⟩
   ·obtain ⟨o,ho,_⟩:=cells_of_cell (hc' 0 (by omega))
    exact (Array.getElem?_eq_some_iff.1 ho).1
   ·have hil:i<len:=by have:=(List.getElem?_eq_some_iff.1 hi).1;rw [List.length_take] at this;omega
    rw [List.getElem?_take,if_pos hil] at hi;rw [hc' i (by omega),List.getD_eq_getElem?_getD,hi];rfl
end
end Go.Proofs.YtcneeepdclgdcaaGreat
