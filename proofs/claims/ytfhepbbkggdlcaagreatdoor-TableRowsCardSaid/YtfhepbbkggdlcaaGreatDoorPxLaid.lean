/- A variable of the program that a row lists: its cells are what the evaluator takes them for. -/
import Derived.Test.YtfhepbbkggdlcaaGreatDoorPxData
import Derived.Lib.LaidTab
set_option linter.unusedVariables false
set_option linter.unusedSimpArgs false
namespace Go.Proofs.YtfhepbbkggdlcaaGreatDoor.Px
open Go
theorem D7 (k:IntKind):∀zs:List Int,au [] (zs.map fun z=>AV.int k z)=some (zs.map fun z=>Value.int k z)
 | []=>rfl
 |z::zs=>aq.2 ⟨_,_,rfl,D7 k zs,rfl⟩
theorem OG {k:IntKind} {zs:List Int} {g:Nat} {W:World} (h0:0<zs.length) (h:∀i,i<zs.length→W.cell? ⟨g,i,none⟩=some (.int k (zs.getD i 0))):ar [(g,zs.map fun z=>AV.int k z)] W:=by
 intro g' cs hl
 simp only[look]at hl
 cases hg:Nat.beq g g' with
 |false=>rw[hg]at hl;cases hl
 |true=>
  rw[hg]at hl
  simp only[XU,XQ]at hl
  obtain rfl:=XS hg
  subst hl
  refine⟨?_,_,D7 k zs,?_,fun j y hj=>?_⟩
  ·have:=h 0 h0
   cases hb:W.heap[g]? with
   |none=>simp[World.cell?,hb]at this
   |some o=>exact(Array.getElem?_eq_some_iff.1 hb).1
  ·rw[List.all_map]
   exact List.all_eq_true.2 fun z _=>rfl
  ·rw[List.getElem?_map,Option.map_eq_some_iff]at hj
   obtain⟨z,hz,rfl⟩:=hj
   obtain⟨hlt,hz'⟩:=List.getElem?_eq_some_iff.1 hz
   rw[h j hlt,List.getD,hz]
   rfl
end Go.Proofs.YtfhepbbkggdlcaaGreatDoor.Px
