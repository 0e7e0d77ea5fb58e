/-
  DERIVED. GIVEN WITH THE SEED: THE CARDS: each row of YtgfinnhojeghhaaGreatDoorRows.lean that lists a variable, with what it lists TIED to the program's text (the seventh form; the later family's looks); each row that meets fmt, with fmt's text TOLD by the authors' own Lean function (tested against real Go, not proved from fmt's source: count such statements apart). THE CARD IS WHAT COUNTS. Prove the row's statement (the work); the ties are given (YtgfinnhojeghhaaGreatDoorTie.lean); close each card by the builder's one call (the guide's Derived/Test/ToyasCard.lean, 'card_holds'). Laid BY PROGRAM, IN A SANDBOX (cutbox-door.mjs). By AI agents, Wed Nov 11 2026. No macro, syntax, notation, axiom, sorry.
-/
import Derived.Test.YtgfinnhojeghhaaGreatDoorRows
import GoSem.ClaimSeven
namespace Go.Proofs.YtgfinnhojeghhaaGreatDoor
namespace Rows

/-- THE TIED CARD OF 'newellaw14.WindowTells'. -/
def windowTellsCard : Claim7 := { stood := { row := windowTellsRow, standIns := [], harness := (true, "0b340880cafe85750f430bff420adde38f74bedaa551aa12d431b9ded5723f4d"), looks := false }, kinds := [], alts := [], laidByText := true, laidKinds := [.data], laidTests := true, laidLooks := .later }
def WindowTellsCardSaid : Prop := Claim7.holds Tryz.pinned (.plain (OpenSpec.ofChange windowTellsSpec)) windowTellsCard

/-- THE SECOND FORM's CARD OF 'newellaw14.WindowTells'. -/
def windowTellsUptoCard : Claim7 := { stood := { row := windowTellsUptoRow, standIns := [], harness := (true, "0b340880cafe85750f430bff420adde38f74bedaa551aa12d431b9ded5723f4d"), looks := false }, kinds := [], alts := [], laidByText := true, laidKinds := [.data], laidTests := true, laidLooks := .later }
def WindowTellsUptoCardSaid : Prop := Claim7.holds Tryz.pinned (.plain (OpenSpec.upto windowTellsSpec)) windowTellsUptoCard
end Rows
end Go.Proofs.YtgfinnhojeghhaaGreatDoor
