/-
  DERIVED. GIVEN WITH THE SEED: THE CARDS: each row of YtgfinnhojeghhaaDoorRows.lean that lists a variable, with what it lists TIED to the program's text (the seventh form; the later family's looks); each row that meets fmt, with fmt's text TOLD by the authors' own Lean function (tested against real Go, not proved from fmt's source: count such statements apart). THE CARD IS WHAT COUNTS. Prove the row's statement (the work); the ties are given (YtgfinnhojeghhaaDoorTie.lean); close each card by the builder's one call (the guide's Derived/Test/ToyasCard.lean, 'card_holds'). Laid BY PROGRAM, IN A SANDBOX (cutbox-door.mjs). By AI agents, Wed Nov 11 2026. No macro, syntax, notation, axiom, sorry.
-/
import Derived.Test.YtgfinnhojeghhaaDoorRows
import GoSem.ClaimSeven
namespace Go.Proofs.YtgfinnhojeghhaaDoor
namespace Rows

/-- THE TIED CARD OF 'newellaw14.WindowMoments'. -/
def windowMomentsCard : Claim7 := { stood := { row := windowMomentsRow, standIns := [], harness := (true, "fd7d9890c7b53d0ae86e0e19b7f2dac3bfcce73a40e3445804b3ff7f6fbb53a7"), looks := false }, kinds := [], alts := [], laidByText := true, laidKinds := [.data], laidTests := true, laidLooks := .later }
def WindowMomentsCardSaid : Prop := Claim7.holds Tryd.pinned (.plain (OpenSpec.ofChange windowMomentsSpec)) windowMomentsCard

/-- THE TIED CARD OF 'newellaw14.WindowLong'. -/
def windowLongCard : Claim7 := { stood := { row := windowLongRow, standIns := [], harness := (true, "fd7d9890c7b53d0ae86e0e19b7f2dac3bfcce73a40e3445804b3ff7f6fbb53a7"), looks := false }, kinds := [], alts := [], laidByText := true, laidKinds := [.data], laidTests := true, laidLooks := .later }
def WindowLongCardSaid : Prop := Claim7.holds Tryd.pinned (.plain (OpenSpec.ofChange windowLongSpec)) windowLongCard

/-- THE TIED CARD OF 'newellaw14.WindowRests'. -/
def windowRestsCard : Claim7 := { stood := { row := windowRestsRow, standIns := [], harness := (true, "fd7d9890c7b53d0ae86e0e19b7f2dac3bfcce73a40e3445804b3ff7f6fbb53a7"), looks := false }, kinds := [], alts := [], laidByText := true, laidKinds := [.data], laidTests := true, laidLooks := .later }
def WindowRestsCardSaid : Prop := Claim7.holds Tryd.pinned (.plain (OpenSpec.ofChange windowRestsSpec)) windowRestsCard

/-- THE TIED CARD OF 'newellaw14.WindowApart'. -/
def windowApartCard : Claim7 := { stood := { row := windowApartRow, standIns := [], harness := (true, "fd7d9890c7b53d0ae86e0e19b7f2dac3bfcce73a40e3445804b3ff7f6fbb53a7"), looks := false }, kinds := [], alts := [], laidByText := true, laidKinds := [.data], laidTests := true, laidLooks := .later }
def WindowApartCardSaid : Prop := Claim7.holds Tryd.pinned (.plain (OpenSpec.ofChange windowApartSpec)) windowApartCard

/-- THE TIED CARD OF 'newellaw14.WindowFirst'. -/
def windowFirstCard : Claim7 := { stood := { row := windowFirstRow, standIns := [], harness := (true, "fd7d9890c7b53d0ae86e0e19b7f2dac3bfcce73a40e3445804b3ff7f6fbb53a7"), looks := false }, kinds := [], alts := [], laidByText := true, laidKinds := [.data], laidTests := true, laidLooks := .later }
def WindowFirstCardSaid : Prop := Claim7.holds Tryd.pinned (.plain (OpenSpec.ofChange windowFirstSpec)) windowFirstCard

/-- THE SECOND FORM's CARD OF 'newellaw14.WindowMoments'. -/
def windowMomentsUptoCard : Claim7 := { stood := { row := windowMomentsUptoRow, standIns := [], harness := (true, "fd7d9890c7b53d0ae86e0e19b7f2dac3bfcce73a40e3445804b3ff7f6fbb53a7"), looks := false }, kinds := [], alts := [], laidByText := true, laidKinds := [.data], laidTests := true, laidLooks := .later }
def WindowMomentsUptoCardSaid : Prop := Claim7.holds Tryd.pinned (.plain (OpenSpec.upto windowMomentsSpec)) windowMomentsUptoCard

/-- THE SECOND FORM's CARD OF 'newellaw14.WindowLong'. -/
def windowLongUptoCard : Claim7 := { stood := { row := windowLongUptoRow, standIns := [], harness := (true, "fd7d9890c7b53d0ae86e0e19b7f2dac3bfcce73a40e3445804b3ff7f6fbb53a7"), looks := false }, kinds := [], alts := [], laidByText := true, laidKinds := [.data], laidTests := true, laidLooks := .later }
def WindowLongUptoCardSaid : Prop := Claim7.holds Tryd.pinned (.plain (OpenSpec.upto windowLongSpec)) windowLongUptoCard

/-- THE SECOND FORM's CARD OF 'newellaw14.WindowRests'. -/
def windowRestsUptoCard : Claim7 := { stood := { row := windowRestsUptoRow, standIns := [], harness := (true, "fd7d9890c7b53d0ae86e0e19b7f2dac3bfcce73a40e3445804b3ff7f6fbb53a7"), looks := false }, kinds := [], alts := [], laidByText := true, laidKinds := [.data], laidTests := true, laidLooks := .later }
def WindowRestsUptoCardSaid : Prop := Claim7.holds Tryd.pinned (.plain (OpenSpec.upto windowRestsSpec)) windowRestsUptoCard

/-- THE SECOND FORM's CARD OF 'newellaw14.WindowApart'. -/
def windowApartUptoCard : Claim7 := { stood := { row := windowApartUptoRow, standIns := [], harness := (true, "fd7d9890c7b53d0ae86e0e19b7f2dac3bfcce73a40e3445804b3ff7f6fbb53a7"), looks := false }, kinds := [], alts := [], laidByText := true, laidKinds := [.data], laidTests := true, laidLooks := .later }
def WindowApartUptoCardSaid : Prop := Claim7.holds Tryd.pinned (.plain (OpenSpec.upto windowApartSpec)) windowApartUptoCard

/-- THE SECOND FORM's CARD OF 'newellaw14.WindowFirst'. -/
def windowFirstUptoCard : Claim7 := { stood := { row := windowFirstUptoRow, standIns := [], harness := (true, "fd7d9890c7b53d0ae86e0e19b7f2dac3bfcce73a40e3445804b3ff7f6fbb53a7"), looks := false }, kinds := [], alts := [], laidByText := true, laidKinds := [.data], laidTests := true, laidLooks := .later }
def WindowFirstUptoCardSaid : Prop := Claim7.holds Tryd.pinned (.plain (OpenSpec.upto windowFirstSpec)) windowFirstUptoCard
end Rows
end Go.Proofs.YtgfinnhojeghhaaDoor
