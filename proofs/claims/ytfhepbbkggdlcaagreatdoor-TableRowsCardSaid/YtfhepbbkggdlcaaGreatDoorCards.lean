/-
  DERIVED. GIVEN WITH THE SEED: THE CARDS: each row of YtfhepbbkggdlcaaGreatDoorRows.lean that lists a variable, with what it lists TIED to the program's text (the seventh form; the later family's looks); each row that meets fmt, with fmt's text TOLD by the authors' own Lean function (tested against real Go, not proved from fmt's source: count such statements apart). THE CARD IS WHAT COUNTS. Prove the row's statement (the work); the ties are given (YtfhepbbkggdlcaaGreatDoorTie.lean); close each card by the builder's one call (the guide's Derived/Test/ToyasCard.lean, 'card_holds'). Laid BY PROGRAM, IN A SANDBOX (cutbox-door.mjs). By AI agents, Wed Nov 11 2026. No macro, syntax, notation, axiom, sorry.
-/
import Derived.Test.YtfhepbbkggdlcaaGreatDoorRows
import GoSem.ClaimSeven
namespace Go.Proofs.YtfhepbbkggdlcaaGreatDoor
namespace Rows

/-- THE TIED CARD OF 'newellaw15.TableRows'. -/
def tableRowsCard : Claim7 := { stood := { row := tableRowsRow, standIns := [], harness := (true, "a8d8a2c4ed9f55539b8332abda2edb4bed9698e281aa07c05646f001623b64f4"), looks := false }, kinds := [], alts := [], laidByText := true, laidKinds := [.data], laidTests := true, laidLooks := .later }
def TableRowsCardSaid : Prop := Claim7.holds Tryz.pinned (.plain (OpenSpec.ofChange tableRowsSpec)) tableRowsCard

/-- THE TIED CARD OF 'newellaw15.TableModes'. -/
def tableModesCard : Claim7 := { stood := { row := tableModesRow, standIns := [], harness := (true, "a8d8a2c4ed9f55539b8332abda2edb4bed9698e281aa07c05646f001623b64f4"), looks := false }, kinds := [], alts := [], laidByText := true, laidKinds := [.data], laidTests := true, laidLooks := .later }
def TableModesCardSaid : Prop := Claim7.holds Tryz.pinned (.plain (OpenSpec.ofChange tableModesSpec)) tableModesCard

/-- THE TIED CARD OF 'newellaw15.TableDay'. -/
def tableDayCard : Claim7 := { stood := { row := tableDayRow, standIns := [], harness := (true, "a8d8a2c4ed9f55539b8332abda2edb4bed9698e281aa07c05646f001623b64f4"), looks := false }, kinds := [], alts := [], laidByText := true, laidKinds := [.data], laidTests := true, laidLooks := .later }
def TableDayCardSaid : Prop := Claim7.holds Tryz.pinned (.plain (OpenSpec.ofChange tableDaySpec)) tableDayCard

/-- THE TIED CARD OF 'newellaw15.TableWide'. -/
def tableWideCard : Claim7 := { stood := { row := tableWideRow, standIns := [], harness := (true, "a8d8a2c4ed9f55539b8332abda2edb4bed9698e281aa07c05646f001623b64f4"), looks := false }, kinds := [], alts := [], laidByText := true, laidKinds := [.data], laidTests := true, laidLooks := .later }
def TableWideCardSaid : Prop := Claim7.holds Tryz.pinned (.plain (OpenSpec.ofChange tableWideSpec)) tableWideCard

/-- THE TIED CARD OF 'newellaw15.TableFar'. -/
def tableFarCard : Claim7 := { stood := { row := tableFarRow, standIns := [], harness := (true, "a8d8a2c4ed9f55539b8332abda2edb4bed9698e281aa07c05646f001623b64f4"), looks := false }, kinds := [], alts := [], laidByText := true, laidKinds := [.data], laidTests := true, laidLooks := .later }
def TableFarCardSaid : Prop := Claim7.holds Tryz.pinned (.plain (OpenSpec.ofChange tableFarSpec)) tableFarCard

/-- THE TIED CARD OF 'newellaw15.TableOver'. -/
def tableOverCard : Claim7 := { stood := { row := tableOverRow, standIns := [], harness := (true, "a8d8a2c4ed9f55539b8332abda2edb4bed9698e281aa07c05646f001623b64f4"), looks := false }, kinds := [], alts := [], laidByText := true, laidKinds := [.data], laidTests := true, laidLooks := .later }
def TableOverCardSaid : Prop := Claim7.holds Tryz.pinned (.plain (OpenSpec.ofChange tableOverSpec)) tableOverCard

/-- THE SECOND FORM's CARD OF 'newellaw15.TableRows'. -/
def tableRowsUptoCard : Claim7 := { stood := { row := tableRowsUptoRow, standIns := [], harness := (true, "a8d8a2c4ed9f55539b8332abda2edb4bed9698e281aa07c05646f001623b64f4"), looks := false }, kinds := [], alts := [], laidByText := true, laidKinds := [.data], laidTests := true, laidLooks := .later }
def TableRowsUptoCardSaid : Prop := Claim7.holds Tryz.pinned (.plain (OpenSpec.upto tableRowsSpec)) tableRowsUptoCard

/-- THE SECOND FORM's CARD OF 'newellaw15.TableModes'. -/
def tableModesUptoCard : Claim7 := { stood := { row := tableModesUptoRow, standIns := [], harness := (true, "a8d8a2c4ed9f55539b8332abda2edb4bed9698e281aa07c05646f001623b64f4"), looks := false }, kinds := [], alts := [], laidByText := true, laidKinds := [.data], laidTests := true, laidLooks := .later }
def TableModesUptoCardSaid : Prop := Claim7.holds Tryz.pinned (.plain (OpenSpec.upto tableModesSpec)) tableModesUptoCard

/-- THE SECOND FORM's CARD OF 'newellaw15.TableDay'. -/
def tableDayUptoCard : Claim7 := { stood := { row := tableDayUptoRow, standIns := [], harness := (true, "a8d8a2c4ed9f55539b8332abda2edb4bed9698e281aa07c05646f001623b64f4"), looks := false }, kinds := [], alts := [], laidByText := true, laidKinds := [.data], laidTests := true, laidLooks := .later }
def TableDayUptoCardSaid : Prop := Claim7.holds Tryz.pinned (.plain (OpenSpec.upto tableDaySpec)) tableDayUptoCard

/-- THE SECOND FORM's CARD OF 'newellaw15.TableWide'. -/
def tableWideUptoCard : Claim7 := { stood := { row := tableWideUptoRow, standIns := [], harness := (true, "a8d8a2c4ed9f55539b8332abda2edb4bed9698e281aa07c05646f001623b64f4"), looks := false }, kinds := [], alts := [], laidByText := true, laidKinds := [.data], laidTests := true, laidLooks := .later }
def TableWideUptoCardSaid : Prop := Claim7.holds Tryz.pinned (.plain (OpenSpec.upto tableWideSpec)) tableWideUptoCard

/-- THE SECOND FORM's CARD OF 'newellaw15.TableFar'. -/
def tableFarUptoCard : Claim7 := { stood := { row := tableFarUptoRow, standIns := [], harness := (true, "a8d8a2c4ed9f55539b8332abda2edb4bed9698e281aa07c05646f001623b64f4"), looks := false }, kinds := [], alts := [], laidByText := true, laidKinds := [.data], laidTests := true, laidLooks := .later }
def TableFarUptoCardSaid : Prop := Claim7.holds Tryz.pinned (.plain (OpenSpec.upto tableFarSpec)) tableFarUptoCard

/-- THE SECOND FORM's CARD OF 'newellaw15.TableOver'. -/
def tableOverUptoCard : Claim7 := { stood := { row := tableOverUptoRow, standIns := [], harness := (true, "a8d8a2c4ed9f55539b8332abda2edb4bed9698e281aa07c05646f001623b64f4"), looks := false }, kinds := [], alts := [], laidByText := true, laidKinds := [.data], laidTests := true, laidLooks := .later }
def TableOverUptoCardSaid : Prop := Claim7.holds Tryz.pinned (.plain (OpenSpec.upto tableOverSpec)) tableOverUptoCard
end Rows
end Go.Proofs.YtfhepbbkggdlcaaGreatDoor
