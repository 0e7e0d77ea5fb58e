/-
  NARROWER THAN 'FOR EVERY INPUT', by the rows' own cells (each row's printed sentence says how): TableRows: laid · TableModes: laid · TableDay: laid · TableWide: laid · TableFar: laid · TableOver: laid.
  DERIVED. THE GIVEN ROWS OF THIS SEAT. 6 by the template 'for every input the law returns true; each argument reads behind the call as it read before'; 0 by the template 'total and deterministic' (their statements: YtfhepbbkggdlcaaGreatDoorTotals.lean).
  GIVEN WITH THE SEED: the statements are not yours to turn. If you find one false, say at which input.
  Laid BY PROGRAM, IN A SANDBOX (cutbox-rows.mjs): the forced cells as the released guide's own fill.sh prints them over the translation e030ac0c8237f2a8… (all of the seat's roots in one cut). By AI agents, Wed Nov 11 2026. No macro, syntax, notation, axiom, sorry.
-/
import Derived.Test.YtfhepbbkggdlcaaGreatDoorChecked
import GoSem.Claim
import GoSem.ClaimJoined
import GoSem.ClaimMapViews
import Derived.JoinedTies
import Derived.KernelRfl
namespace Go.Proofs.YtfhepbbkggdlcaaGreatDoor
/- THE CELL 'sum', in the pinned program and in every row, IS THE sha256 OF THE DUMP (.gsa) THAT YtfhepbbkggdlcaaGreatDoorProg.lean LOADS. Nothing in Lean hashes anything: it is a label: what it is worth is what the hold of that sum in a sandbox is worth. -/
noncomputable def Tryz.pinned : Pinned := { name := "ytfhepbbkggdlcaagreatdoor", sum := "e030ac0c8237f2a8c9c327118e2311f3f0ffe2739841a413e0d19319057737d8", checked := Tryz.checked }
namespace Rows
def none {H : Type} : Left H := { results := [], args := [] }

/- WHAT THE LISTED PACKAGE-LEVEL VARIABLES READ AS WHEN THE CALL BEGINS. Each datum BY PROGRAM (the guide's laid-datum.mjs) off the statement by which the dump's own 'gosem.cut.vars' lays the variable. In a bare row this is a premise. The card (YtfhepbbkggdlcaaGreatDoorCards.lean) ties it to the program's text. -/
def laid_newel_greg_lengths {H : Type} : DataW H := .agg [.lit (.int .i64 31), .lit (.int .i64 28), .lit (.int .i64 31), .lit (.int .i64 30), .lit (.int .i64 31), .lit (.int .i64 30), .lit (.int .i64 31), .lit (.int .i64 31), .lit (.int .i64 30), .lit (.int .i64 31), .lit (.int .i64 30), .lit (.int .i64 31)]

/-- 'newellaw15.TableRows': WHATEVER THE INPUT: true; the input reads as it did. -/
def tableRowsSpec : ChangeSpec := { name := "tableRows", fn := fun _ => fun
  | [d1, d2, d3] => { results := [.lit (.bool true)], args := [d1, d2, d3] }
  | _ => none }
def tableRowsRow : OpenClaim := { program := "ytfhepbbkggdlcaagreatdoor", sum := "e030ac0c8237f2a8c9c327118e2311f3f0ffe2739841a413e0d19319057737d8", func := "newel/newellaw15.TableRows", spec := "tableRows", unfollowed := true, recurses := true, named := ["newel/greg.lengths"], plainKeys := false, apart := false, laid := [("newel/greg.lengths", laid_newel_greg_lengths)] }
def TableRowsSaid : Prop := tableRowsRow.holds Tryz.pinned (OpenSpec.ofChange tableRowsSpec)

/-- ITS FALSE NEIGHBOUR: 'it returns false'. Refute it at one input. -/
def tableRowsWrong : ChangeSpec := { name := "tableRows", fn := fun _ => fun
  | [d1, d2, d3] => { results := [.lit (.bool false)], args := [d1, d2, d3] }
  | _ => none }
def TableRowsWrongFalsely : Prop := tableRowsRow.holds Tryz.pinned (OpenSpec.ofChange tableRowsWrong)

/-- 'newellaw15.TableModes': WHATEVER THE INPUT: true; the input reads as it did. -/
def tableModesSpec : ChangeSpec := { name := "tableModes", fn := fun _ => fun
  | [d1, d2] => { results := [.lit (.bool true)], args := [d1, d2] }
  | _ => none }
def tableModesRow : OpenClaim := { program := "ytfhepbbkggdlcaagreatdoor", sum := "e030ac0c8237f2a8c9c327118e2311f3f0ffe2739841a413e0d19319057737d8", func := "newel/newellaw15.TableModes", spec := "tableModes", unfollowed := true, recurses := true, named := ["newel/greg.lengths"], plainKeys := false, apart := false, laid := [("newel/greg.lengths", laid_newel_greg_lengths)] }
def TableModesSaid : Prop := tableModesRow.holds Tryz.pinned (OpenSpec.ofChange tableModesSpec)

/-- ITS FALSE NEIGHBOUR: 'it returns false'. Refute it at one input. -/
def tableModesWrong : ChangeSpec := { name := "tableModes", fn := fun _ => fun
  | [d1, d2] => { results := [.lit (.bool false)], args := [d1, d2] }
  | _ => none }
def TableModesWrongFalsely : Prop := tableModesRow.holds Tryz.pinned (OpenSpec.ofChange tableModesWrong)

/-- 'newellaw15.TableDay': WHATEVER THE INPUT: true; the input reads as it did. -/
def tableDaySpec : ChangeSpec := { name := "tableDay", fn := fun _ => fun
  | [d1, d2] => { results := [.lit (.bool true)], args := [d1, d2] }
  | _ => none }
def tableDayRow : OpenClaim := { program := "ytfhepbbkggdlcaagreatdoor", sum := "e030ac0c8237f2a8c9c327118e2311f3f0ffe2739841a413e0d19319057737d8", func := "newel/newellaw15.TableDay", spec := "tableDay", unfollowed := true, recurses := true, named := ["newel/greg.lengths"], plainKeys := false, apart := false, laid := [("newel/greg.lengths", laid_newel_greg_lengths)] }
def TableDaySaid : Prop := tableDayRow.holds Tryz.pinned (OpenSpec.ofChange tableDaySpec)

/-- ITS FALSE NEIGHBOUR: 'it returns false'. Refute it at one input. -/
def tableDayWrong : ChangeSpec := { name := "tableDay", fn := fun _ => fun
  | [d1, d2] => { results := [.lit (.bool false)], args := [d1, d2] }
  | _ => none }
def TableDayWrongFalsely : Prop := tableDayRow.holds Tryz.pinned (OpenSpec.ofChange tableDayWrong)

/-- 'newellaw15.TableWide': WHATEVER THE INPUT: true; the input reads as it did. -/
def tableWideSpec : ChangeSpec := { name := "tableWide", fn := fun _ => fun
  | [d1, d2] => { results := [.lit (.bool true)], args := [d1, d2] }
  | _ => none }
def tableWideRow : OpenClaim := { program := "ytfhepbbkggdlcaagreatdoor", sum := "e030ac0c8237f2a8c9c327118e2311f3f0ffe2739841a413e0d19319057737d8", func := "newel/newellaw15.TableWide", spec := "tableWide", unfollowed := true, recurses := true, named := ["newel/greg.lengths"], plainKeys := false, apart := false, laid := [("newel/greg.lengths", laid_newel_greg_lengths)] }
def TableWideSaid : Prop := tableWideRow.holds Tryz.pinned (OpenSpec.ofChange tableWideSpec)

/-- ITS FALSE NEIGHBOUR: 'it returns false'. Refute it at one input. -/
def tableWideWrong : ChangeSpec := { name := "tableWide", fn := fun _ => fun
  | [d1, d2] => { results := [.lit (.bool false)], args := [d1, d2] }
  | _ => none }
def TableWideWrongFalsely : Prop := tableWideRow.holds Tryz.pinned (OpenSpec.ofChange tableWideWrong)

/-- 'newellaw15.TableFar': WHATEVER THE INPUT: true; the input reads as it did. -/
def tableFarSpec : ChangeSpec := { name := "tableFar", fn := fun _ => fun
  | [d1, d2] => { results := [.lit (.bool true)], args := [d1, d2] }
  | _ => none }
def tableFarRow : OpenClaim := { program := "ytfhepbbkggdlcaagreatdoor", sum := "e030ac0c8237f2a8c9c327118e2311f3f0ffe2739841a413e0d19319057737d8", func := "newel/newellaw15.TableFar", spec := "tableFar", unfollowed := true, recurses := true, named := ["newel/greg.lengths"], plainKeys := false, apart := false, laid := [("newel/greg.lengths", laid_newel_greg_lengths)] }
def TableFarSaid : Prop := tableFarRow.holds Tryz.pinned (OpenSpec.ofChange tableFarSpec)

/-- ITS FALSE NEIGHBOUR: 'it returns false'. Refute it at one input. -/
def tableFarWrong : ChangeSpec := { name := "tableFar", fn := fun _ => fun
  | [d1, d2] => { results := [.lit (.bool false)], args := [d1, d2] }
  | _ => none }
def TableFarWrongFalsely : Prop := tableFarRow.holds Tryz.pinned (OpenSpec.ofChange tableFarWrong)

/-- 'newellaw15.TableOver': WHATEVER THE INPUT: true; the input reads as it did. -/
def tableOverSpec : ChangeSpec := { name := "tableOver", fn := fun _ => fun
  | [d1, d2, d3] => { results := [.lit (.bool true)], args := [d1, d2, d3] }
  | _ => none }
def tableOverRow : OpenClaim := { program := "ytfhepbbkggdlcaagreatdoor", sum := "e030ac0c8237f2a8c9c327118e2311f3f0ffe2739841a413e0d19319057737d8", func := "newel/newellaw15.TableOver", spec := "tableOver", unfollowed := true, recurses := true, named := ["newel/greg.lengths"], plainKeys := false, apart := false, laid := [("newel/greg.lengths", laid_newel_greg_lengths)] }
def TableOverSaid : Prop := tableOverRow.holds Tryz.pinned (OpenSpec.ofChange tableOverSpec)

/-- ITS FALSE NEIGHBOUR: 'it returns false'. Refute it at one input. -/
def tableOverWrong : ChangeSpec := { name := "tableOver", fn := fun _ => fun
  | [d1, d2, d3] => { results := [.lit (.bool false)], args := [d1, d2, d3] }
  | _ => none }
def TableOverWrongFalsely : Prop := tableOverRow.holds Tryz.pinned (OpenSpec.ofChange tableOverWrong)

/- THE SECOND FORM. 'bulk': how many values and letters a reading holds, each counted each time it is reached (what is shared counts as often as it is met; a slice's spare places count too). A statement '..UptoSaid' is the law's where the arguments, and the package variables that the reading takes, are together of bulk at most 1048576: NARROWER than '..Said'. Prove '..Said' where nothing that the law and all that it calls make is longer than what came in: it says more and counts as full. Else prove '..UptoSaid'. A law counts once. -/
mutual
def uptoBulk {H : Type} : DataW H → Nat
  | .lit (.string bytes) => bytes.length + 1
  | .lit _ => 1
  | .nil => 1
  | .ptr d => uptoBulk d + 1
  | .slice elems spare => uptoBulkAll elems + uptoBulkAll spare + 1
  | .agg parts => uptoBulkAll parts + 1
  | .iface _ d => uptoBulk d + 1
  | .map entries => uptoBulkEntries entries + 1
  | .held _ => 1
def uptoBulkAll {H : Type} : List (DataW H) → Nat
  | [] => 0
  | d :: r => uptoBulk d + uptoBulkAll r
def uptoBulkEntries {H : Type} : List (Lit × DataW H) → Nat
  | [] => 0
  | x :: r => uptoBulkEntry x + uptoBulkEntries r
def uptoBulkEntry {H : Type} : Lit × DataW H → Nat
  | (.string bytes, d) => bytes.length + uptoBulk d + 1
  | (_, d) => uptoBulk d + 1
 end
def uptoSmall : (H : Type) → List (DataW H) → Bool := fun _ ds => decide (uptoBulkAll ds ≤ 1048576)
def OpenSpec.upto (s : _root_.Go.ChangeSpec) : _root_.Go.OpenSpec := { _root_.Go.OpenSpec.ofChange s with cond := some uptoSmall }

/-- 'newellaw15.TableRows', WHERE WHAT IT READS IS OF BULK AT MOST 1048576: true; the input reads as it did. -/
def tableRowsUptoRow : OpenClaim := { program := "ytfhepbbkggdlcaagreatdoor", sum := "e030ac0c8237f2a8c9c327118e2311f3f0ffe2739841a413e0d19319057737d8", func := "newel/newellaw15.TableRows", spec := "tableRows", unfollowed := true, recurses := true, named := ["newel/greg.lengths"], plainKeys := false, apart := false, laid := [("newel/greg.lengths", laid_newel_greg_lengths)], narrowed := true }
def TableRowsUptoSaid : Prop := tableRowsUptoRow.holds Tryz.pinned (OpenSpec.upto tableRowsSpec)

/-- 'newellaw15.TableModes', WHERE WHAT IT READS IS OF BULK AT MOST 1048576: true; the input reads as it did. -/
def tableModesUptoRow : OpenClaim := { program := "ytfhepbbkggdlcaagreatdoor", sum := "e030ac0c8237f2a8c9c327118e2311f3f0ffe2739841a413e0d19319057737d8", func := "newel/newellaw15.TableModes", spec := "tableModes", unfollowed := true, recurses := true, named := ["newel/greg.lengths"], plainKeys := false, apart := false, laid := [("newel/greg.lengths", laid_newel_greg_lengths)], narrowed := true }
def TableModesUptoSaid : Prop := tableModesUptoRow.holds Tryz.pinned (OpenSpec.upto tableModesSpec)

/-- 'newellaw15.TableDay', WHERE WHAT IT READS IS OF BULK AT MOST 1048576: true; the input reads as it did. -/
def tableDayUptoRow : OpenClaim := { program := "ytfhepbbkggdlcaagreatdoor", sum := "e030ac0c8237f2a8c9c327118e2311f3f0ffe2739841a413e0d19319057737d8", func := "newel/newellaw15.TableDay", spec := "tableDay", unfollowed := true, recurses := true, named := ["newel/greg.lengths"], plainKeys := false, apart := false, laid := [("newel/greg.lengths", laid_newel_greg_lengths)], narrowed := true }
def TableDayUptoSaid : Prop := tableDayUptoRow.holds Tryz.pinned (OpenSpec.upto tableDaySpec)

/-- 'newellaw15.TableWide', WHERE WHAT IT READS IS OF BULK AT MOST 1048576: true; the input reads as it did. -/
def tableWideUptoRow : OpenClaim := { program := "ytfhepbbkggdlcaagreatdoor", sum := "e030ac0c8237f2a8c9c327118e2311f3f0ffe2739841a413e0d19319057737d8", func := "newel/newellaw15.TableWide", spec := "tableWide", unfollowed := true, recurses := true, named := ["newel/greg.lengths"], plainKeys := false, apart := false, laid := [("newel/greg.lengths", laid_newel_greg_lengths)], narrowed := true }
def TableWideUptoSaid : Prop := tableWideUptoRow.holds Tryz.pinned (OpenSpec.upto tableWideSpec)

/-- 'newellaw15.TableFar', WHERE WHAT IT READS IS OF BULK AT MOST 1048576: true; the input reads as it did. -/
def tableFarUptoRow : OpenClaim := { program := "ytfhepbbkggdlcaagreatdoor", sum := "e030ac0c8237f2a8c9c327118e2311f3f0ffe2739841a413e0d19319057737d8", func := "newel/newellaw15.TableFar", spec := "tableFar", unfollowed := true, recurses := true, named := ["newel/greg.lengths"], plainKeys := false, apart := false, laid := [("newel/greg.lengths", laid_newel_greg_lengths)], narrowed := true }
def TableFarUptoSaid : Prop := tableFarUptoRow.holds Tryz.pinned (OpenSpec.upto tableFarSpec)

/-- 'newellaw15.TableOver', WHERE WHAT IT READS IS OF BULK AT MOST 1048576: true; the input reads as it did. -/
def tableOverUptoRow : OpenClaim := { program := "ytfhepbbkggdlcaagreatdoor", sum := "e030ac0c8237f2a8c9c327118e2311f3f0ffe2739841a413e0d19319057737d8", func := "newel/newellaw15.TableOver", spec := "tableOver", unfollowed := true, recurses := true, named := ["newel/greg.lengths"], plainKeys := false, apart := false, laid := [("newel/greg.lengths", laid_newel_greg_lengths)], narrowed := true }
def TableOverUptoSaid : Prop := tableOverUptoRow.holds Tryz.pinned (OpenSpec.upto tableOverSpec)

end Rows
end Go.Proofs.YtfhepbbkggdlcaaGreatDoor
