/-
  No cell of these rows narrows 'for every input' (looked for: loops, veiled, ifaces, maps, wideKeys, modest, calm, conditions, laid).
  DERIVED. THE GIVEN ROWS OF THIS SEAT. 6 by the template 'for every input the law returns true; each argument reads behind the call as it read before'; 0 by the template 'total and deterministic' (their statements: YtlnfojhmgncfiaaTotals.lean).
  GIVEN WITH THE SEED: the statements are not yours to turn. If you find one false, say at which input.
  Laid BY PROGRAM, IN A SANDBOX (cutbox-rows.mjs): the forced cells as the released guide's own fill.sh prints them over the translation 59c115697a55573f… (all of the seat's roots in one cut). By AI agents, Wed Nov 11 2026. No macro, syntax, notation, axiom, sorry.
-/
import Derived.Test.YtlnfojhmgncfiaaChecked
import GoSem.Claim
import GoSem.ClaimJoined
import GoSem.ClaimMapViews
import Derived.JoinedTies
import Derived.KernelRfl
namespace Go.Proofs.Ytlnfojhmgncfiaa
/- THE CELL 'sum', in the pinned program and in every row, IS THE sha256 OF THE DUMP (.gsa) THAT YtlnfojhmgncfiaaProg.lean LOADS. Nothing in Lean hashes anything: it is a label: what it is worth is what the hold of that sum in a sandbox is worth. -/
noncomputable def Try.pinned : Pinned := { name := "ytlnfojhmgncfiaa", sum := "59c115697a55573f14a997b3a317e1ab765947d87579c28eefcc5a52c845b23b", checked := Try.checked }
namespace Rows
def none {H : Type} : Left H := { results := [], args := [] }

/-- 'newellaw22.CycleTells': WHATEVER THE INPUT: true; the input reads as it did. -/
def cycleTellsSpec : ChangeSpec := { name := "cycleTells", fn := fun _ => fun
  | [d1, d2, d3] => { results := [.lit (.bool true)], args := [d1, d2, d3] }
  | _ => none }
def cycleTellsRow : OpenClaim := { program := "ytlnfojhmgncfiaa", sum := "59c115697a55573f14a997b3a317e1ab765947d87579c28eefcc5a52c845b23b", func := "newel/newellaw22.CycleTells", spec := "cycleTells", unfollowed := true, recurses := true, apart := false }
def CycleTellsSaid : Prop := cycleTellsRow.holds Try.pinned (OpenSpec.ofChange cycleTellsSpec)

/-- ITS FALSE NEIGHBOUR: 'it returns false'. Refute it at one input. -/
def cycleTellsWrong : ChangeSpec := { name := "cycleTells", fn := fun _ => fun
  | [d1, d2, d3] => { results := [.lit (.bool false)], args := [d1, d2, d3] }
  | _ => none }
def CycleTellsWrongFalsely : Prop := cycleTellsRow.holds Try.pinned (OpenSpec.ofChange cycleTellsWrong)

/-- 'newellaw22.CycleLengths': WHATEVER THE INPUT: true; the input reads as it did. -/
def cycleLengthsSpec : ChangeSpec := { name := "cycleLengths", fn := fun _ => fun
  | [d1, d2] => { results := [.lit (.bool true)], args := [d1, d2] }
  | _ => none }
def cycleLengthsRow : OpenClaim := { program := "ytlnfojhmgncfiaa", sum := "59c115697a55573f14a997b3a317e1ab765947d87579c28eefcc5a52c845b23b", func := "newel/newellaw22.CycleLengths", spec := "cycleLengths", unfollowed := true, recurses := true, apart := false }
def CycleLengthsSaid : Prop := cycleLengthsRow.holds Try.pinned (OpenSpec.ofChange cycleLengthsSpec)

/-- ITS FALSE NEIGHBOUR: 'it returns false'. Refute it at one input. -/
def cycleLengthsWrong : ChangeSpec := { name := "cycleLengths", fn := fun _ => fun
  | [d1, d2] => { results := [.lit (.bool false)], args := [d1, d2] }
  | _ => none }
def CycleLengthsWrongFalsely : Prop := cycleLengthsRow.holds Try.pinned (OpenSpec.ofChange cycleLengthsWrong)

/-- 'newellaw22.CycleRound': WHATEVER THE INPUT: true; the input reads as it did. -/
def cycleRoundSpec : ChangeSpec := { name := "cycleRound", fn := fun _ => fun
  | [d1, d2] => { results := [.lit (.bool true)], args := [d1, d2] }
  | _ => none }
def cycleRoundRow : OpenClaim := { program := "ytlnfojhmgncfiaa", sum := "59c115697a55573f14a997b3a317e1ab765947d87579c28eefcc5a52c845b23b", func := "newel/newellaw22.CycleRound", spec := "cycleRound", unfollowed := true, recurses := true, apart := false }
def CycleRoundSaid : Prop := cycleRoundRow.holds Try.pinned (OpenSpec.ofChange cycleRoundSpec)

/-- ITS FALSE NEIGHBOUR: 'it returns false'. Refute it at one input. -/
def cycleRoundWrong : ChangeSpec := { name := "cycleRound", fn := fun _ => fun
  | [d1, d2] => { results := [.lit (.bool false)], args := [d1, d2] }
  | _ => none }
def CycleRoundWrongFalsely : Prop := cycleRoundRow.holds Try.pinned (OpenSpec.ofChange cycleRoundWrong)

/-- 'newellaw22.CycleShift': WHATEVER THE INPUT: true; the input reads as it did. -/
def cycleShiftSpec : ChangeSpec := { name := "cycleShift", fn := fun _ => fun
  | [d1, d2, d3] => { results := [.lit (.bool true)], args := [d1, d2, d3] }
  | _ => none }
def cycleShiftRow : OpenClaim := { program := "ytlnfojhmgncfiaa", sum := "59c115697a55573f14a997b3a317e1ab765947d87579c28eefcc5a52c845b23b", func := "newel/newellaw22.CycleShift", spec := "cycleShift", unfollowed := true, recurses := true, apart := false }
def CycleShiftSaid : Prop := cycleShiftRow.holds Try.pinned (OpenSpec.ofChange cycleShiftSpec)

/-- ITS FALSE NEIGHBOUR: 'it returns false'. Refute it at one input. -/
def cycleShiftWrong : ChangeSpec := { name := "cycleShift", fn := fun _ => fun
  | [d1, d2, d3] => { results := [.lit (.bool false)], args := [d1, d2, d3] }
  | _ => none }
def CycleShiftWrongFalsely : Prop := cycleShiftRow.holds Try.pinned (OpenSpec.ofChange cycleShiftWrong)

/-- 'newellaw22.CycleFormula': WHATEVER THE INPUT: true; the input reads as it did. -/
def cycleFormulaSpec : ChangeSpec := { name := "cycleFormula", fn := fun _ => fun
  | [d1, d2] => { results := [.lit (.bool true)], args := [d1, d2] }
  | _ => none }
def cycleFormulaRow : OpenClaim := { program := "ytlnfojhmgncfiaa", sum := "59c115697a55573f14a997b3a317e1ab765947d87579c28eefcc5a52c845b23b", func := "newel/newellaw22.CycleFormula", spec := "cycleFormula", unfollowed := true, recurses := true, apart := false }
def CycleFormulaSaid : Prop := cycleFormulaRow.holds Try.pinned (OpenSpec.ofChange cycleFormulaSpec)

/-- ITS FALSE NEIGHBOUR: 'it returns false'. Refute it at one input. -/
def cycleFormulaWrong : ChangeSpec := { name := "cycleFormula", fn := fun _ => fun
  | [d1, d2] => { results := [.lit (.bool false)], args := [d1, d2] }
  | _ => none }
def CycleFormulaWrongFalsely : Prop := cycleFormulaRow.holds Try.pinned (OpenSpec.ofChange cycleFormulaWrong)

/-- 'newellaw22.CycleGoes': WHATEVER THE INPUT: true; the input reads as it did. -/
def cycleGoesSpec : ChangeSpec := { name := "cycleGoes", fn := fun _ => fun
  | [d1, d2, d3] => { results := [.lit (.bool true)], args := [d1, d2, d3] }
  | _ => none }
def cycleGoesRow : OpenClaim := { program := "ytlnfojhmgncfiaa", sum := "59c115697a55573f14a997b3a317e1ab765947d87579c28eefcc5a52c845b23b", func := "newel/newellaw22.CycleGoes", spec := "cycleGoes", unfollowed := true, recurses := true, apart := false }
def CycleGoesSaid : Prop := cycleGoesRow.holds Try.pinned (OpenSpec.ofChange cycleGoesSpec)

/-- ITS FALSE NEIGHBOUR: 'it returns false'. Refute it at one input. -/
def cycleGoesWrong : ChangeSpec := { name := "cycleGoes", fn := fun _ => fun
  | [d1, d2, d3] => { results := [.lit (.bool false)], args := [d1, d2, d3] }
  | _ => none }
def CycleGoesWrongFalsely : Prop := cycleGoesRow.holds Try.pinned (OpenSpec.ofChange cycleGoesWrong)

/- THE SECOND FORM. 'bulk': how many values and letters a reading holds, each counted each time it is reached (what is shared counts as often as it is met; a slice's spare places count too). A statement '..UptoSaid' is the law's where the arguments, and the package variables that the reading takes, are together of bulk at most 1048576: NARROWER than '..Said'. Prove '..Said' where nothing that the law and all that it calls make is longer than what came in: it says more and counts as full. Else prove '..UptoSaid'. A law counts once. -/
mutual
def uptoBulk {H : Type} : DataW H → Nat
  | .lit (.string bytes) => bytes.length + 1
  | .lit _ => 1
  | .nil => 1
  | .ptr d => uptoBulk d + 1
  | .slice elems spare => uptoBulkAll elems + uptoBulkAll spare + 1
  | .agg parts => uptoBulkAll parts + 1
  | .iface _ d => uptoBulk d + 1
  | .map entries => uptoBulkEntries entries + 1
  | .held _ => 1
def uptoBulkAll {H : Type} : List (DataW H) → Nat
  | [] => 0
  | d :: r => uptoBulk d + uptoBulkAll r
def uptoBulkEntries {H : Type} : List (Lit × DataW H) → Nat
  | [] => 0
  | x :: r => uptoBulkEntry x + uptoBulkEntries r
def uptoBulkEntry {H : Type} : Lit × DataW H → Nat
  | (.string bytes, d) => bytes.length + uptoBulk d + 1
  | (_, d) => uptoBulk d + 1
 end
def uptoSmall : (H : Type) → List (DataW H) → Bool := fun _ ds => decide (uptoBulkAll ds ≤ 1048576)
def OpenSpec.upto (s : _root_.Go.ChangeSpec) : _root_.Go.OpenSpec := { _root_.Go.OpenSpec.ofChange s with cond := some uptoSmall }

/-- 'newellaw22.CycleTells', WHERE WHAT IT READS IS OF BULK AT MOST 1048576: true; the input reads as it did. -/
def cycleTellsUptoRow : OpenClaim := { program := "ytlnfojhmgncfiaa", sum := "59c115697a55573f14a997b3a317e1ab765947d87579c28eefcc5a52c845b23b", func := "newel/newellaw22.CycleTells", spec := "cycleTells", unfollowed := true, recurses := true, apart := false, narrowed := true }
def CycleTellsUptoSaid : Prop := cycleTellsUptoRow.holds Try.pinned (OpenSpec.upto cycleTellsSpec)

/-- 'newellaw22.CycleLengths', WHERE WHAT IT READS IS OF BULK AT MOST 1048576: true; the input reads as it did. -/
def cycleLengthsUptoRow : OpenClaim := { program := "ytlnfojhmgncfiaa", sum := "59c115697a55573f14a997b3a317e1ab765947d87579c28eefcc5a52c845b23b", func := "newel/newellaw22.CycleLengths", spec := "cycleLengths", unfollowed := true, recurses := true, apart := false, narrowed := true }
def CycleLengthsUptoSaid : Prop := cycleLengthsUptoRow.holds Try.pinned (OpenSpec.upto cycleLengthsSpec)

/-- 'newellaw22.CycleRound', WHERE WHAT IT READS IS OF BULK AT MOST 1048576: true; the input reads as it did. -/
def cycleRoundUptoRow : OpenClaim := { program := "ytlnfojhmgncfiaa", sum := "59c115697a55573f14a997b3a317e1ab765947d87579c28eefcc5a52c845b23b", func := "newel/newellaw22.CycleRound", spec := "cycleRound", unfollowed := true, recurses := true, apart := false, narrowed := true }
def CycleRoundUptoSaid : Prop := cycleRoundUptoRow.holds Try.pinned (OpenSpec.upto cycleRoundSpec)

/-- 'newellaw22.CycleShift', WHERE WHAT IT READS IS OF BULK AT MOST 1048576: true; the input reads as it did. -/
def cycleShiftUptoRow : OpenClaim := { program := "ytlnfojhmgncfiaa", sum := "59c115697a55573f14a997b3a317e1ab765947d87579c28eefcc5a52c845b23b", func := "newel/newellaw22.CycleShift", spec := "cycleShift", unfollowed := true, recurses := true, apart := false, narrowed := true }
def CycleShiftUptoSaid : Prop := cycleShiftUptoRow.holds Try.pinned (OpenSpec.upto cycleShiftSpec)

/-- 'newellaw22.CycleFormula', WHERE WHAT IT READS IS OF BULK AT MOST 1048576: true; the input reads as it did. -/
def cycleFormulaUptoRow : OpenClaim := { program := "ytlnfojhmgncfiaa", sum := "59c115697a55573f14a997b3a317e1ab765947d87579c28eefcc5a52c845b23b", func := "newel/newellaw22.CycleFormula", spec := "cycleFormula", unfollowed := true, recurses := true, apart := false, narrowed := true }
def CycleFormulaUptoSaid : Prop := cycleFormulaUptoRow.holds Try.pinned (OpenSpec.upto cycleFormulaSpec)

/-- 'newellaw22.CycleGoes', WHERE WHAT IT READS IS OF BULK AT MOST 1048576: true; the input reads as it did. -/
def cycleGoesUptoRow : OpenClaim := { program := "ytlnfojhmgncfiaa", sum := "59c115697a55573f14a997b3a317e1ab765947d87579c28eefcc5a52c845b23b", func := "newel/newellaw22.CycleGoes", spec := "cycleGoes", unfollowed := true, recurses := true, apart := false, narrowed := true }
def CycleGoesUptoSaid : Prop := cycleGoesUptoRow.holds Try.pinned (OpenSpec.upto cycleGoesSpec)

end Rows
end Go.Proofs.Ytlnfojhmgncfiaa
