/-
  No cell of these rows narrows 'for every input' (looked for: loops, veiled, ifaces, maps, wideKeys, modest, calm, conditions, laid).
  DERIVED. THE GIVEN ROWS OF THIS SEAT. 7 by the template 'for every input the law returns true; each argument reads behind the call as it read before'; 0 by the template 'total and deterministic' (their statements: YtkcpgejmafobjaaTotals.lean).
  GIVEN WITH THE SEED: the statements are not yours to turn. If you find one false, say at which input.
  Laid BY PROGRAM, IN A SANDBOX (cutbox-rows.mjs): the forced cells as the released guide's own fill.sh prints them over the translation 023672bc0b49e7fa… (all of the seat's roots in one cut). By AI agents, Wed Nov 11 2026. No macro, syntax, notation, axiom, sorry.
-/
import Derived.Test.YtkcpgejmafobjaaChecked
import GoSem.Claim
import GoSem.ClaimJoined
import GoSem.ClaimMapViews
import Derived.JoinedTies
import Derived.KernelRfl
namespace Go.Proofs.Ytkcpgejmafobjaa
/- THE CELL 'sum', in the pinned program and in every row, IS THE sha256 OF THE DUMP (.gsa) THAT YtkcpgejmafobjaaProg.lean LOADS. Nothing in Lean hashes anything: it is a label: what it is worth is what the hold of that sum in a sandbox is worth. -/
noncomputable def Try.pinned : Pinned := { name := "ytkcpgejmafobjaa", sum := "023672bc0b49e7fac57dd3ea735db2fb1c1d8ed919d4eec4c2d77b9680a6c1cf", checked := Try.checked }
namespace Rows
def none {H : Type} : Left H := { results := [], args := [] }

/-- 'newellaw18.CarSteps': WHATEVER THE INPUT: true; the input reads as it did. -/
def carStepsSpec : ChangeSpec := { name := "carSteps", fn := fun _ => fun
  | [d1, d2, d3] => { results := [.lit (.bool true)], args := [d1, d2, d3] }
  | _ => none }
def carStepsRow : OpenClaim := { program := "ytkcpgejmafobjaa", sum := "023672bc0b49e7fac57dd3ea735db2fb1c1d8ed919d4eec4c2d77b9680a6c1cf", func := "newel/newellaw18.CarSteps", spec := "carSteps", unfollowed := true, recurses := true, apart := false }
def CarStepsSaid : Prop := carStepsRow.holds Try.pinned (OpenSpec.ofChange carStepsSpec)

/-- ITS FALSE NEIGHBOUR: 'it returns false'. Refute it at one input. -/
def carStepsWrong : ChangeSpec := { name := "carSteps", fn := fun _ => fun
  | [d1, d2, d3] => { results := [.lit (.bool false)], args := [d1, d2, d3] }
  | _ => none }
def CarStepsWrongFalsely : Prop := carStepsRow.holds Try.pinned (OpenSpec.ofChange carStepsWrong)

/-- 'newellaw18.CarRests': WHATEVER THE INPUT: true; the input reads as it did. -/
def carRestsSpec : ChangeSpec := { name := "carRests", fn := fun _ => fun
  | [d1, d2] => { results := [.lit (.bool true)], args := [d1, d2] }
  | _ => none }
def carRestsRow : OpenClaim := { program := "ytkcpgejmafobjaa", sum := "023672bc0b49e7fac57dd3ea735db2fb1c1d8ed919d4eec4c2d77b9680a6c1cf", func := "newel/newellaw18.CarRests", spec := "carRests", unfollowed := true, recurses := true, apart := false }
def CarRestsSaid : Prop := carRestsRow.holds Try.pinned (OpenSpec.ofChange carRestsSpec)

/-- ITS FALSE NEIGHBOUR: 'it returns false'. Refute it at one input. -/
def carRestsWrong : ChangeSpec := { name := "carRests", fn := fun _ => fun
  | [d1, d2] => { results := [.lit (.bool false)], args := [d1, d2] }
  | _ => none }
def CarRestsWrongFalsely : Prop := carRestsRow.holds Try.pinned (OpenSpec.ofChange carRestsWrong)

/-- 'newellaw18.CarSafe': WHATEVER THE INPUT: true; the input reads as it did. -/
def carSafeSpec : ChangeSpec := { name := "carSafe", fn := fun _ => fun
  | [d1, d2, d3] => { results := [.lit (.bool true)], args := [d1, d2, d3] }
  | _ => none }
def carSafeRow : OpenClaim := { program := "ytkcpgejmafobjaa", sum := "023672bc0b49e7fac57dd3ea735db2fb1c1d8ed919d4eec4c2d77b9680a6c1cf", func := "newel/newellaw18.CarSafe", spec := "carSafe", unfollowed := true, recurses := true, apart := false }
def CarSafeSaid : Prop := carSafeRow.holds Try.pinned (OpenSpec.ofChange carSafeSpec)

/-- ITS FALSE NEIGHBOUR: 'it returns false'. Refute it at one input. -/
def carSafeWrong : ChangeSpec := { name := "carSafe", fn := fun _ => fun
  | [d1, d2, d3] => { results := [.lit (.bool false)], args := [d1, d2, d3] }
  | _ => none }
def CarSafeWrongFalsely : Prop := carSafeRow.holds Try.pinned (OpenSpec.ofChange carSafeWrong)

/-- 'newellaw18.CarFault': WHATEVER THE INPUT: true; the input reads as it did. -/
def carFaultSpec : ChangeSpec := { name := "carFault", fn := fun _ => fun
  | [d] => { results := [.lit (.bool true)], args := [d] }
  | _ => none }
def carFaultRow : OpenClaim := { program := "ytkcpgejmafobjaa", sum := "023672bc0b49e7fac57dd3ea735db2fb1c1d8ed919d4eec4c2d77b9680a6c1cf", func := "newel/newellaw18.CarFault", spec := "carFault", unfollowed := true, recurses := true, apart := false }
def CarFaultSaid : Prop := carFaultRow.holds Try.pinned (OpenSpec.ofChange carFaultSpec)

/-- ITS FALSE NEIGHBOUR: 'it returns false'. Refute it at one input. -/
def carFaultWrong : ChangeSpec := { name := "carFault", fn := fun _ => fun
  | [d] => { results := [.lit (.bool false)], args := [d] }
  | _ => none }
def CarFaultWrongFalsely : Prop := carFaultRow.holds Try.pinned (OpenSpec.ofChange carFaultWrong)

/-- 'newellaw18.CarRides': WHATEVER THE INPUT: true; the input reads as it did. -/
def carRidesSpec : ChangeSpec := { name := "carRides", fn := fun _ => fun
  | [d] => { results := [.lit (.bool true)], args := [d] }
  | _ => none }
def carRidesRow : OpenClaim := { program := "ytkcpgejmafobjaa", sum := "023672bc0b49e7fac57dd3ea735db2fb1c1d8ed919d4eec4c2d77b9680a6c1cf", func := "newel/newellaw18.CarRides", spec := "carRides", unfollowed := true, recurses := true, apart := false }
def CarRidesSaid : Prop := carRidesRow.holds Try.pinned (OpenSpec.ofChange carRidesSpec)

/-- ITS FALSE NEIGHBOUR: 'it returns false'. Refute it at one input. -/
def carRidesWrong : ChangeSpec := { name := "carRides", fn := fun _ => fun
  | [d] => { results := [.lit (.bool false)], args := [d] }
  | _ => none }
def CarRidesWrongFalsely : Prop := carRidesRow.holds Try.pinned (OpenSpec.ofChange carRidesWrong)

/-- 'newellaw18.CarOpens': WHATEVER THE INPUT: true; the input reads as it did. -/
def carOpensSpec : ChangeSpec := { name := "carOpens", fn := fun _ => fun
  | [d1, d2] => { results := [.lit (.bool true)], args := [d1, d2] }
  | _ => none }
def carOpensRow : OpenClaim := { program := "ytkcpgejmafobjaa", sum := "023672bc0b49e7fac57dd3ea735db2fb1c1d8ed919d4eec4c2d77b9680a6c1cf", func := "newel/newellaw18.CarOpens", spec := "carOpens", unfollowed := true, recurses := true, apart := false }
def CarOpensSaid : Prop := carOpensRow.holds Try.pinned (OpenSpec.ofChange carOpensSpec)

/-- ITS FALSE NEIGHBOUR: 'it returns false'. Refute it at one input. -/
def carOpensWrong : ChangeSpec := { name := "carOpens", fn := fun _ => fun
  | [d1, d2] => { results := [.lit (.bool false)], args := [d1, d2] }
  | _ => none }
def CarOpensWrongFalsely : Prop := carOpensRow.holds Try.pinned (OpenSpec.ofChange carOpensWrong)

/-- 'newellaw18.CarFalls': WHATEVER THE INPUT: true; the input reads as it did. -/
def carFallsSpec : ChangeSpec := { name := "carFalls", fn := fun _ => fun
  | [d1, d2, d3] => { results := [.lit (.bool true)], args := [d1, d2, d3] }
  | _ => none }
def carFallsRow : OpenClaim := { program := "ytkcpgejmafobjaa", sum := "023672bc0b49e7fac57dd3ea735db2fb1c1d8ed919d4eec4c2d77b9680a6c1cf", func := "newel/newellaw18.CarFalls", spec := "carFalls", unfollowed := true, recurses := true, apart := false }
def CarFallsSaid : Prop := carFallsRow.holds Try.pinned (OpenSpec.ofChange carFallsSpec)

/-- ITS FALSE NEIGHBOUR: 'it returns false'. Refute it at one input. -/
def carFallsWrong : ChangeSpec := { name := "carFalls", fn := fun _ => fun
  | [d1, d2, d3] => { results := [.lit (.bool false)], args := [d1, d2, d3] }
  | _ => none }
def CarFallsWrongFalsely : Prop := carFallsRow.holds Try.pinned (OpenSpec.ofChange carFallsWrong)

/- THE SECOND FORM. 'bulk': how many values and letters a reading holds, each counted each time it is reached (what is shared counts as often as it is met; a slice's spare places count too). A statement '..UptoSaid' is the law's where the arguments, and the package variables that the reading takes, are together of bulk at most 1048576: NARROWER than '..Said'. Prove '..Said' where nothing that the law and all that it calls make is longer than what came in: it says more and counts as full. Else prove '..UptoSaid'. A law counts once. -/
mutual
def uptoBulk {H : Type} : DataW H → Nat
  | .lit (.string bytes) => bytes.length + 1
  | .lit _ => 1
  | .nil => 1
  | .ptr d => uptoBulk d + 1
  | .slice elems spare => uptoBulkAll elems + uptoBulkAll spare + 1
  | .agg parts => uptoBulkAll parts + 1
  | .iface _ d => uptoBulk d + 1
  | .map entries => uptoBulkEntries entries + 1
  | .held _ => 1
def uptoBulkAll {H : Type} : List (DataW H) → Nat
  | [] => 0
  | d :: r => uptoBulk d + uptoBulkAll r
def uptoBulkEntries {H : Type} : List (Lit × DataW H) → Nat
  | [] => 0
  | x :: r => uptoBulkEntry x + uptoBulkEntries r
def uptoBulkEntry {H : Type} : Lit × DataW H → Nat
  | (.string bytes, d) => bytes.length + uptoBulk d + 1
  | (_, d) => uptoBulk d + 1
 end
def uptoSmall : (H : Type) → List (DataW H) → Bool := fun _ ds => decide (uptoBulkAll ds ≤ 1048576)
def OpenSpec.upto (s : _root_.Go.ChangeSpec) : _root_.Go.OpenSpec := { _root_.Go.OpenSpec.ofChange s with cond := some uptoSmall }

/-- 'newellaw18.CarSteps', WHERE WHAT IT READS IS OF BULK AT MOST 1048576: true; the input reads as it did. -/
def carStepsUptoRow : OpenClaim := { program := "ytkcpgejmafobjaa", sum := "023672bc0b49e7fac57dd3ea735db2fb1c1d8ed919d4eec4c2d77b9680a6c1cf", func := "newel/newellaw18.CarSteps", spec := "carSteps", unfollowed := true, recurses := true, apart := false, narrowed := true }
def CarStepsUptoSaid : Prop := carStepsUptoRow.holds Try.pinned (OpenSpec.upto carStepsSpec)

/-- 'newellaw18.CarRests', WHERE WHAT IT READS IS OF BULK AT MOST 1048576: true; the input reads as it did. -/
def carRestsUptoRow : OpenClaim := { program := "ytkcpgejmafobjaa", sum := "023672bc0b49e7fac57dd3ea735db2fb1c1d8ed919d4eec4c2d77b9680a6c1cf", func := "newel/newellaw18.CarRests", spec := "carRests", unfollowed := true, recurses := true, apart := false, narrowed := true }
def CarRestsUptoSaid : Prop := carRestsUptoRow.holds Try.pinned (OpenSpec.upto carRestsSpec)

/-- 'newellaw18.CarSafe', WHERE WHAT IT READS IS OF BULK AT MOST 1048576: true; the input reads as it did. -/
def carSafeUptoRow : OpenClaim := { program := "ytkcpgejmafobjaa", sum := "023672bc0b49e7fac57dd3ea735db2fb1c1d8ed919d4eec4c2d77b9680a6c1cf", func := "newel/newellaw18.CarSafe", spec := "carSafe", unfollowed := true, recurses := true, apart := false, narrowed := true }
def CarSafeUptoSaid : Prop := carSafeUptoRow.holds Try.pinned (OpenSpec.upto carSafeSpec)

/-- 'newellaw18.CarFault', WHERE WHAT IT READS IS OF BULK AT MOST 1048576: true; the input reads as it did. -/
def carFaultUptoRow : OpenClaim := { program := "ytkcpgejmafobjaa", sum := "023672bc0b49e7fac57dd3ea735db2fb1c1d8ed919d4eec4c2d77b9680a6c1cf", func := "newel/newellaw18.CarFault", spec := "carFault", unfollowed := true, recurses := true, apart := false, narrowed := true }
def CarFaultUptoSaid : Prop := carFaultUptoRow.holds Try.pinned (OpenSpec.upto carFaultSpec)

/-- 'newellaw18.CarRides', WHERE WHAT IT READS IS OF BULK AT MOST 1048576: true; the input reads as it did. -/
def carRidesUptoRow : OpenClaim := { program := "ytkcpgejmafobjaa", sum := "023672bc0b49e7fac57dd3ea735db2fb1c1d8ed919d4eec4c2d77b9680a6c1cf", func := "newel/newellaw18.CarRides", spec := "carRides", unfollowed := true, recurses := true, apart := false, narrowed := true }
def CarRidesUptoSaid : Prop := carRidesUptoRow.holds Try.pinned (OpenSpec.upto carRidesSpec)

/-- 'newellaw18.CarOpens', WHERE WHAT IT READS IS OF BULK AT MOST 1048576: true; the input reads as it did. -/
def carOpensUptoRow : OpenClaim := { program := "ytkcpgejmafobjaa", sum := "023672bc0b49e7fac57dd3ea735db2fb1c1d8ed919d4eec4c2d77b9680a6c1cf", func := "newel/newellaw18.CarOpens", spec := "carOpens", unfollowed := true, recurses := true, apart := false, narrowed := true }
def CarOpensUptoSaid : Prop := carOpensUptoRow.holds Try.pinned (OpenSpec.upto carOpensSpec)

/-- 'newellaw18.CarFalls', WHERE WHAT IT READS IS OF BULK AT MOST 1048576: true; the input reads as it did. -/
def carFallsUptoRow : OpenClaim := { program := "ytkcpgejmafobjaa", sum := "023672bc0b49e7fac57dd3ea735db2fb1c1d8ed919d4eec4c2d77b9680a6c1cf", func := "newel/newellaw18.CarFalls", spec := "carFalls", unfollowed := true, recurses := true, apart := false, narrowed := true }
def CarFallsUptoSaid : Prop := carFallsUptoRow.holds Try.pinned (OpenSpec.upto carFallsSpec)

end Rows
end Go.Proofs.Ytkcpgejmafobjaa
