/-
  NARROWER THAN 'FOR EVERY INPUT', by the rows' own cells (each row's printed sentence says how): WindowMoments: laid · WindowLong: laid · WindowRests: laid · WindowApart: laid · WindowFirst: laid.
  DERIVED. THE GIVEN ROWS OF THIS SEAT. 5 by the template 'for every input the law returns true; each argument reads behind the call as it read before'; 0 by the template 'total and deterministic' (their statements: YtgfinnhojeghhaaDoorTotals.lean).
  GIVEN WITH THE SEED: the statements are not yours to turn. If you find one false, say at which input.
  Laid BY PROGRAM, IN A SANDBOX (cutbox-rows.mjs): the forced cells as the released guide's own fill.sh prints them over the translation 62ea1b82d0f57543… (all of the seat's roots in one cut). By AI agents, Wed Nov 11 2026. No macro, syntax, notation, axiom, sorry.
-/
import Derived.Test.YtgfinnhojeghhaaDoorChecked
import GoSem.Claim
import GoSem.ClaimJoined
import GoSem.ClaimMapViews
import Derived.JoinedTies
import Derived.KernelRfl
namespace Go.Proofs.YtgfinnhojeghhaaDoor
/- THE CELL 'sum', in the pinned program and in every row, IS THE sha256 OF THE DUMP (.gsa) THAT YtgfinnhojeghhaaDoorProg.lean LOADS. Nothing in Lean hashes anything: it is a label: what it is worth is what the hold of that sum in a sandbox is worth. -/
noncomputable def Tryd.pinned : Pinned := { name := "ytgfinnhojeghhaadoor", sum := "62ea1b82d0f57543c0dba495a9ece4a834d74d092c334b24d06fe690aba17461", checked := Tryd.checked }
namespace Rows
def none {H : Type} : Left H := { results := [], args := [] }

/- WHAT THE LISTED PACKAGE-LEVEL VARIABLES READ AS WHEN THE CALL BEGINS. Each datum BY PROGRAM (the guide's laid-datum.mjs) off the statement by which the dump's own 'gosem.cut.vars' lays the variable. In a bare row this is a premise. The card (YtgfinnhojeghhaaDoorCards.lean) ties it to the program's text. -/
def laid_newel_greg_lengths {H : Type} : DataW H := .agg [.lit (.int .i64 31), .lit (.int .i64 28), .lit (.int .i64 31), .lit (.int .i64 30), .lit (.int .i64 31), .lit (.int .i64 30), .lit (.int .i64 31), .lit (.int .i64 31), .lit (.int .i64 30), .lit (.int .i64 31), .lit (.int .i64 30), .lit (.int .i64 31)]

/-- 'newellaw14.WindowMoments': WHATEVER THE INPUT: true; the input reads as it did. -/
def windowMomentsSpec : ChangeSpec := { name := "windowMoments", fn := fun _ => fun
  | [d1, d2, d3] => { results := [.lit (.bool true)], args := [d1, d2, d3] }
  | _ => none }
def windowMomentsRow : OpenClaim := { program := "ytgfinnhojeghhaadoor", sum := "62ea1b82d0f57543c0dba495a9ece4a834d74d092c334b24d06fe690aba17461", func := "newel/newellaw14.WindowMoments", spec := "windowMoments", unfollowed := true, recurses := true, named := ["newel/greg.lengths"], plainKeys := false, apart := false, laid := [("newel/greg.lengths", laid_newel_greg_lengths)] }
def WindowMomentsSaid : Prop := windowMomentsRow.holds Tryd.pinned (OpenSpec.ofChange windowMomentsSpec)

/-- ITS FALSE NEIGHBOUR: 'it returns false'. Refute it at one input. -/
def windowMomentsWrong : ChangeSpec := { name := "windowMoments", fn := fun _ => fun
  | [d1, d2, d3] => { results := [.lit (.bool false)], args := [d1, d2, d3] }
  | _ => none }
def WindowMomentsWrongFalsely : Prop := windowMomentsRow.holds Tryd.pinned (OpenSpec.ofChange windowMomentsWrong)

/-- 'newellaw14.WindowLong': WHATEVER THE INPUT: true; the input reads as it did. -/
def windowLongSpec : ChangeSpec := { name := "windowLong", fn := fun _ => fun
  | [d1, d2, d3] => { results := [.lit (.bool true)], args := [d1, d2, d3] }
  | _ => none }
def windowLongRow : OpenClaim := { program := "ytgfinnhojeghhaadoor", sum := "62ea1b82d0f57543c0dba495a9ece4a834d74d092c334b24d06fe690aba17461", func := "newel/newellaw14.WindowLong", spec := "windowLong", unfollowed := true, recurses := true, named := ["newel/greg.lengths"], plainKeys := false, apart := false, laid := [("newel/greg.lengths", laid_newel_greg_lengths)] }
def WindowLongSaid : Prop := windowLongRow.holds Tryd.pinned (OpenSpec.ofChange windowLongSpec)

/-- ITS FALSE NEIGHBOUR: 'it returns false'. Refute it at one input. -/
def windowLongWrong : ChangeSpec := { name := "windowLong", fn := fun _ => fun
  | [d1, d2, d3] => { results := [.lit (.bool false)], args := [d1, d2, d3] }
  | _ => none }
def WindowLongWrongFalsely : Prop := windowLongRow.holds Tryd.pinned (OpenSpec.ofChange windowLongWrong)

/-- 'newellaw14.WindowRests': WHATEVER THE INPUT: true; the input reads as it did. -/
def windowRestsSpec : ChangeSpec := { name := "windowRests", fn := fun _ => fun
  | [d1, d2, d3] => { results := [.lit (.bool true)], args := [d1, d2, d3] }
  | _ => none }
def windowRestsRow : OpenClaim := { program := "ytgfinnhojeghhaadoor", sum := "62ea1b82d0f57543c0dba495a9ece4a834d74d092c334b24d06fe690aba17461", func := "newel/newellaw14.WindowRests", spec := "windowRests", unfollowed := true, recurses := true, named := ["newel/greg.lengths"], plainKeys := false, apart := false, laid := [("newel/greg.lengths", laid_newel_greg_lengths)] }
def WindowRestsSaid : Prop := windowRestsRow.holds Tryd.pinned (OpenSpec.ofChange windowRestsSpec)

/-- ITS FALSE NEIGHBOUR: 'it returns false'. Refute it at one input. -/
def windowRestsWrong : ChangeSpec := { name := "windowRests", fn := fun _ => fun
  | [d1, d2, d3] => { results := [.lit (.bool false)], args := [d1, d2, d3] }
  | _ => none }
def WindowRestsWrongFalsely : Prop := windowRestsRow.holds Tryd.pinned (OpenSpec.ofChange windowRestsWrong)

/-- 'newellaw14.WindowApart': WHATEVER THE INPUT: true; the input reads as it did. -/
def windowApartSpec : ChangeSpec := { name := "windowApart", fn := fun _ => fun
  | [d] => { results := [.lit (.bool true)], args := [d] }
  | _ => none }
def windowApartRow : OpenClaim := { program := "ytgfinnhojeghhaadoor", sum := "62ea1b82d0f57543c0dba495a9ece4a834d74d092c334b24d06fe690aba17461", func := "newel/newellaw14.WindowApart", spec := "windowApart", unfollowed := true, recurses := true, named := ["newel/greg.lengths"], plainKeys := false, apart := false, laid := [("newel/greg.lengths", laid_newel_greg_lengths)] }
def WindowApartSaid : Prop := windowApartRow.holds Tryd.pinned (OpenSpec.ofChange windowApartSpec)

/-- ITS FALSE NEIGHBOUR: 'it returns false'. Refute it at one input. -/
def windowApartWrong : ChangeSpec := { name := "windowApart", fn := fun _ => fun
  | [d] => { results := [.lit (.bool false)], args := [d] }
  | _ => none }
def WindowApartWrongFalsely : Prop := windowApartRow.holds Tryd.pinned (OpenSpec.ofChange windowApartWrong)

/-- 'newellaw14.WindowFirst': WHATEVER THE INPUT: true; the input reads as it did. -/
def windowFirstSpec : ChangeSpec := { name := "windowFirst", fn := fun _ => fun
  | [d1, d2, d3] => { results := [.lit (.bool true)], args := [d1, d2, d3] }
  | _ => none }
def windowFirstRow : OpenClaim := { program := "ytgfinnhojeghhaadoor", sum := "62ea1b82d0f57543c0dba495a9ece4a834d74d092c334b24d06fe690aba17461", func := "newel/newellaw14.WindowFirst", spec := "windowFirst", unfollowed := true, recurses := true, named := ["newel/greg.lengths"], plainKeys := false, apart := false, laid := [("newel/greg.lengths", laid_newel_greg_lengths)] }
def WindowFirstSaid : Prop := windowFirstRow.holds Tryd.pinned (OpenSpec.ofChange windowFirstSpec)

/-- ITS FALSE NEIGHBOUR: 'it returns false'. Refute it at one input. -/
def windowFirstWrong : ChangeSpec := { name := "windowFirst", fn := fun _ => fun
  | [d1, d2, d3] => { results := [.lit (.bool false)], args := [d1, d2, d3] }
  | _ => none }
def WindowFirstWrongFalsely : Prop := windowFirstRow.holds Tryd.pinned (OpenSpec.ofChange windowFirstWrong)

/- THE SECOND FORM. 'bulk': how many values and letters a reading holds, each counted each time it is reached (what is shared counts as often as it is met; a slice's spare places count too). A statement '..UptoSaid' is the law's where the arguments, and the package variables that the reading takes, are together of bulk at most 1048576: NARROWER than '..Said'. Prove '..Said' where nothing that the law and all that it calls make is longer than what came in: it says more and counts as full. Else prove '..UptoSaid'. A law counts once. -/
mutual
def uptoBulk {H : Type} : DataW H → Nat
  | .lit (.string bytes) => bytes.length + 1
  | .lit _ => 1
  | .nil => 1
  | .ptr d => uptoBulk d + 1
  | .slice elems spare => uptoBulkAll elems + uptoBulkAll spare + 1
  | .agg parts => uptoBulkAll parts + 1
  | .iface _ d => uptoBulk d + 1
  | .map entries => uptoBulkEntries entries + 1
  | .held _ => 1
def uptoBulkAll {H : Type} : List (DataW H) → Nat
  | [] => 0
  | d :: r => uptoBulk d + uptoBulkAll r
def uptoBulkEntries {H : Type} : List (Lit × DataW H) → Nat
  | [] => 0
  | x :: r => uptoBulkEntry x + uptoBulkEntries r
def uptoBulkEntry {H : Type} : Lit × DataW H → Nat
  | (.string bytes, d) => bytes.length + uptoBulk d + 1
  | (_, d) => uptoBulk d + 1
 end
def uptoSmall : (H : Type) → List (DataW H) → Bool := fun _ ds => decide (uptoBulkAll ds ≤ 1048576)
def OpenSpec.upto (s : _root_.Go.ChangeSpec) : _root_.Go.OpenSpec := { _root_.Go.OpenSpec.ofChange s with cond := some uptoSmall }

/-- 'newellaw14.WindowMoments', WHERE WHAT IT READS IS OF BULK AT MOST 1048576: true; the input reads as it did. -/
def windowMomentsUptoRow : OpenClaim := { program := "ytgfinnhojeghhaadoor", sum := "62ea1b82d0f57543c0dba495a9ece4a834d74d092c334b24d06fe690aba17461", func := "newel/newellaw14.WindowMoments", spec := "windowMoments", unfollowed := true, recurses := true, named := ["newel/greg.lengths"], plainKeys := false, apart := false, laid := [("newel/greg.lengths", laid_newel_greg_lengths)], narrowed := true }
def WindowMomentsUptoSaid : Prop := windowMomentsUptoRow.holds Tryd.pinned (OpenSpec.upto windowMomentsSpec)

/-- 'newellaw14.WindowLong', WHERE WHAT IT READS IS OF BULK AT MOST 1048576: true; the input reads as it did. -/
def windowLongUptoRow : OpenClaim := { program := "ytgfinnhojeghhaadoor", sum := "62ea1b82d0f57543c0dba495a9ece4a834d74d092c334b24d06fe690aba17461", func := "newel/newellaw14.WindowLong", spec := "windowLong", unfollowed := true, recurses := true, named := ["newel/greg.lengths"], plainKeys := false, apart := false, laid := [("newel/greg.lengths", laid_newel_greg_lengths)], narrowed := true }
def WindowLongUptoSaid : Prop := windowLongUptoRow.holds Tryd.pinned (OpenSpec.upto windowLongSpec)

/-- 'newellaw14.WindowRests', WHERE WHAT IT READS IS OF BULK AT MOST 1048576: true; the input reads as it did. -/
def windowRestsUptoRow : OpenClaim := { program := "ytgfinnhojeghhaadoor", sum := "62ea1b82d0f57543c0dba495a9ece4a834d74d092c334b24d06fe690aba17461", func := "newel/newellaw14.WindowRests", spec := "windowRests", unfollowed := true, recurses := true, named := ["newel/greg.lengths"], plainKeys := false, apart := false, laid := [("newel/greg.lengths", laid_newel_greg_lengths)], narrowed := true }
def WindowRestsUptoSaid : Prop := windowRestsUptoRow.holds Tryd.pinned (OpenSpec.upto windowRestsSpec)

/-- 'newellaw14.WindowApart', WHERE WHAT IT READS IS OF BULK AT MOST 1048576: true; the input reads as it did. -/
def windowApartUptoRow : OpenClaim := { program := "ytgfinnhojeghhaadoor", sum := "62ea1b82d0f57543c0dba495a9ece4a834d74d092c334b24d06fe690aba17461", func := "newel/newellaw14.WindowApart", spec := "windowApart", unfollowed := true, recurses := true, named := ["newel/greg.lengths"], plainKeys := false, apart := false, laid := [("newel/greg.lengths", laid_newel_greg_lengths)], narrowed := true }
def WindowApartUptoSaid : Prop := windowApartUptoRow.holds Tryd.pinned (OpenSpec.upto windowApartSpec)

/-- 'newellaw14.WindowFirst', WHERE WHAT IT READS IS OF BULK AT MOST 1048576: true; the input reads as it did. -/
def windowFirstUptoRow : OpenClaim := { program := "ytgfinnhojeghhaadoor", sum := "62ea1b82d0f57543c0dba495a9ece4a834d74d092c334b24d06fe690aba17461", func := "newel/newellaw14.WindowFirst", spec := "windowFirst", unfollowed := true, recurses := true, named := ["newel/greg.lengths"], plainKeys := false, apart := false, laid := [("newel/greg.lengths", laid_newel_greg_lengths)], narrowed := true }
def WindowFirstUptoSaid : Prop := windowFirstUptoRow.holds Tryd.pinned (OpenSpec.upto windowFirstSpec)

end Rows
end Go.Proofs.YtgfinnhojeghhaaDoor
