/-
  No cell of these rows narrows 'for every input' (looked for: loops, veiled, ifaces, maps, wideKeys, modest, calm, conditions, laid).
  DERIVED. THE GIVEN ROWS OF THIS SEAT. 6 by the template 'for every input the law returns true; each argument reads behind the call as it read before'; 0 by the template 'total and deterministic' (their statements: YtchmdbfcmcoohaaTotals.lean).
  GIVEN WITH THE SEED: the statements are not yours to turn. If you find one false, say at which input.
  Laid BY PROGRAM, IN A SANDBOX (cutbox-rows.mjs): the forced cells as the released guide's own fill.sh prints them over the translation beaad57ffe00b441… (all of the seat's roots in one cut). By AI agents, Wed Nov 11 2026. No macro, syntax, notation, axiom, sorry.
-/
import Derived.Test.YtchmdbfcmcoohaaChecked
import GoSem.Claim
import GoSem.ClaimJoined
import GoSem.ClaimMapViews
import Derived.JoinedTies
import Derived.KernelRfl
namespace Go.Proofs.Ytchmdbfcmcoohaa
/- THE CELL 'sum', in the pinned program and in every row, IS THE sha256 OF THE DUMP (.gsa) THAT YtchmdbfcmcoohaaProg.lean LOADS. Nothing in Lean hashes anything: it is a label: what it is worth is what the hold of that sum in a sandbox is worth. -/
noncomputable def Try.pinned : Pinned := { name := "ytchmdbfcmcoohaa", sum := "beaad57ffe00b4417504762053c19733a048d3335362d2688fecb070836ec09e", checked := Try.checked }
namespace Rows
def none {H : Type} : Left H := { results := [], args := [] }

/-- 'newellaw10.ConfigChecks': WHATEVER THE INPUT: true; the input reads as it did. -/
def configChecksSpec : ChangeSpec := { name := "configChecks", fn := fun _ => fun
  | [d1, d2] => { results := [.lit (.bool true)], args := [d1, d2] }
  | _ => none }
def configChecksRow : OpenClaim := { program := "ytchmdbfcmcoohaa", sum := "beaad57ffe00b4417504762053c19733a048d3335362d2688fecb070836ec09e", func := "newel/newellaw10.ConfigChecks", spec := "configChecks", unfollowed := true, recurses := true, apart := false }
def ConfigChecksSaid : Prop := configChecksRow.holds Try.pinned (OpenSpec.ofChange configChecksSpec)

/-- ITS FALSE NEIGHBOUR: 'it returns false'. Refute it at one input. -/
def configChecksWrong : ChangeSpec := { name := "configChecks", fn := fun _ => fun
  | [d1, d2] => { results := [.lit (.bool false)], args := [d1, d2] }
  | _ => none }
def ConfigChecksWrongFalsely : Prop := configChecksRow.holds Try.pinned (OpenSpec.ofChange configChecksWrong)

/-- 'newellaw10.ConfigSame': WHATEVER THE INPUT: true; the input reads as it did. -/
def configSameSpec : ChangeSpec := { name := "configSame", fn := fun _ => fun
  | [d1, d2] => { results := [.lit (.bool true)], args := [d1, d2] }
  | _ => none }
def configSameRow : OpenClaim := { program := "ytchmdbfcmcoohaa", sum := "beaad57ffe00b4417504762053c19733a048d3335362d2688fecb070836ec09e", func := "newel/newellaw10.ConfigSame", spec := "configSame", unfollowed := true, recurses := true, apart := false }
def ConfigSameSaid : Prop := configSameRow.holds Try.pinned (OpenSpec.ofChange configSameSpec)

/-- ITS FALSE NEIGHBOUR: 'it returns false'. Refute it at one input. -/
def configSameWrong : ChangeSpec := { name := "configSame", fn := fun _ => fun
  | [d1, d2] => { results := [.lit (.bool false)], args := [d1, d2] }
  | _ => none }
def ConfigSameWrongFalsely : Prop := configSameRow.holds Try.pinned (OpenSpec.ofChange configSameWrong)

/-- 'newellaw10.ConfigMore': WHATEVER THE INPUT: true; the input reads as it did. -/
def configMoreSpec : ChangeSpec := { name := "configMore", fn := fun _ => fun
  | [d1, d2] => { results := [.lit (.bool true)], args := [d1, d2] }
  | _ => none }
def configMoreRow : OpenClaim := { program := "ytchmdbfcmcoohaa", sum := "beaad57ffe00b4417504762053c19733a048d3335362d2688fecb070836ec09e", func := "newel/newellaw10.ConfigMore", spec := "configMore", unfollowed := true, recurses := true, apart := false }
def ConfigMoreSaid : Prop := configMoreRow.holds Try.pinned (OpenSpec.ofChange configMoreSpec)

/-- ITS FALSE NEIGHBOUR: 'it returns false'. Refute it at one input. -/
def configMoreWrong : ChangeSpec := { name := "configMore", fn := fun _ => fun
  | [d1, d2] => { results := [.lit (.bool false)], args := [d1, d2] }
  | _ => none }
def ConfigMoreWrongFalsely : Prop := configMoreRow.holds Try.pinned (OpenSpec.ofChange configMoreWrong)

/-- 'newellaw10.ConfigFewer': WHATEVER THE INPUT: true; the input reads as it did. -/
def configFewerSpec : ChangeSpec := { name := "configFewer", fn := fun _ => fun
  | [d1, d2] => { results := [.lit (.bool true)], args := [d1, d2] }
  | _ => none }
def configFewerRow : OpenClaim := { program := "ytchmdbfcmcoohaa", sum := "beaad57ffe00b4417504762053c19733a048d3335362d2688fecb070836ec09e", func := "newel/newellaw10.ConfigFewer", spec := "configFewer", unfollowed := true, recurses := true, apart := false }
def ConfigFewerSaid : Prop := configFewerRow.holds Try.pinned (OpenSpec.ofChange configFewerSpec)

/-- ITS FALSE NEIGHBOUR: 'it returns false'. Refute it at one input. -/
def configFewerWrong : ChangeSpec := { name := "configFewer", fn := fun _ => fun
  | [d1, d2] => { results := [.lit (.bool false)], args := [d1, d2] }
  | _ => none }
def ConfigFewerWrongFalsely : Prop := configFewerRow.holds Try.pinned (OpenSpec.ofChange configFewerWrong)

/-- 'newellaw10.ConfigFirst': WHATEVER THE INPUT: true; the input reads as it did. -/
def configFirstSpec : ChangeSpec := { name := "configFirst", fn := fun _ => fun
  | [d1, d2] => { results := [.lit (.bool true)], args := [d1, d2] }
  | _ => none }
def configFirstRow : OpenClaim := { program := "ytchmdbfcmcoohaa", sum := "beaad57ffe00b4417504762053c19733a048d3335362d2688fecb070836ec09e", func := "newel/newellaw10.ConfigFirst", spec := "configFirst", unfollowed := true, recurses := true, apart := false }
def ConfigFirstSaid : Prop := configFirstRow.holds Try.pinned (OpenSpec.ofChange configFirstSpec)

/-- ITS FALSE NEIGHBOUR: 'it returns false'. Refute it at one input. -/
def configFirstWrong : ChangeSpec := { name := "configFirst", fn := fun _ => fun
  | [d1, d2] => { results := [.lit (.bool false)], args := [d1, d2] }
  | _ => none }
def ConfigFirstWrongFalsely : Prop := configFirstRow.holds Try.pinned (OpenSpec.ofChange configFirstWrong)

/-- 'newellaw10.ConfigTimes': WHATEVER THE INPUT: true; the input reads as it did. -/
def configTimesSpec : ChangeSpec := { name := "configTimes", fn := fun _ => fun
  | [d1, d2] => { results := [.lit (.bool true)], args := [d1, d2] }
  | _ => none }
def configTimesRow : OpenClaim := { program := "ytchmdbfcmcoohaa", sum := "beaad57ffe00b4417504762053c19733a048d3335362d2688fecb070836ec09e", func := "newel/newellaw10.ConfigTimes", spec := "configTimes", unfollowed := true, recurses := true, apart := false }
def ConfigTimesSaid : Prop := configTimesRow.holds Try.pinned (OpenSpec.ofChange configTimesSpec)

/-- ITS FALSE NEIGHBOUR: 'it returns false'. Refute it at one input. -/
def configTimesWrong : ChangeSpec := { name := "configTimes", fn := fun _ => fun
  | [d1, d2] => { results := [.lit (.bool false)], args := [d1, d2] }
  | _ => none }
def ConfigTimesWrongFalsely : Prop := configTimesRow.holds Try.pinned (OpenSpec.ofChange configTimesWrong)

/- THE SECOND FORM. 'bulk': how many values and letters a reading holds, each counted each time it is reached (what is shared counts as often as it is met; a slice's spare places count too). A statement '..UptoSaid' is the law's where the arguments, and the package variables that the reading takes, are together of bulk at most 1048576: NARROWER than '..Said'. Prove '..Said' where nothing that the law and all that it calls make is longer than what came in: it says more and counts as full. Else prove '..UptoSaid'. A law counts once. -/
mutual
def uptoBulk {H : Type} : DataW H → Nat
  | .lit (.string bytes) => bytes.length + 1
  | .lit _ => 1
  | .nil => 1
  | .ptr d => uptoBulk d + 1
  | .slice elems spare => uptoBulkAll elems + uptoBulkAll spare + 1
  | .agg parts => uptoBulkAll parts + 1
  | .iface _ d => uptoBulk d + 1
  | .map entries => uptoBulkEntries entries + 1
  | .held _ => 1
def uptoBulkAll {H : Type} : List (DataW H) → Nat
  | [] => 0
  | d :: r => uptoBulk d + uptoBulkAll r
def uptoBulkEntries {H : Type} : List (Lit × DataW H) → Nat
  | [] => 0
  | x :: r => uptoBulkEntry x + uptoBulkEntries r
def uptoBulkEntry {H : Type} : Lit × DataW H → Nat
  | (.string bytes, d) => bytes.length + uptoBulk d + 1
  | (_, d) => uptoBulk d + 1
 end
def uptoSmall : (H : Type) → List (DataW H) → Bool := fun _ ds => decide (uptoBulkAll ds ≤ 1048576)
def OpenSpec.upto (s : _root_.Go.ChangeSpec) : _root_.Go.OpenSpec := { _root_.Go.OpenSpec.ofChange s with cond := some uptoSmall }

/-- 'newellaw10.ConfigChecks', WHERE WHAT IT READS IS OF BULK AT MOST 1048576: true; the input reads as it did. -/
def configChecksUptoRow : OpenClaim := { program := "ytchmdbfcmcoohaa", sum := "beaad57ffe00b4417504762053c19733a048d3335362d2688fecb070836ec09e", func := "newel/newellaw10.ConfigChecks", spec := "configChecks", unfollowed := true, recurses := true, apart := false, narrowed := true }
def ConfigChecksUptoSaid : Prop := configChecksUptoRow.holds Try.pinned (OpenSpec.upto configChecksSpec)

/-- 'newellaw10.ConfigSame', WHERE WHAT IT READS IS OF BULK AT MOST 1048576: true; the input reads as it did. -/
def configSameUptoRow : OpenClaim := { program := "ytchmdbfcmcoohaa", sum := "beaad57ffe00b4417504762053c19733a048d3335362d2688fecb070836ec09e", func := "newel/newellaw10.ConfigSame", spec := "configSame", unfollowed := true, recurses := true, apart := false, narrowed := true }
def ConfigSameUptoSaid : Prop := configSameUptoRow.holds Try.pinned (OpenSpec.upto configSameSpec)

/-- 'newellaw10.ConfigMore', WHERE WHAT IT READS IS OF BULK AT MOST 1048576: true; the input reads as it did. -/
def configMoreUptoRow : OpenClaim := { program := "ytchmdbfcmcoohaa", sum := "beaad57ffe00b4417504762053c19733a048d3335362d2688fecb070836ec09e", func := "newel/newellaw10.ConfigMore", spec := "configMore", unfollowed := true, recurses := true, apart := false, narrowed := true }
def ConfigMoreUptoSaid : Prop := configMoreUptoRow.holds Try.pinned (OpenSpec.upto configMoreSpec)

/-- 'newellaw10.ConfigFewer', WHERE WHAT IT READS IS OF BULK AT MOST 1048576: true; the input reads as it did. -/
def configFewerUptoRow : OpenClaim := { program := "ytchmdbfcmcoohaa", sum := "beaad57ffe00b4417504762053c19733a048d3335362d2688fecb070836ec09e", func := "newel/newellaw10.ConfigFewer", spec := "configFewer", unfollowed := true, recurses := true, apart := false, narrowed := true }
def ConfigFewerUptoSaid : Prop := configFewerUptoRow.holds Try.pinned (OpenSpec.upto configFewerSpec)

/-- 'newellaw10.ConfigFirst', WHERE WHAT IT READS IS OF BULK AT MOST 1048576: true; the input reads as it did. -/
def configFirstUptoRow : OpenClaim := { program := "ytchmdbfcmcoohaa", sum := "beaad57ffe00b4417504762053c19733a048d3335362d2688fecb070836ec09e", func := "newel/newellaw10.ConfigFirst", spec := "configFirst", unfollowed := true, recurses := true, apart := false, narrowed := true }
def ConfigFirstUptoSaid : Prop := configFirstUptoRow.holds Try.pinned (OpenSpec.upto configFirstSpec)

/-- 'newellaw10.ConfigTimes', WHERE WHAT IT READS IS OF BULK AT MOST 1048576: true; the input reads as it did. -/
def configTimesUptoRow : OpenClaim := { program := "ytchmdbfcmcoohaa", sum := "beaad57ffe00b4417504762053c19733a048d3335362d2688fecb070836ec09e", func := "newel/newellaw10.ConfigTimes", spec := "configTimes", unfollowed := true, recurses := true, apart := false, narrowed := true }
def ConfigTimesUptoSaid : Prop := configTimesUptoRow.holds Try.pinned (OpenSpec.upto configTimesSpec)

end Rows
end Go.Proofs.Ytchmdbfcmcoohaa
