/-
  No cell of these rows narrows 'for every input' (looked for: loops, veiled, ifaces, maps, wideKeys, modest, calm, conditions, laid).
  DERIVED. THE GIVEN ROWS OF THIS SEAT. 6 by the template 'for every input the law returns true; each argument reads behind the call as it read before'; 0 by the template 'total and deterministic' (their statements: YtdpdmjjpdebpeaaTotals.lean).
  GIVEN WITH THE SEED: the statements are not yours to turn. If you find one false, say at which input.
  Laid BY PROGRAM, IN A SANDBOX (cutbox-rows.mjs): the forced cells as the released guide's own fill.sh prints them over the translation 30caa8c370f3e902… (all of the seat's roots in one cut). By AI agents, Wed Nov 11 2026. No macro, syntax, notation, axiom, sorry.
-/
import Derived.Test.YtdpdmjjpdebpeaaChecked
import GoSem.Claim
import GoSem.ClaimJoined
import GoSem.ClaimMapViews
import Derived.JoinedTies
import Derived.KernelRfl
namespace Go.Proofs.Ytdpdmjjpdebpeaa
/- THE CELL 'sum', in the pinned program and in every row, IS THE sha256 OF THE DUMP (.gsa) THAT YtdpdmjjpdebpeaaProg.lean LOADS. Nothing in Lean hashes anything: it is a label: what it is worth is what the hold of that sum in a sandbox is worth. -/
noncomputable def Try.pinned : Pinned := { name := "ytdpdmjjpdebpeaa", sum := "30caa8c370f3e9025cdd93d44070a171b55dccd1cc02a672a7108147123ce32f", checked := Try.checked }
namespace Rows
def none {H : Type} : Left H := { results := [], args := [] }

/-- 'newellaw23.AutoTells': WHATEVER THE INPUT: true; the input reads as it did. -/
def autoTellsSpec : ChangeSpec := { name := "autoTells", fn := fun _ => fun
  | [d1, d2, d3] => { results := [.lit (.bool true)], args := [d1, d2, d3] }
  | _ => none }
def autoTellsRow : OpenClaim := { program := "ytdpdmjjpdebpeaa", sum := "30caa8c370f3e9025cdd93d44070a171b55dccd1cc02a672a7108147123ce32f", func := "newel/newellaw23.AutoTells", spec := "autoTells", unfollowed := true, recurses := true, apart := false }
def AutoTellsSaid : Prop := autoTellsRow.holds Try.pinned (OpenSpec.ofChange autoTellsSpec)

/-- ITS FALSE NEIGHBOUR: 'it returns false'. Refute it at one input. -/
def autoTellsWrong : ChangeSpec := { name := "autoTells", fn := fun _ => fun
  | [d1, d2, d3] => { results := [.lit (.bool false)], args := [d1, d2, d3] }
  | _ => none }
def AutoTellsWrongFalsely : Prop := autoTellsRow.holds Try.pinned (OpenSpec.ofChange autoTellsWrong)

/-- 'newellaw23.AutoDeaf': WHATEVER THE INPUT: true; the input reads as it did. -/
def autoDeafSpec : ChangeSpec := { name := "autoDeaf", fn := fun _ => fun
  | [d1, d2] => { results := [.lit (.bool true)], args := [d1, d2] }
  | _ => none }
def autoDeafRow : OpenClaim := { program := "ytdpdmjjpdebpeaa", sum := "30caa8c370f3e9025cdd93d44070a171b55dccd1cc02a672a7108147123ce32f", func := "newel/newellaw23.AutoDeaf", spec := "autoDeaf", unfollowed := true, recurses := true, apart := false }
def AutoDeafSaid : Prop := autoDeafRow.holds Try.pinned (OpenSpec.ofChange autoDeafSpec)

/-- ITS FALSE NEIGHBOUR: 'it returns false'. Refute it at one input. -/
def autoDeafWrong : ChangeSpec := { name := "autoDeaf", fn := fun _ => fun
  | [d1, d2] => { results := [.lit (.bool false)], args := [d1, d2] }
  | _ => none }
def AutoDeafWrongFalsely : Prop := autoDeafRow.holds Try.pinned (OpenSpec.ofChange autoDeafWrong)

/-- 'newellaw23.AutoStays': WHATEVER THE INPUT: true; the input reads as it did. -/
def autoStaysSpec : ChangeSpec := { name := "autoStays", fn := fun _ => fun
  | [d1, d2] => { results := [.lit (.bool true)], args := [d1, d2] }
  | _ => none }
def autoStaysRow : OpenClaim := { program := "ytdpdmjjpdebpeaa", sum := "30caa8c370f3e9025cdd93d44070a171b55dccd1cc02a672a7108147123ce32f", func := "newel/newellaw23.AutoStays", spec := "autoStays", unfollowed := true, recurses := true, apart := false }
def AutoStaysSaid : Prop := autoStaysRow.holds Try.pinned (OpenSpec.ofChange autoStaysSpec)

/-- ITS FALSE NEIGHBOUR: 'it returns false'. Refute it at one input. -/
def autoStaysWrong : ChangeSpec := { name := "autoStays", fn := fun _ => fun
  | [d1, d2] => { results := [.lit (.bool false)], args := [d1, d2] }
  | _ => none }
def AutoStaysWrongFalsely : Prop := autoStaysRow.holds Try.pinned (OpenSpec.ofChange autoStaysWrong)

/-- 'newellaw23.AutoSettles': WHATEVER THE INPUT: true; the input reads as it did. -/
def autoSettlesSpec : ChangeSpec := { name := "autoSettles", fn := fun _ => fun
  | [d1, d2] => { results := [.lit (.bool true)], args := [d1, d2] }
  | _ => none }
def autoSettlesRow : OpenClaim := { program := "ytdpdmjjpdebpeaa", sum := "30caa8c370f3e9025cdd93d44070a171b55dccd1cc02a672a7108147123ce32f", func := "newel/newellaw23.AutoSettles", spec := "autoSettles", unfollowed := true, recurses := true, apart := false }
def AutoSettlesSaid : Prop := autoSettlesRow.holds Try.pinned (OpenSpec.ofChange autoSettlesSpec)

/-- ITS FALSE NEIGHBOUR: 'it returns false'. Refute it at one input. -/
def autoSettlesWrong : ChangeSpec := { name := "autoSettles", fn := fun _ => fun
  | [d1, d2] => { results := [.lit (.bool false)], args := [d1, d2] }
  | _ => none }
def AutoSettlesWrongFalsely : Prop := autoSettlesRow.holds Try.pinned (OpenSpec.ofChange autoSettlesWrong)

/-- 'newellaw23.AutoSame': WHATEVER THE INPUT: true; the input reads as it did. -/
def autoSameSpec : ChangeSpec := { name := "autoSame", fn := fun _ => fun
  | [d] => { results := [.lit (.bool true)], args := [d] }
  | _ => none }
def autoSameRow : OpenClaim := { program := "ytdpdmjjpdebpeaa", sum := "30caa8c370f3e9025cdd93d44070a171b55dccd1cc02a672a7108147123ce32f", func := "newel/newellaw23.AutoSame", spec := "autoSame", unfollowed := true, recurses := true, apart := false }
def AutoSameSaid : Prop := autoSameRow.holds Try.pinned (OpenSpec.ofChange autoSameSpec)

/-- ITS FALSE NEIGHBOUR: 'it returns false'. Refute it at one input. -/
def autoSameWrong : ChangeSpec := { name := "autoSame", fn := fun _ => fun
  | [d] => { results := [.lit (.bool false)], args := [d] }
  | _ => none }
def AutoSameWrongFalsely : Prop := autoSameRow.holds Try.pinned (OpenSpec.ofChange autoSameWrong)

/-- 'newellaw23.AutoRound': WHATEVER THE INPUT: true; the input reads as it did. -/
def autoRoundSpec : ChangeSpec := { name := "autoRound", fn := fun _ => fun
  | [d1, d2] => { results := [.lit (.bool true)], args := [d1, d2] }
  | _ => none }
def autoRoundRow : OpenClaim := { program := "ytdpdmjjpdebpeaa", sum := "30caa8c370f3e9025cdd93d44070a171b55dccd1cc02a672a7108147123ce32f", func := "newel/newellaw23.AutoRound", spec := "autoRound", unfollowed := true, recurses := true, apart := false }
def AutoRoundSaid : Prop := autoRoundRow.holds Try.pinned (OpenSpec.ofChange autoRoundSpec)

/-- ITS FALSE NEIGHBOUR: 'it returns false'. Refute it at one input. -/
def autoRoundWrong : ChangeSpec := { name := "autoRound", fn := fun _ => fun
  | [d1, d2] => { results := [.lit (.bool false)], args := [d1, d2] }
  | _ => none }
def AutoRoundWrongFalsely : Prop := autoRoundRow.holds Try.pinned (OpenSpec.ofChange autoRoundWrong)

/- THE SECOND FORM. 'bulk': how many values and letters a reading holds, each counted each time it is reached (what is shared counts as often as it is met; a slice's spare places count too). A statement '..UptoSaid' is the law's where the arguments, and the package variables that the reading takes, are together of bulk at most 1048576: NARROWER than '..Said'. Prove '..Said' where nothing that the law and all that it calls make is longer than what came in: it says more and counts as full. Else prove '..UptoSaid'. A law counts once. -/
mutual
def uptoBulk {H : Type} : DataW H → Nat
  | .lit (.string bytes) => bytes.length + 1
  | .lit _ => 1
  | .nil => 1
  | .ptr d => uptoBulk d + 1
  | .slice elems spare => uptoBulkAll elems + uptoBulkAll spare + 1
  | .agg parts => uptoBulkAll parts + 1
  | .iface _ d => uptoBulk d + 1
  | .map entries => uptoBulkEntries entries + 1
  | .held _ => 1
def uptoBulkAll {H : Type} : List (DataW H) → Nat
  | [] => 0
  | d :: r => uptoBulk d + uptoBulkAll r
def uptoBulkEntries {H : Type} : List (Lit × DataW H) → Nat
  | [] => 0
  | x :: r => uptoBulkEntry x + uptoBulkEntries r
def uptoBulkEntry {H : Type} : Lit × DataW H → Nat
  | (.string bytes, d) => bytes.length + uptoBulk d + 1
  | (_, d) => uptoBulk d + 1
 end
def uptoSmall : (H : Type) → List (DataW H) → Bool := fun _ ds => decide (uptoBulkAll ds ≤ 1048576)
def OpenSpec.upto (s : _root_.Go.ChangeSpec) : _root_.Go.OpenSpec := { _root_.Go.OpenSpec.ofChange s with cond := some uptoSmall }

/-- 'newellaw23.AutoTells', WHERE WHAT IT READS IS OF BULK AT MOST 1048576: true; the input reads as it did. -/
def autoTellsUptoRow : OpenClaim := { program := "ytdpdmjjpdebpeaa", sum := "30caa8c370f3e9025cdd93d44070a171b55dccd1cc02a672a7108147123ce32f", func := "newel/newellaw23.AutoTells", spec := "autoTells", unfollowed := true, recurses := true, apart := false, narrowed := true }
def AutoTellsUptoSaid : Prop := autoTellsUptoRow.holds Try.pinned (OpenSpec.upto autoTellsSpec)

/-- 'newellaw23.AutoDeaf', WHERE WHAT IT READS IS OF BULK AT MOST 1048576: true; the input reads as it did. -/
def autoDeafUptoRow : OpenClaim := { program := "ytdpdmjjpdebpeaa", sum := "30caa8c370f3e9025cdd93d44070a171b55dccd1cc02a672a7108147123ce32f", func := "newel/newellaw23.AutoDeaf", spec := "autoDeaf", unfollowed := true, recurses := true, apart := false, narrowed := true }
def AutoDeafUptoSaid : Prop := autoDeafUptoRow.holds Try.pinned (OpenSpec.upto autoDeafSpec)

/-- 'newellaw23.AutoStays', WHERE WHAT IT READS IS OF BULK AT MOST 1048576: true; the input reads as it did. -/
def autoStaysUptoRow : OpenClaim := { program := "ytdpdmjjpdebpeaa", sum := "30caa8c370f3e9025cdd93d44070a171b55dccd1cc02a672a7108147123ce32f", func := "newel/newellaw23.AutoStays", spec := "autoStays", unfollowed := true, recurses := true, apart := false, narrowed := true }
def AutoStaysUptoSaid : Prop := autoStaysUptoRow.holds Try.pinned (OpenSpec.upto autoStaysSpec)

/-- 'newellaw23.AutoSettles', WHERE WHAT IT READS IS OF BULK AT MOST 1048576: true; the input reads as it did. -/
def autoSettlesUptoRow : OpenClaim := { program := "ytdpdmjjpdebpeaa", sum := "30caa8c370f3e9025cdd93d44070a171b55dccd1cc02a672a7108147123ce32f", func := "newel/newellaw23.AutoSettles", spec := "autoSettles", unfollowed := true, recurses := true, apart := false, narrowed := true }
def AutoSettlesUptoSaid : Prop := autoSettlesUptoRow.holds Try.pinned (OpenSpec.upto autoSettlesSpec)

/-- 'newellaw23.AutoSame', WHERE WHAT IT READS IS OF BULK AT MOST 1048576: true; the input reads as it did. -/
def autoSameUptoRow : OpenClaim := { program := "ytdpdmjjpdebpeaa", sum := "30caa8c370f3e9025cdd93d44070a171b55dccd1cc02a672a7108147123ce32f", func := "newel/newellaw23.AutoSame", spec := "autoSame", unfollowed := true, recurses := true, apart := false, narrowed := true }
def AutoSameUptoSaid : Prop := autoSameUptoRow.holds Try.pinned (OpenSpec.upto autoSameSpec)

/-- 'newellaw23.AutoRound', WHERE WHAT IT READS IS OF BULK AT MOST 1048576: true; the input reads as it did. -/
def autoRoundUptoRow : OpenClaim := { program := "ytdpdmjjpdebpeaa", sum := "30caa8c370f3e9025cdd93d44070a171b55dccd1cc02a672a7108147123ce32f", func := "newel/newellaw23.AutoRound", spec := "autoRound", unfollowed := true, recurses := true, apart := false, narrowed := true }
def AutoRoundUptoSaid : Prop := autoRoundUptoRow.holds Try.pinned (OpenSpec.upto autoRoundSpec)

end Rows
end Go.Proofs.Ytdpdmjjpdebpeaa
