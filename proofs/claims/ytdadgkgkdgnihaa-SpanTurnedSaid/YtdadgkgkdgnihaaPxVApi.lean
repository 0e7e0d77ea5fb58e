/- The kinds of elements, and the structures that hold rows. -/
import Derived.Test.YtdadgkgkdgnihaaPxApi0
import Derived.Test.YtdadgkgkdgnihaaProg
set_option linter.unusedVariables false
set_option linter.unusedSimpArgs false
namespace Go.Proofs.Ytdadgkgkdgnihaa.Px
open Go Go.Proofs
noncomputable def src:Nat→Option (Array Tmp×Code×Code)
 |0=>vn (aG [false,true,false,true,true,true,true] (Try.f10.body.getD .skip))
 |_=>none
noncomputable instance els:aS:=uv El inferInstance El.den El.cel src
theorem dz:bd els:=wF
end Go.Proofs.Ytdadgkgkdgnihaa.Px
