/- Configurations: what may be. -/
import Derived.Test.YtdadgkgkdgnihaaPxApi0
set_option linter.unusedVariables false
set_option linter.unusedSimpArgs false
namespace Go.Proofs.Ytdadgkgkdgnihaa.Px
open Go
def inB (n a b:Int):Bool:=decide (a≤n)&&decide (n≤b)
def apart (a b:Int):Int:=if a≤b then b-a else a-b
end Go.Proofs.Ytdadgkgkdgnihaa.Px
namespace Go.Proofs.Ytdadgkgkdgnihaa.Px
open Go
end Go.Proofs.Ytdadgkgkdgnihaa.Px
