/- Days and dates, as plain functions. -/
import Derived.Test.YtdadgkgkdgnihaaPxApi0
import Derived.Test.YtdadgkgkdgnihaaPxSpecConfig
import Derived.IntWalk
set_option linter.unusedVariables false
set_option linter.unusedSimpArgs false
namespace Go.Proofs.Ytdadgkgkdgnihaa.Px
open Go
def wr (n:Int):Int:=IntKind.wrap IntKind.i64 n
theorem wrI {n:Int} (h: -9223372036854775808≤n∧n≤9223372036854775807):IntKind.wrap IntKind.i64 n=n:=IntWalk.i64_in _ (by omega)
end Go.Proofs.Ytdadgkgkdgnihaa.Px
namespace Go.Proofs.Ytdadgkgkdgnihaa.Px
open Go
def lit (n:Int):Bool:=decide (-100000≤n)&&decide (n≤100000)
end Go.Proofs.Ytdadgkgkdgnihaa.Px
