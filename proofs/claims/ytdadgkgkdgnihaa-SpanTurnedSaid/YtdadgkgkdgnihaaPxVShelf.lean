/- The shelf's contracts at this seat's dump, printed by the kit's own tools. -/
import Derived.Shelf.Small.Bits
import Derived.Shelf.Small.Wraps
import Derived.Shelf.Strconv.Itoa0
import Derived.Shelf.Sort.Plain
import Derived.Ground.Names2Prog
import Derived.Shelf.Slices.CompactI
import Derived.Shelf.Slices.SearchI
import Derived.Shelf.Slices.Cells
import Derived.Shelf.Slices.In.SortNone
import Derived.Test.YtdadgkgkdgnihaaProg
set_option linter.unusedVariables false
set_option linter.unusedSimpArgs false
namespace Go.Proofs
open Go.Shelf
open Go.RowKit in
def Try.sm:Go.Shelf.Ren:=⟨fun|189=>30|125=>36|257=>35|128=>46|129=>47|294=>37|295=>38|296=>39|297=>40|298=>41|299=>42|216=>43|300=>44|301=>45|328=>48|329=>49|330=>50|331=>51|332=>52|215=>53|343=>54|n=>n,fun|28=>52|3=>3|46=>59|0=>0|51=>68|53=>70|4=>4|183=>62|182=>61|131=>48|5=>5|9=>9|218=>71|222=>75|228=>78|229=>79|n=>n,fun|n=>n⟩
theorem Try.ve:Go.Proofs.Lays.n189 Try.prog Try.sm:={
  mixed:=by kernel_rfl
  f125:=Try.func36.trans (congrArg some (by kernel_rfl))
  f128:=Try.func46.trans (congrArg some (by kernel_rfl))
  f129:=Try.func47.trans (congrArg some (by kernel_rfl))
  f189:=Try.func30.trans (congrArg some (by kernel_rfl))
  f215:=Try.func53.trans (congrArg some (by kernel_rfl))
  f216:=Try.func43.trans (congrArg some (by kernel_rfl))
  f257:=Try.func35.trans (congrArg some (by kernel_rfl))
  f294:=Try.func37.trans (congrArg some (by kernel_rfl))
  f295:=Try.func38.trans (congrArg some (by kernel_rfl))
  f296:=Try.func39.trans (congrArg some (by kernel_rfl))
  f297:=Try.func40.trans (congrArg some (by kernel_rfl))
  f298:=Try.func41.trans (congrArg some (by kernel_rfl))
  f299:=Try.func42.trans (congrArg some (by kernel_rfl))
  f300:=Try.func44.trans (congrArg some (by kernel_rfl))
  f301:=Try.func45.trans (congrArg some (by kernel_rfl))
  f328:=Try.func48.trans (congrArg some (by kernel_rfl))
  f329:=Try.func49.trans (congrArg some (by kernel_rfl))
  f330:=Try.func50.trans (congrArg some (by kernel_rfl))
  f331:=Try.func51.trans (congrArg some (by kernel_rfl))
  f332:=Try.func52.trans (congrArg some (by kernel_rfl))
  f343:=Try.func54.trans (congrArg some (by kernel_rfl))
  t0:=Try.underlying0
  a0:=Try.isAgg0
  z0:=Try.sizeOf0
  v0:=Try.zeroValue0
  t3:=Try.underlying3
  a3:=Try.isAgg3
  z3:=Try.sizeOf3
  v3:=Try.zeroValue3
  t4:=Try.underlying4
  a4:=Try.isAgg4
  z4:=Try.sizeOf4
  v4:=Try.zeroValue4
  t5:=Try.underlying5
  a5:=Try.isAgg5
  z5:=Try.sizeOf5
  v5:=Try.zeroValue5
  t9:=Try.underlying9
  a9:=Try.isAgg9
  z9:=Try.sizeOf9
  v9:=Try.zeroValue9
  t28:=Try.underlying52
  a28:=Try.isAgg52
  z28:=Try.sizeOf52
  v28:=Try.zeroValue52
  t46:=Try.underlying59
  a46:=Try.isAgg59
  z46:=Try.sizeOf59
  v46:=Try.zeroValue59
  t51:=Try.underlying68
  a51:=Try.isAgg68
  z51:=Try.sizeOf68
  v51:=Try.zeroValue68
  t53:=Try.underlying70
  a53:=Try.isAgg70
  z53:=Try.sizeOf70
  v53:=Try.zeroValue70
  t131:=Try.underlying48
  a131:=Try.isAgg48
  z131:=Try.sizeOf48
  v131:=Try.zeroValue48
  t182:=Try.underlying61
  a182:=Try.isAgg61
  z182:=Try.sizeOf61
  v182:=Try.zeroValue61
  t183:=Try.underlying62
  a183:=Try.isAgg62
  z183:=Try.sizeOf62
  v183:=Try.zeroValue62
  t218:=Try.underlying71
  a218:=Try.isAgg71
  z218:=Try.sizeOf71
  v218:=Try.zeroValue71
  t222:=Try.underlying75
  a222:=Try.isAgg75
  z222:=Try.sizeOf75
  v222:=Try.zeroValue75
  t228:=Try.underlying78
  a228:=Try.isAgg78
  z228:=Try.sizeOf78
  v228:=Try.zeroValue78
  t229:=Try.underlying79
  a229:=Try.isAgg79
  z229:=Try.sizeOf79
  v229:=Try.zeroValue79}
open Go.Sort Go.RowKit in
theorem Try.slices_Sort_int (blk off cap:Nat) (zs:List Int) (w:World) (hH:Holds (Value.int .i64) w blk off zs.toArray) (hblk:blk<w.heap.size) (hsz:zs.length<4611686018427387904):
    Calls Try.prog 30 #[.slice (some ⟨blk,off,none⟩) zs.length cap] w fun e w'=>
      e= .returned (.tuple #[])∧∃n os,w'=grow (putRow (Value.int .i64) (Sort.ahead w n) blk off (zs.mergeSort fun x y=>decide (x≤y)).toArray) os:=Any.slices_Sort_int Try.ve blk off cap zs w hH hblk hsz
def Try.pf:Go.Shelf.Ren:=⟨fun|20=>31|n=>n,fun|22=>52|3=>3|4=>4|0=>0|n=>n,fun|n=>n⟩
theorem Try.pN:Go.Proofs.Lays2.n20 Try.prog Try.pf:={
  mixed:=by kernel_rfl
  f20:=Try.func31.trans (congrArg some (by kernel_rfl))
  t0:=Try.underlying0
  a0:=Try.isAgg0
  z0:=Try.sizeOf0
  v0:=Try.zeroValue0
  t3:=Try.underlying3
  a3:=Try.isAgg3
  z3:=Try.sizeOf3
  v3:=Try.zeroValue3
  t4:=Try.underlying4
  a4:=Try.isAgg4
  z4:=Try.sizeOf4
  v4:=Try.zeroValue4
  t22:=Try.underlying52
  a22:=Try.isAgg52
  z22:=Try.sizeOf52
  v22:=Try.zeroValue52
  i3:=by kernel_rfl}
open Go.RowKit Go.Lib Go.Sort in
open Go.RowKit Go.Lib Go.Sort in
/-- slices.Compact at []int: "Compact replaces consecutive runs of equal elements with a single copy. This is like the uniq command found on Unix. Compact modifies the contents of the slice s and returns the modified slice, which may have a smaller length. Compact zeroes the elements between the new length and the original length. The result preserves the nilness of s.": IT RETURNS THE SLICE CUT TO 'Lib.compact zs'; ITS CELLS HOLD 'Lib.compact zs', THEN ZERO VALUES up to the old length; all else is as it was, but for the count of draws. IN THE WORDS OF slices.Sort's CONTRACT ('Holds', 'putRow'): so the everyday 'slices.Sort(xs); xs = slices.Compact(xs)' goes from the one contract to the other. It asks 'zs.length ≤ cap' (every slice's: the reslicing 's[:k]' looks at it). Length 0, nil: '.._empty'. (LAID: no walk: one application.) -/
theorem Try.slices_Compact_int (blk off cap:Nat) (zs:List Int) (w:World) (hH:Holds (Value.int .i64) w blk off zs.toArray) (hsz:zs.length≤9223372036854775807) (hcap:zs.length≤cap):
    Calls Try.prog 31 #[.slice (some ⟨blk,off,none⟩) zs.length cap] w fun e w'=>e= .returned (.slice (some ⟨blk,off,none⟩) (Lib.compact zs).length cap)∧∃q,w'=putRow (Value.int .i64) (Sort.ahead w q) blk off (Lib.compact zs++List.replicate (zs.length-(Lib.compact zs).length) 0).toArray:=Any.slices_Compact_int Try.pN blk off cap zs w hH hsz hcap
open Go.RowKit Go.Lib Go.Sort in
/-- The same at a slice of length 0, a nil one too: it comes back as it is. (LAID: no walk: one application.) -/
theorem Try.slices_Compact_int_empty (a:Option Addr) (cap:Nat) (w:World):
    Calls Try.prog 31 #[.slice a 0 cap] w fun e w'=>e= .returned (.slice a 0 cap)∧w'=w:=Any.slices_Compact_int_empty Try.pN a cap w
open Go.RowKit Go.Lib in
open Go.RowKit Go.Lib in
open Go.RowKit Go.Lib Go.Sort in
open Go.RowKit Go.Sort in
/-- .. and plain. (LAID: no walk: one application.) -/
theorem Try.slices_Sort_int_none (p:Option Addr) (cap:Nat) (w:World):
    Calls Try.prog 30 #[.slice p 0 cap] w fun e w'=>e= .returned (.tuple #[])∧w'=w:=Any.slices_Sort_int_none Try.ve p cap w
end Go.Proofs
