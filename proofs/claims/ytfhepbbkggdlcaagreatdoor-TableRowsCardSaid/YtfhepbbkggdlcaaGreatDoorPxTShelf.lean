/- The shelf's contracts at this seat's dump, printed by the kit's own tools. -/
import Derived.Shelf.Small.Bits
import Derived.Shelf.Small.Wraps
import Derived.Shelf.Strconv.Itoa0
import Derived.Shelf.Sort.Plain
import Derived.Ground.Names2Prog
import Derived.Shelf.Slices.CompactI
import Derived.Shelf.Slices.SearchI
import Derived.Shelf.Slices.Cells
import Derived.Shelf.Slices.In.SortNone
import Derived.Test.YtfhepbbkggdlcaaGreatDoorProg
set_option linter.unusedVariables false
set_option linter.unusedSimpArgs false
namespace Go.Proofs
open Go.Shelf
open Go.RowKit in
def Tryz.JR:Go.Shelf.Ren:=⟨fun|189=>109|125=>121|257=>120|128=>138|129=>139|294=>129|295=>130|296=>131|297=>132|298=>133|299=>134|216=>135|300=>136|301=>137|328=>144|329=>145|330=>146|331=>147|332=>148|215=>149|343=>152|n=>n,fun|28=>22|3=>3|46=>130|0=>0|51=>160|53=>162|4=>4|183=>154|182=>153|131=>105|5=>5|9=>9|218=>166|222=>170|228=>173|229=>174|n=>n,fun|n=>n⟩
theorem Tryz.L9:Go.Proofs.Lays.n189 Tryz.prog Tryz.JR:={
  mixed:=by kernel_rfl
  f125:=Tryz.func121.trans (congrArg some (by kernel_rfl))
  f128:=Tryz.func138.trans (congrArg some (by kernel_rfl))
  f129:=Tryz.func139.trans (congrArg some (by kernel_rfl))
  f189:=Tryz.func109.trans (congrArg some (by kernel_rfl))
  f215:=Tryz.func149.trans (congrArg some (by kernel_rfl))
  f216:=Tryz.func135.trans (congrArg some (by kernel_rfl))
  f257:=Tryz.func120.trans (congrArg some (by kernel_rfl))
  f294:=Tryz.func129.trans (congrArg some (by kernel_rfl))
  f295:=Tryz.func130.trans (congrArg some (by kernel_rfl))
  f296:=Tryz.func131.trans (congrArg some (by kernel_rfl))
  f297:=Tryz.func132.trans (congrArg some (by kernel_rfl))
  f298:=Tryz.func133.trans (congrArg some (by kernel_rfl))
  f299:=Tryz.func134.trans (congrArg some (by kernel_rfl))
  f300:=Tryz.func136.trans (congrArg some (by kernel_rfl))
  f301:=Tryz.func137.trans (congrArg some (by kernel_rfl))
  f328:=Tryz.func144.trans (congrArg some (by kernel_rfl))
  f329:=Tryz.func145.trans (congrArg some (by kernel_rfl))
  f330:=Tryz.func146.trans (congrArg some (by kernel_rfl))
  f331:=Tryz.func147.trans (congrArg some (by kernel_rfl))
  f332:=Tryz.func148.trans (congrArg some (by kernel_rfl))
  f343:=Tryz.func152.trans (congrArg some (by kernel_rfl))
  t0:=Tryz.underlying0
  a0:=Tryz.isAgg0
  z0:=Tryz.sizeOf0
  v0:=Tryz.zeroValue0
  t3:=Tryz.underlying3
  a3:=Tryz.isAgg3
  z3:=Tryz.sizeOf3
  v3:=Tryz.zeroValue3
  t4:=Tryz.underlying4
  a4:=Tryz.isAgg4
  z4:=Tryz.sizeOf4
  v4:=Tryz.zeroValue4
  t5:=Tryz.underlying5
  a5:=Tryz.isAgg5
  z5:=Tryz.sizeOf5
  v5:=Tryz.zeroValue5
  t9:=Tryz.underlying9
  a9:=Tryz.isAgg9
  z9:=Tryz.sizeOf9
  v9:=Tryz.zeroValue9
  t28:=Tryz.underlying22
  a28:=Tryz.isAgg22
  z28:=Tryz.sizeOf22
  v28:=Tryz.zeroValue22
  t46:=Tryz.underlying130
  a46:=Tryz.isAgg130
  z46:=Tryz.sizeOf130
  v46:=Tryz.zeroValue130
  t51:=Tryz.underlying160
  a51:=Tryz.isAgg160
  z51:=Tryz.sizeOf160
  v51:=Tryz.zeroValue160
  t53:=Tryz.underlying162
  a53:=Tryz.isAgg162
  z53:=Tryz.sizeOf162
  v53:=Tryz.zeroValue162
  t131:=Tryz.underlying105
  a131:=Tryz.isAgg105
  z131:=Tryz.sizeOf105
  v131:=Tryz.zeroValue105
  t182:=Tryz.underlying153
  a182:=Tryz.isAgg153
  z182:=Tryz.sizeOf153
  v182:=Tryz.zeroValue153
  t183:=Tryz.underlying154
  a183:=Tryz.isAgg154
  z183:=Tryz.sizeOf154
  v183:=Tryz.zeroValue154
  t218:=Tryz.underlying166
  a218:=Tryz.isAgg166
  z218:=Tryz.sizeOf166
  v218:=Tryz.zeroValue166
  t222:=Tryz.underlying170
  a222:=Tryz.isAgg170
  z222:=Tryz.sizeOf170
  v222:=Tryz.zeroValue170
  t228:=Tryz.underlying173
  a228:=Tryz.isAgg173
  z228:=Tryz.sizeOf173
  v228:=Tryz.zeroValue173
  t229:=Tryz.underlying174
  a229:=Tryz.isAgg174
  z229:=Tryz.sizeOf174
  v229:=Tryz.zeroValue174}
open Go.Sort Go.RowKit in
theorem Tryz.slices_Sort_int (blk off cap:Nat) (zs:List Int) (w:World) (hH:Holds (Value.int .i64) w blk off zs.toArray) (hblk:blk<w.heap.size) (hsz:zs.length<4611686018427387904):
    Calls Tryz.prog 109 #[.slice (some ⟨blk,off,none⟩) zs.length cap] w fun e w'=>
      e= .returned (.tuple #[])∧∃n os,w'=grow (putRow (Value.int .i64) (Sort.ahead w n) blk off (zs.mergeSort fun x y=>decide (x≤y)).toArray) os:=Any.slices_Sort_int Tryz.L9 blk off cap zs w hH hblk hsz
def Tryz.Ev:Go.Shelf.Ren:=⟨fun|20=>110|n=>n,fun|22=>22|3=>3|4=>4|0=>0|n=>n,fun|n=>n⟩
theorem Tryz.Fg:Go.Proofs.Lays2.n20 Tryz.prog Tryz.Ev:={
  mixed:=by kernel_rfl
  f20:=Tryz.func110.trans (congrArg some (by kernel_rfl))
  t0:=Tryz.underlying0
  a0:=Tryz.isAgg0
  z0:=Tryz.sizeOf0
  v0:=Tryz.zeroValue0
  t3:=Tryz.underlying3
  a3:=Tryz.isAgg3
  z3:=Tryz.sizeOf3
  v3:=Tryz.zeroValue3
  t4:=Tryz.underlying4
  a4:=Tryz.isAgg4
  z4:=Tryz.sizeOf4
  v4:=Tryz.zeroValue4
  t22:=Tryz.underlying22
  a22:=Tryz.isAgg22
  z22:=Tryz.sizeOf22
  v22:=Tryz.zeroValue22
  i3:=by kernel_rfl}
open Go.RowKit Go.Lib Go.Sort in
open Go.RowKit Go.Lib Go.Sort in
/-- slices.Compact at []int: "Compact replaces consecutive runs of equal elements with a single copy. This is like the uniq command found on Unix. Compact modifies the contents of the slice s and returns the modified slice, which may have a smaller length. Compact zeroes the elements between the new length and the original length. The result preserves the nilness of s.": IT RETURNS THE SLICE CUT TO 'Lib.compact zs'; ITS CELLS HOLD 'Lib.compact zs', THEN ZERO VALUES up to the old length; all else is as it was, but for the count of draws. IN THE WORDS OF slices.Sort's CONTRACT ('Holds', 'putRow'): so the everyday 'slices.Sort(xs); xs = slices.Compact(xs)' goes from the one contract to the other. It asks 'zs.length ≤ cap' (every slice's: the reslicing 's[:k]' looks at it). Length 0, nil: '.._empty'. (LAID: no walk: one application.) -/
theorem Tryz.slices_Compact_int (blk off cap:Nat) (zs:List Int) (w:World) (hH:Holds (Value.int .i64) w blk off zs.toArray) (hsz:zs.length≤9223372036854775807) (hcap:zs.length≤cap):
    Calls Tryz.prog 110 #[.slice (some ⟨blk,off,none⟩) zs.length cap] w fun e w'=>e= .returned (.slice (some ⟨blk,off,none⟩) (Lib.compact zs).length cap)∧∃q,w'=putRow (Value.int .i64) (Sort.ahead w q) blk off (Lib.compact zs++List.replicate (zs.length-(Lib.compact zs).length) 0).toArray:=Any.slices_Compact_int Tryz.Fg blk off cap zs w hH hsz hcap
open Go.RowKit Go.Lib Go.Sort in
/-- The same at a slice of length 0, a nil one too: it comes back as it is. (LAID: no walk: one application.) -/
theorem Tryz.slices_Compact_int_empty (a:Option Addr) (cap:Nat) (w:World):
    Calls Tryz.prog 110 #[.slice a 0 cap] w fun e w'=>e= .returned (.slice a 0 cap)∧w'=w:=Any.slices_Compact_int_empty Tryz.Fg a cap w
open Go.RowKit Go.Lib in
open Go.RowKit Go.Lib in
open Go.RowKit Go.Lib Go.Sort in
open Go.RowKit Go.Sort in
/-- .. and plain. (LAID: no walk: one application.) -/
theorem Tryz.slices_Sort_int_none (p:Option Addr) (cap:Nat) (w:World):
    Calls Tryz.prog 109 #[.slice p 0 cap] w fun e w'=>e= .returned (.tuple #[])∧w'=w:=Any.slices_Sort_int_none Tryz.L9 p cap w
end Go.Proofs
