/- The kinds of elements, and the structures that hold rows. -/
import Derived.Test.YtfhepbbkggdlcaaGreatDoorPxApi0
import Derived.Test.YtfhepbbkggdlcaaGreatDoorProg
set_option linter.unusedVariables false
set_option linter.unusedSimpArgs false
namespace Go.Proofs.YtfhepbbkggdlcaaGreatDoor.Px
open Go Go.Proofs
noncomputable def src : Nat → Option (Array Tmp × Code × Code)
 | 0 => rangeOf (codeB [false, true, false, true, true, true, true, true, true, true, true] (Tryz.f175.body.getD .skip))
 | 1 => rangeOf (codeB [false, true, false, true, true, true, true] (Tryz.f13.body.getD .skip))
 | 2 => rangeOf (codeB [false, true, false, true, true, true, true] (Tryz.f64.body.getD .skip))
 | _ => none
noncomputable instance els : Elts := eltsOf El inferInstance El.den El.cel src
theorem elsOk : EltsOk els := eltsOf_ok
noncomputable def dConfig : Dat Config := Dat.iso (Dat.prod (Dat.ofCel (Cel.int .i64)) (Dat.prod (Dat.ofCel (Cel.int .i64)) (Dat.prod (Dat.ofCel (Cel.int .i64)) (Dat.prod (Dat.sl elsOk (.int : El)) (Dat.prod (Dat.ofCel cTimes) (Dat.prod (Dat.ofCel (Cel.int .i64)) (Dat.prod (Dat.ofCel (Cel.int .i64)) (Dat.prod (Dat.ofCel cZone) (Dat.prod (Dat.ofCel cSun) (Dat.prod (Dat.ofCel Cel.bool) (Dat.sl elsOk (.window : El)))))))))))) (fun p => ⟨p.1, p.2.1, p.2.2.1, p.2.2.2.1, p.2.2.2.2.1, p.2.2.2.2.2.1, p.2.2.2.2.2.2.1, p.2.2.2.2.2.2.2.1, p.2.2.2.2.2.2.2.2.1, p.2.2.2.2.2.2.2.2.2.1, p.2.2.2.2.2.2.2.2.2.2⟩) (fun x => (x.floors, x.cars, x.park, x.stops, x.times, x.rest, x.pater, x.zone, x.sun, x.abroad, x.windows)) (fun _ => rfl)
noncomputable def oConfig : Own Config := Own.iso (Own.prod (Own.ofCel (Cel.int .i64)) (Own.prod (Own.ofCel (Cel.int .i64)) (Own.prod (Own.ofCel (Cel.int .i64)) (Own.prod (Own.sl (.int : El)) (Own.prod (Own.ofCel cTimes) (Own.prod (Own.ofCel (Cel.int .i64)) (Own.prod (Own.ofCel (Cel.int .i64)) (Own.prod (Own.ofCel cZone) (Own.prod (Own.ofCel cSun) (Own.prod (Own.ofCel Cel.bool) (Own.sl (.window : El)))))))))))) (fun p => ⟨p.1, p.2.1, p.2.2.1, p.2.2.2.1, p.2.2.2.2.1, p.2.2.2.2.2.1, p.2.2.2.2.2.2.1, p.2.2.2.2.2.2.2.1, p.2.2.2.2.2.2.2.2.1, p.2.2.2.2.2.2.2.2.2.1, p.2.2.2.2.2.2.2.2.2.2⟩) (fun x => (x.floors, x.cars, x.park, x.stops, x.times, x.rest, x.pater, x.zone, x.sun, x.abroad, x.windows)) (fun _ => rfl)
end Go.Proofs.YtfhepbbkggdlcaaGreatDoor.Px
