/- The kinds of elements, and the structures that hold rows. -/
import Derived.Test.YtfhepbbkggdlcaaGreatDoorPxApi0
import Derived.Test.YtfhepbbkggdlcaaGreatDoorProg
set_option linter.unusedVariables false
set_option linter.unusedSimpArgs false
namespace Go.Proofs.YtfhepbbkggdlcaaGreatDoor.Px
open Go Go.Proofs
noncomputable def src : Nat → Option (Array Tmp × Code × Code)
 | 0 => rangeOf (codeB [false, true, false, true, true, true, true, true, true, true, true] (Tryz.f175.body.getD .skip))
 | 1 => rangeOf (codeB [false, true, false, true, true, true, true] (Tryz.f13.body.getD .skip))
 | 2 => rangeOf (codeB [false, true, false, true, true, true, true] (Tryz.f64.body.getD .skip))
 | _ => none
noncomputable instance els : Elts := eltsOf El inferInstance El.den El.cel src
theorem elsOk : EltsOk els := eltsOf_ok
noncomputable def dConfig : Dat Config := Dat.iso (Dat.prod (Dat.ofCel (Cel.int .i64)) (Dat.prod (Dat.ofCel (Cel.int .i64)) (Dat.prod (Dat.ofCel (Cel.int .i64)) (Dat.prod (Dat.sl elsOk (.int : El)) (Dat.prod (Dat.ofCel cTimes) (Dat.prod (Dat.ofCel (Cel.int .i64)) (Dat.prod (Dat.ofCel (Cel.int .i64)) (Dat.prod (Dat.ofCel cZone) (Dat.prod (Dat.ofCel cSun) (Dat.prod (Dat.ofCel Cel.bool) (Dat.sl elsOk (.window : El)))))))))))) (fun p => ⟨p.1, p.2.1, p.2.2.1, p.2.2.2.1, p.2.2.2.2.1, p.2.2.2.2.2.1, p.2.2.2.2.2.2.1, p.2.2.2.2.2.2.2.1, p.2.2.2.2.2.2.2.2.1, p.2.2.2.2.2.2.2.2.2.1, p.2.2.2.2.2.2.2.2.2.2⟩) (fun x => (x.floors, x.cars, x.park, x.stops, x.times, x.rest, x.pater, x.zone, x.sun, x.abroad, x.windows)) (fun _ => rfl)
noncomputable def oConfig : Own Config := Own.iso (Own.prod (Own.ofCel (Cel.int .i64)) (Own.prod (Own.ofCel (Cel.int .i64)) (Own.prod (Own.ofCel (Cel.int .i64)) (Own.prod (Own.sl (.int : El)) (Own.prod (Own.ofCel cTimes) (Own.prod (Own.ofCel (Cel.int .i64)) (Own.prod (Own.ofCel (Cel.int .i64)) (Own.prod (Own.ofCel cZone) (Own.prod (Own.ofCel cSun) (Own.prod (Own.ofCel Cel.bool) (Own.sl (.window : El)))))))))))) (fun p => ⟨p.1, p.2.1, p.2.2.1, p.2.2.2.1, p.2.2.2.2.1, p.2.2.2.2.2.1, p.2.2.2.2.2.2.1, p.2.2.2.2.2.2.2.1, p.2.2.2.2.2.2.2.2.1, p.2.2.2.2.2.2.2.2.2.1, p.2.2.2.2.2.2.2.2.2.2⟩) (fun x => (x.floors, x.cars, x.park, x.stops, x.times, x.rest, x.pater, x.zone, x.sun, x.abroad, x.windows)) (fun _ => rfl)
noncomputable def dRecord : Dat Record := Dat.iso (Dat.prod (Dat.ofCel (Cel.int .i64)) (Dat.prod (Dat.ofCel (Cel.int .i64)) (Dat.prod (Dat.ofCel (Cel.int .i64)) (Dat.sl elsOk (.u8 : El))))) (fun p => ⟨p.1, p.2.1, p.2.2.1, p.2.2.2⟩) (fun x => (x.gen, x.clock, x.mode, x.config)) (fun _ => rfl)
noncomputable def oRecord : Own Record := Own.iso (Own.prod (Own.ofCel (Cel.int .i64)) (Own.prod (Own.ofCel (Cel.int .i64)) (Own.prod (Own.ofCel (Cel.int .i64)) (Own.sl (.u8 : El))))) (fun p => ⟨p.1, p.2.1, p.2.2.1, p.2.2.2⟩) (fun x => (x.gen, x.clock, x.mode, x.config)) (fun _ => rfl)
noncomputable def dFlash : Dat Flash := Dat.iso (Dat.prod (Dat.sl elsOk (.u8 : El)) (Dat.sl elsOk (.u8 : El))) (fun p => ⟨p.1, p.2⟩) (fun x => (x.a, x.b)) (fun _ => rfl)
noncomputable def oFlash : Own Flash := Own.iso (Own.prod (Own.sl (.u8 : El)) (Own.sl (.u8 : El))) (fun p => ⟨p.1, p.2⟩) (fun x => (x.a, x.b)) (fun _ => rfl)
noncomputable def dCalls : Dat Calls := Dat.iso (Dat.prod (Dat.sl elsOk (.hall : El)) (Dat.sl elsOk (.inside : El))) (fun p => ⟨p.1, p.2⟩) (fun x => (x.halls, x.in_)) (fun _ => rfl)
noncomputable def oCalls : Own Calls := Own.iso (Own.prod (Own.sl (.hall : El)) (Own.sl (.inside : El))) (fun p => ⟨p.1, p.2⟩) (fun x => (x.halls, x.in_)) (fun _ => rfl)
noncomputable def dView : Dat View := Dat.iso (Dat.prod (Dat.sl elsOk (.int : El)) (Dat.prod (Dat.sl elsOk (.int : El)) (Dat.sl elsOk (.int : El)))) (fun p => ⟨p.1, p.2.1, p.2.2⟩) (fun x => (x.in_, x.up, x.down)) (fun _ => rfl)
noncomputable def oView : Own View := Own.iso (Own.prod (Own.sl (.int : El)) (Own.prod (Own.sl (.int : El)) (Own.sl (.int : El)))) (fun p => ⟨p.1, p.2.1, p.2.2⟩) (fun x => (x.in_, x.up, x.down)) (fun _ => rfl)
noncomputable def dPlan : Dat Plan := Dat.iso (Dat.prod (Dat.sl elsOk (.int : El)) (Dat.prod (Dat.ofCel (Cel.int .i64)) (Dat.ofCel (Cel.int .i64)))) (fun p => ⟨p.1, p.2.1, p.2.2⟩) (fun x => (x.stops, x.cars, x.car)) (fun _ => rfl)
noncomputable def oPlan : Own Plan := Own.iso (Own.prod (Own.sl (.int : El)) (Own.prod (Own.ofCel (Cel.int .i64)) (Own.ofCel (Cel.int .i64)))) (fun p => ⟨p.1, p.2.1, p.2.2⟩) (fun x => (x.stops, x.cars, x.car)) (fun _ => rfl)
noncomputable def dAuto : Dat Auto := Dat.iso (Dat.prod dConfig (Dat.prod (Dat.ofCel (Cel.int .i64)) (Dat.prod (Dat.ofCel (Cel.int .i64)) (Dat.prod (Dat.ofCel (Cel.int .i64)) (Dat.ofCel cCar))))) (fun p => ⟨p.1, p.2.1, p.2.2.1, p.2.2.2.1, p.2.2.2.2⟩) (fun x => (x.config, x.mode, x.nth, x.age, x.car)) (fun _ => rfl)
noncomputable def oAuto : Own Auto := Own.iso (Own.prod oConfig (Own.prod (Own.ofCel (Cel.int .i64)) (Own.prod (Own.ofCel (Cel.int .i64)) (Own.prod (Own.ofCel (Cel.int .i64)) (Own.ofCel cCar))))) (fun p => ⟨p.1, p.2.1, p.2.2.1, p.2.2.2.1, p.2.2.2.2⟩) (fun x => (x.config, x.mode, x.nth, x.age, x.car)) (fun _ => rfl)
noncomputable def dMoves : Dat Moves := Dat.iso (Dat.prod dPlan (Dat.prod (Dat.ofCel cGear) (Dat.ofCel (Cel.int .i64)))) (fun p => ⟨p.1, p.2.1, p.2.2⟩) (fun x => (x.plan, x.gear, x.home)) (fun _ => rfl)
noncomputable def oMoves : Own Moves := Own.iso (Own.prod oPlan (Own.prod (Own.ofCel cGear) (Own.ofCel (Cel.int .i64)))) (fun p => ⟨p.1, p.2.1, p.2.2⟩) (fun x => (x.plan, x.gear, x.home)) (fun _ => rfl)
noncomputable def dPieces : Dat Pieces := Dat.iso (Dat.prod (Dat.sl elsOk (.span : El)) (Dat.prod (Dat.ofCel (Cel.int .i64)) (Dat.prod (Dat.ofCel (Cel.int .i64)) (Dat.ofCel (Cel.int .i64))))) (fun p => ⟨p.1, p.2.1, p.2.2.1, p.2.2.2⟩) (fun x => (x.l, x.from_, x.at_, x.to_)) (fun _ => rfl)
noncomputable def oPieces : Own Pieces := Own.iso (Own.prod (Own.sl (.span : El)) (Own.prod (Own.ofCel (Cel.int .i64)) (Own.prod (Own.ofCel (Cel.int .i64)) (Own.ofCel (Cel.int .i64))))) (fun p => ⟨p.1, p.2.1, p.2.2.1, p.2.2.2⟩) (fun x => (x.l, x.from_, x.at_, x.to_)) (fun _ => rfl)
noncomputable def dTwins : Dat Twins := Dat.iso (Dat.prod dAuto (Dat.prod (Dat.ofCel cCar) (Dat.prod (Dat.ofCel cTouch) (Dat.ofCel cTouch)))) (fun p => ⟨p.1, p.2.1, p.2.2.1, p.2.2.2⟩) (fun x => (x.a, x.c, x.t, x.o)) (fun _ => rfl)
noncomputable def oTwins : Own Twins := Own.iso (Own.prod oAuto (Own.prod (Own.ofCel cCar) (Own.prod (Own.ofCel cTouch) (Own.ofCel cTouch)))) (fun p => ⟨p.1, p.2.1, p.2.2.1, p.2.2.2⟩) (fun x => (x.a, x.c, x.t, x.o)) (fun _ => rfl)
noncomputable def dRide : Dat Ride := Dat.iso (Dat.prod (Dat.ofCel cGear) (Dat.prod (Dat.ofCel (Cel.int .i64)) (Dat.prod (Dat.ofCel Cel.bool) (Dat.sl elsOk (.order : El))))) (fun p => ⟨p.1, p.2.1, p.2.2.1, p.2.2.2⟩) (fun x => (x.g, x.floor, x.up, x.l)) (fun _ => rfl)
noncomputable def oRide : Own Ride := Own.iso (Own.prod (Own.ofCel cGear) (Own.prod (Own.ofCel (Cel.int .i64)) (Own.prod (Own.ofCel Cel.bool) (Own.sl (.order : El))))) (fun p => ⟨p.1, p.2.1, p.2.2.1, p.2.2.2⟩) (fun x => (x.g, x.floor, x.up, x.l)) (fun _ => rfl)
noncomputable def dTwoWin : Dat TwoWin := Dat.iso (Dat.prod dConfig (Dat.prod (Dat.ofCel cWindow) (Dat.prod (Dat.ofCel (Cel.int .i64)) (Dat.ofCel (Cel.int .i64))))) (fun p => ⟨p.1, p.2.1, p.2.2.1, p.2.2.2⟩) (fun x => (x.c, x.w, x.day, x.more)) (fun _ => rfl)
noncomputable def oTwoWin : Own TwoWin := Own.iso (Own.prod oConfig (Own.prod (Own.ofCel cWindow) (Own.prod (Own.ofCel (Cel.int .i64)) (Own.ofCel (Cel.int .i64))))) (fun p => ⟨p.1, p.2.1, p.2.2.1, p.2.2.2⟩) (fun x => (x.c, x.w, x.day, x.more)) (fun _ => rfl)
end Go.Proofs.YtfhepbbkggdlcaaGreatDoor.Px
