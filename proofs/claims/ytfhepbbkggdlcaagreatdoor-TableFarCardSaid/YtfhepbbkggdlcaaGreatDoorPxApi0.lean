/- The program's structures, and how they are laid. -/
import Derived.Test.YtfhepbbkggdlcaaGreatDoorPxPat
set_option linter.unusedVariables false
set_option linter.unusedSimpArgs false
namespace Go.Proofs.YtfhepbbkggdlcaaGreatDoor.Px
open Go
structure Date where
 year : Int
 month : Int
 day : Int
 deriving DecidableEq
def cDate : Cel Date := Cel.iso (Cel.prod (Cel.int .i64) (Cel.prod (Cel.int .i64) (Cel.int .i64))) (fun p => ⟨p.1, p.2.1, p.2.2⟩) (fun x => (x.year, x.month, x.day)) (fun _ => rfl)
theorem cDate_enc (x : Date) : cDate.enc x = [.int .i64 x.year, .int .i64 x.month, .int .i64 x.day] := rfl
structure HDate where
 year : Int
 month : Int
 day : Int
 deriving DecidableEq
def cHDate : Cel HDate := Cel.iso (Cel.prod (Cel.int .i64) (Cel.prod (Cel.int .i64) (Cel.int .i64))) (fun p => ⟨p.1, p.2.1, p.2.2⟩) (fun x => (x.year, x.month, x.day)) (fun _ => rfl)
theorem cHDate_enc (x : HDate) : cHDate.enc x = [.int .i64 x.year, .int .i64 x.month, .int .i64 x.day] := rfl
structure Feast where
 kind : Int
 day : Int
 deriving DecidableEq
def cFeast : Cel Feast := Cel.iso (Cel.prod (Cel.int .i64) (Cel.int .i64)) (fun p => ⟨p.1, p.2⟩) (fun x => (x.kind, x.day)) (fun _ => rfl)
theorem cFeast_enc (x : Feast) : cFeast.enc x = [.int .i64 x.kind, .int .i64 x.day] := rfl
structure Turn where
 month : Int
 week : Int
 weekday : Int
 minute : Int
 deriving DecidableEq
def cTurn : Cel Turn := Cel.iso (Cel.prod (Cel.int .i64) (Cel.prod (Cel.int .i64) (Cel.prod (Cel.int .i64) (Cel.int .i64)))) (fun p => ⟨p.1, p.2.1, p.2.2.1, p.2.2.2⟩) (fun x => (x.month, x.week, x.weekday, x.minute)) (fun _ => rfl)
theorem cTurn_enc (x : Turn) : cTurn.enc x = [.int .i64 x.month, .int .i64 x.week, .int .i64 x.weekday, .int .i64 x.minute] := rfl
structure Zone where
 base : Int
 shift : Int
 on : Turn
 off : Turn
 deriving DecidableEq
def cZone : Cel Zone := Cel.iso (Cel.prod (Cel.int .i64) (Cel.prod (Cel.int .i64) (Cel.prod cTurn cTurn))) (fun p => ⟨p.1, p.2.1, p.2.2.1, p.2.2.2⟩) (fun x => (x.base, x.shift, x.on, x.off)) (fun _ => rfl)
theorem cZone_enc (x : Zone) : cZone.enc x = [.int .i64 x.base, .int .i64 x.shift, .int .i64 x.on.month, .int .i64 x.on.week, .int .i64 x.on.weekday, .int .i64 x.on.minute, .int .i64 x.off.month, .int .i64 x.off.week, .int .i64 x.off.weekday, .int .i64 x.off.minute] := rfl
structure Sun where
 m0 : Int
 m1 : Int
 m2 : Int
 m3 : Int
 m4 : Int
 m5 : Int
 m6 : Int
 m7 : Int
 m8 : Int
 m9 : Int
 m10 : Int
 m11 : Int
 deriving DecidableEq
def cSun : Cel Sun := Cel.iso (Cel.prod (Cel.int .i64) (Cel.prod (Cel.int .i64) (Cel.prod (Cel.int .i64) (Cel.prod (Cel.int .i64) (Cel.prod (Cel.int .i64) (Cel.prod (Cel.int .i64) (Cel.prod (Cel.int .i64) (Cel.prod (Cel.int .i64) (Cel.prod (Cel.int .i64) (Cel.prod (Cel.int .i64) (Cel.prod (Cel.int .i64) (Cel.int .i64)))))))))))) (fun p => ⟨p.1, p.2.1, p.2.2.1, p.2.2.2.1, p.2.2.2.2.1, p.2.2.2.2.2.1, p.2.2.2.2.2.2.1, p.2.2.2.2.2.2.2.1, p.2.2.2.2.2.2.2.2.1, p.2.2.2.2.2.2.2.2.2.1, p.2.2.2.2.2.2.2.2.2.2.1, p.2.2.2.2.2.2.2.2.2.2.2⟩) (fun x => (x.m0, x.m1, x.m2, x.m3, x.m4, x.m5, x.m6, x.m7, x.m8, x.m9, x.m10, x.m11)) (fun _ => rfl)
theorem cSun_enc (x : Sun) : cSun.enc x = [.int .i64 x.m0, .int .i64 x.m1, .int .i64 x.m2, .int .i64 x.m3, .int .i64 x.m4, .int .i64 x.m5, .int .i64 x.m6, .int .i64 x.m7, .int .i64 x.m8, .int .i64 x.m9, .int .i64 x.m10, .int .i64 x.m11] := rfl
structure Sums where
 s0 : Int
 s1 : Int
 s2 : Int
 s3 : Int
 s4 : Int
 s5 : Int
 s6 : Int
 s7 : Int
 s8 : Int
 s9 : Int
 s10 : Int
 s11 : Int
 s12 : Int
 deriving DecidableEq
def cSums : Cel Sums := Cel.iso (Cel.prod (Cel.int .i64) (Cel.prod (Cel.int .i64) (Cel.prod (Cel.int .i64) (Cel.prod (Cel.int .i64) (Cel.prod (Cel.int .i64) (Cel.prod (Cel.int .i64) (Cel.prod (Cel.int .i64) (Cel.prod (Cel.int .i64) (Cel.prod (Cel.int .i64) (Cel.prod (Cel.int .i64) (Cel.prod (Cel.int .i64) (Cel.prod (Cel.int .i64) (Cel.int .i64))))))))))))) (fun p => ⟨p.1, p.2.1, p.2.2.1, p.2.2.2.1, p.2.2.2.2.1, p.2.2.2.2.2.1, p.2.2.2.2.2.2.1, p.2.2.2.2.2.2.2.1, p.2.2.2.2.2.2.2.2.1, p.2.2.2.2.2.2.2.2.2.1, p.2.2.2.2.2.2.2.2.2.2.1, p.2.2.2.2.2.2.2.2.2.2.2.1, p.2.2.2.2.2.2.2.2.2.2.2.2⟩) (fun x => (x.s0, x.s1, x.s2, x.s3, x.s4, x.s5, x.s6, x.s7, x.s8, x.s9, x.s10, x.s11, x.s12)) (fun _ => rfl)
theorem cSums_enc (x : Sums) : cSums.enc x = [.int .i64 x.s0, .int .i64 x.s1, .int .i64 x.s2, .int .i64 x.s3, .int .i64 x.s4, .int .i64 x.s5, .int .i64 x.s6, .int .i64 x.s7, .int .i64 x.s8, .int .i64 x.s9, .int .i64 x.s10, .int .i64 x.s11, .int .i64 x.s12] := rfl
structure Times where
 travel : Int
 level : Int
 open_ : Int
 dwell : Int
 lead : Int
 close : Int
 hold : Int
 deriving DecidableEq
def cTimes : Cel Times := Cel.iso (Cel.prod (Cel.int .i64) (Cel.prod (Cel.int .i64) (Cel.prod (Cel.int .i64) (Cel.prod (Cel.int .i64) (Cel.prod (Cel.int .i64) (Cel.prod (Cel.int .i64) (Cel.int .i64))))))) (fun p => ⟨p.1, p.2.1, p.2.2.1, p.2.2.2.1, p.2.2.2.2.1, p.2.2.2.2.2.1, p.2.2.2.2.2.2⟩) (fun x => (x.travel, x.level, x.open_, x.dwell, x.lead, x.close, x.hold)) (fun _ => rfl)
theorem cTimes_enc (x : Times) : cTimes.enc x = [.int .i64 x.travel, .int .i64 x.level, .int .i64 x.open_, .int .i64 x.dwell, .int .i64 x.lead, .int .i64 x.close, .int .i64 x.hold] := rfl
structure Window where
 kind : Int
 mode : Int
 prio : Int
 arg : Int
 shift : Int
 minute : Int
 len : Int
 deriving DecidableEq
def cWindow : Cel Window := Cel.iso (Cel.prod (Cel.int .i64) (Cel.prod (Cel.int .i64) (Cel.prod (Cel.int .i64) (Cel.prod (Cel.int .i64) (Cel.prod (Cel.int .i64) (Cel.prod (Cel.int .i64) (Cel.int .i64))))))) (fun p => ⟨p.1, p.2.1, p.2.2.1, p.2.2.2.1, p.2.2.2.2.1, p.2.2.2.2.2.1, p.2.2.2.2.2.2⟩) (fun x => (x.kind, x.mode, x.prio, x.arg, x.shift, x.minute, x.len)) (fun _ => rfl)
theorem cWindow_enc (x : Window) : cWindow.enc x = [.int .i64 x.kind, .int .i64 x.mode, .int .i64 x.prio, .int .i64 x.arg, .int .i64 x.shift, .int .i64 x.minute, .int .i64 x.len] := rfl
structure Span where
 from_ : Int
 to_ : Int
 mode : Int
 prio : Int
 deriving DecidableEq
def cSpan : Cel Span := Cel.iso (Cel.prod (Cel.int .i64) (Cel.prod (Cel.int .i64) (Cel.prod (Cel.int .i64) (Cel.int .i64)))) (fun p => ⟨p.1, p.2.1, p.2.2.1, p.2.2.2⟩) (fun x => (x.from_, x.to_, x.mode, x.prio)) (fun _ => rfl)
theorem cSpan_enc (x : Span) : cSpan.enc x = [.int .i64 x.from_, .int .i64 x.to_, .int .i64 x.mode, .int .i64 x.prio] := rfl
structure Clock where
 set : Bool
 has : Bool
 now : Int
 cand : Int
 deriving DecidableEq
def cClock : Cel Clock := Cel.iso (Cel.prod Cel.bool (Cel.prod Cel.bool (Cel.prod (Cel.int .i64) (Cel.int .i64)))) (fun p => ⟨p.1, p.2.1, p.2.2.1, p.2.2.2⟩) (fun x => (x.set, x.has, x.now, x.cand)) (fun _ => rfl)
theorem cClock_enc (x : Clock) : cClock.enc x = [.bool x.set, .bool x.has, .int .i64 x.now, .int .i64 x.cand] := rfl
structure Door where
 phase : Int
 left : Int
 held : Int
 deriving DecidableEq
def cDoor : Cel Door := Cel.iso (Cel.prod (Cel.int .i64) (Cel.prod (Cel.int .i64) (Cel.int .i64))) (fun p => ⟨p.1, p.2.1, p.2.2⟩) (fun x => (x.phase, x.left, x.held)) (fun _ => rfl)
theorem cDoor_enc (x : Door) : cDoor.enc x = [.int .i64 x.phase, .int .i64 x.left, .int .i64 x.held] := rfl
structure Car where
 floor : Int
 dir : Int
 phase : Int
 left : Int
 door : Door
 deriving DecidableEq
def cCar : Cel Car := Cel.iso (Cel.prod (Cel.int .i64) (Cel.prod (Cel.int .i64) (Cel.prod (Cel.int .i64) (Cel.prod (Cel.int .i64) cDoor)))) (fun p => ⟨p.1, p.2.1, p.2.2.1, p.2.2.2.1, p.2.2.2.2⟩) (fun x => (x.floor, x.dir, x.phase, x.left, x.door)) (fun _ => rfl)
theorem cCar_enc (x : Car) : cCar.enc x = [.int .i64 x.floor, .int .i64 x.dir, .int .i64 x.phase, .int .i64 x.left, .int .i64 x.door.phase, .int .i64 x.door.left, .int .i64 x.door.held] := rfl
structure Gear where
 floors : Int
 times : Times
 dwell : Int
 most : Int
 deriving DecidableEq
def cGear : Cel Gear := Cel.iso (Cel.prod (Cel.int .i64) (Cel.prod cTimes (Cel.prod (Cel.int .i64) (Cel.int .i64)))) (fun p => ⟨p.1, p.2.1, p.2.2.1, p.2.2.2⟩) (fun x => (x.floors, x.times, x.dwell, x.most)) (fun _ => rfl)
theorem cGear_enc (x : Gear) : cGear.enc x = [.int .i64 x.floors, .int .i64 x.times.travel, .int .i64 x.times.level, .int .i64 x.times.open_, .int .i64 x.times.dwell, .int .i64 x.times.lead, .int .i64 x.times.close, .int .i64 x.times.hold, .int .i64 x.dwell, .int .i64 x.most] := rfl
structure OutT where
 motor : Int
 door : Int
 floor : Int
 chime : Bool
 deriving DecidableEq
def cOutT : Cel OutT := Cel.iso (Cel.prod (Cel.int .i64) (Cel.prod (Cel.int .i64) (Cel.prod (Cel.int .i64) Cel.bool))) (fun p => ⟨p.1, p.2.1, p.2.2.1, p.2.2.2⟩) (fun x => (x.motor, x.door, x.floor, x.chime)) (fun _ => rfl)
theorem cOutT_enc (x : OutT) : cOutT.enc x = [.int .i64 x.motor, .int .i64 x.door, .int .i64 x.floor, .bool x.chime] := rfl
structure Order where
 cmd : Int
 held : Bool
 fault : Bool
 deriving DecidableEq
def cOrder : Cel Order := Cel.iso (Cel.prod (Cel.int .i64) (Cel.prod Cel.bool Cel.bool)) (fun p => ⟨p.1, p.2.1, p.2.2⟩) (fun x => (x.cmd, x.held, x.fault)) (fun _ => rfl)
theorem cOrder_enc (x : Order) : cOrder.enc x = [.int .i64 x.cmd, .bool x.held, .bool x.fault] := rfl
structure House where
 floors : Int
 cars : Int
 deriving DecidableEq
def cHouse : Cel House := Cel.iso (Cel.prod (Cel.int .i64) (Cel.int .i64)) (fun p => ⟨p.1, p.2⟩) (fun x => (x.floors, x.cars)) (fun _ => rfl)
theorem cHouse_enc (x : House) : cHouse.enc x = [.int .i64 x.floors, .int .i64 x.cars] := rfl
structure Stop where
 car : Int
 floor : Int
 dir : Int
 deriving DecidableEq
def cStop : Cel Stop := Cel.iso (Cel.prod (Cel.int .i64) (Cel.prod (Cel.int .i64) (Cel.int .i64))) (fun p => ⟨p.1, p.2.1, p.2.2⟩) (fun x => (x.car, x.floor, x.dir)) (fun _ => rfl)
theorem cStop_enc (x : Stop) : cStop.enc x = [.int .i64 x.car, .int .i64 x.floor, .int .i64 x.dir] := rfl
structure Press where
 kind : Int
 floor : Int
 car : Int
 deriving DecidableEq
def cPress : Cel Press := Cel.iso (Cel.prod (Cel.int .i64) (Cel.prod (Cel.int .i64) (Cel.int .i64))) (fun p => ⟨p.1, p.2.1, p.2.2⟩) (fun x => (x.kind, x.floor, x.car)) (fun _ => rfl)
theorem cPress_enc (x : Press) : cPress.enc x = [.int .i64 x.kind, .int .i64 x.floor, .int .i64 x.car] := rfl
structure Hall where
 floor : Int
 dir : Int
 car : Int
 deriving DecidableEq
def cHall : Cel Hall := Cel.iso (Cel.prod (Cel.int .i64) (Cel.prod (Cel.int .i64) (Cel.int .i64))) (fun p => ⟨p.1, p.2.1, p.2.2⟩) (fun x => (x.floor, x.dir, x.car)) (fun _ => rfl)
theorem cHall_enc (x : Hall) : cHall.enc x = [.int .i64 x.floor, .int .i64 x.dir, .int .i64 x.car] := rfl
structure Inside where
 car : Int
 floor : Int
 deriving DecidableEq
def cInside : Cel Inside := Cel.iso (Cel.prod (Cel.int .i64) (Cel.int .i64)) (fun p => ⟨p.1, p.2⟩) (fun x => (x.car, x.floor)) (fun _ => rfl)
theorem cInside_enc (x : Inside) : cInside.enc x = [.int .i64 x.car, .int .i64 x.floor] := rfl
structure Lift where
 car : Car
 dir : Int
 up : Bool
 down : Bool
 deriving DecidableEq
def cLift : Cel Lift := Cel.iso (Cel.prod cCar (Cel.prod (Cel.int .i64) (Cel.prod Cel.bool Cel.bool))) (fun p => ⟨p.1, p.2.1, p.2.2.1, p.2.2.2⟩) (fun x => (x.car, x.dir, x.up, x.down)) (fun _ => rfl)
theorem cLift_enc (x : Lift) : cLift.enc x = [.int .i64 x.car.floor, .int .i64 x.car.dir, .int .i64 x.car.phase, .int .i64 x.car.left, .int .i64 x.car.door.phase, .int .i64 x.car.door.left, .int .i64 x.car.door.held, .int .i64 x.dir, .bool x.up, .bool x.down] := rfl
structure Touch where
 key : Bool
 held : Bool
 fault : Bool
 deriving DecidableEq
def cTouch : Cel Touch := Cel.iso (Cel.prod Cel.bool (Cel.prod Cel.bool Cel.bool)) (fun p => ⟨p.1, p.2.1, p.2.2⟩) (fun x => (x.key, x.held, x.fault)) (fun _ => rfl)
theorem cTouch_enc (x : Touch) : cTouch.enc x = [.bool x.key, .bool x.held, .bool x.fault] := rfl
structure OpenW where
 s : Span
 is : Bool
 deriving DecidableEq
def cOpenW : Cel OpenW := Cel.iso (Cel.prod cSpan Cel.bool) (fun p => ⟨p.1, p.2⟩) (fun x => (x.s, x.is)) (fun _ => rfl)
theorem cOpenW_enc (x : OpenW) : cOpenW.enc x = [.int .i64 x.s.from_, .int .i64 x.s.to_, .int .i64 x.s.mode, .int .i64 x.s.prio, .bool x.is] := rfl
structure Row5 where
 first : Int
 last : Int
 deriving DecidableEq
def cRow5 : Cel Row5 := Cel.iso (Cel.prod (Cel.int .i64) (Cel.int .i64)) (fun p => ⟨p.1, p.2⟩) (fun x => (x.first, x.last)) (fun _ => rfl)
theorem cRow5_enc (x : Row5) : cRow5.enc x = [.int .i64 x.first, .int .i64 x.last] := rfl
structure Moon where
 day : Int
 part : Int
 deriving DecidableEq
def cMoon : Cel Moon := Cel.iso (Cel.prod (Cel.int .i64) (Cel.int .i64)) (fun p => ⟨p.1, p.2⟩) (fun x => (x.day, x.part)) (fun _ => rfl)
theorem cMoon_enc (x : Moon) : cMoon.enc x = [.int .i64 x.day, .int .i64 x.part] := rfl
structure NowT where
 mode : Int
 since : Int
 deriving DecidableEq
def cNowT : Cel NowT := Cel.iso (Cel.prod (Cel.int .i64) (Cel.int .i64)) (fun p => ⟨p.1, p.2⟩) (fun x => (x.mode, x.since)) (fun _ => rfl)
theorem cNowT_enc (x : NowT) : cNowT.enc x = [.int .i64 x.mode, .int .i64 x.since] := rfl
structure Stuck where
 g : Gear
 c : Car
 cmd : Int
 held : Bool
 deriving DecidableEq
def cStuck : Cel Stuck := Cel.iso (Cel.prod cGear (Cel.prod cCar (Cel.prod (Cel.int .i64) Cel.bool))) (fun p => ⟨p.1, p.2.1, p.2.2.1, p.2.2.2⟩) (fun x => (x.g, x.c, x.cmd, x.held)) (fun _ => rfl)
theorem cStuck_enc (x : Stuck) : cStuck.enc x = [.int .i64 x.g.floors, .int .i64 x.g.times.travel, .int .i64 x.g.times.level, .int .i64 x.g.times.open_, .int .i64 x.g.times.dwell, .int .i64 x.g.times.lead, .int .i64 x.g.times.close, .int .i64 x.g.times.hold, .int .i64 x.g.dwell, .int .i64 x.g.most, .int .i64 x.c.floor, .int .i64 x.c.dir, .int .i64 x.c.phase, .int .i64 x.c.left, .int .i64 x.c.door.phase, .int .i64 x.c.door.left, .int .i64 x.c.door.held, .int .i64 x.cmd, .bool x.held] := rfl
structure DoorStepped where
 d : Door
 chime : Bool
 deriving DecidableEq
def cDoorStepped : Cel DoorStepped := Cel.iso (Cel.prod cDoor Cel.bool) (fun p => ⟨p.1, p.2⟩) (fun x => (x.d, x.chime)) (fun _ => rfl)
theorem cDoorStepped_enc (x : DoorStepped) : cDoorStepped.enc x = [.int .i64 x.d.phase, .int .i64 x.d.left, .int .i64 x.d.held, .bool x.chime] := rfl
structure Part where
 floor : Int
 dir : Int
 ticks : Int
 deriving DecidableEq
def cPart : Cel Part := Cel.iso (Cel.prod (Cel.int .i64) (Cel.prod (Cel.int .i64) (Cel.int .i64))) (fun p => ⟨p.1, p.2.1, p.2.2⟩) (fun x => (x.floor, x.dir, x.ticks)) (fun _ => rfl)
theorem cPart_enc (x : Part) : cPart.enc x = [.int .i64 x.floor, .int .i64 x.dir, .int .i64 x.ticks] := rfl
structure Going where
 c : Car
 next : Int
 cmd : Int
 deriving DecidableEq
def cGoing : Cel Going := Cel.iso (Cel.prod cCar (Cel.prod (Cel.int .i64) (Cel.int .i64))) (fun p => ⟨p.1, p.2.1, p.2.2⟩) (fun x => (x.c, x.next, x.cmd)) (fun _ => rfl)
theorem cGoing_enc (x : Going) : cGoing.enc x = [.int .i64 x.c.floor, .int .i64 x.c.dir, .int .i64 x.c.phase, .int .i64 x.c.left, .int .i64 x.c.door.phase, .int .i64 x.c.door.left, .int .i64 x.c.door.held, .int .i64 x.next, .int .i64 x.cmd] := rfl
structure Tick where
 phase : Int
 held : Bool
 deriving DecidableEq
def cTick : Cel Tick := Cel.iso (Cel.prod (Cel.int .i64) Cel.bool) (fun p => ⟨p.1, p.2⟩) (fun x => (x.phase, x.held)) (fun _ => rfl)
theorem cTick_enc (x : Tick) : cTick.enc x = [.int .i64 x.phase, .bool x.held] := rfl
structure CarStepped where
 c : Car
 o : OutT
 deriving DecidableEq
def cCarStepped : Cel CarStepped := Cel.iso (Cel.prod cCar cOutT) (fun p => ⟨p.1, p.2⟩) (fun x => (x.c, x.o)) (fun _ => rfl)
theorem cCarStepped_enc (x : CarStepped) : cCarStepped.enc x = [.int .i64 x.c.floor, .int .i64 x.c.dir, .int .i64 x.c.phase, .int .i64 x.c.left, .int .i64 x.c.door.phase, .int .i64 x.c.door.left, .int .i64 x.c.door.held, .int .i64 x.o.motor, .int .i64 x.o.door, .int .i64 x.o.floor, .bool x.o.chime] := rfl
inductive El where
 | int
 | u8
 | bool
 | feast
 | turn
 | window
 | span
 | hall
 | inside
 | press
 | lift
 | out
 | order
 | car
 | stop
 | hdate
 | date
 deriving DecidableEq
abbrev El.den : El → Type
 | .int => Int
 | .u8 => Int
 | .bool => Bool
 | .feast => Feast
 | .turn => Turn
 | .window => Window
 | .span => Span
 | .hall => Hall
 | .inside => Inside
 | .press => Press
 | .lift => Lift
 | .out => OutT
 | .order => Order
 | .car => Car
 | .stop => Stop
 | .hdate => HDate
 | .date => Date
def El.cel : (t : El) → Cel t.den
 | .int => (Cel.int .i64)
 | .u8 => (Cel.int .u8)
 | .bool => Cel.bool
 | .feast => cFeast
 | .turn => cTurn
 | .window => cWindow
 | .span => cSpan
 | .hall => cHall
 | .inside => cInside
 | .press => cPress
 | .lift => cLift
 | .out => cOutT
 | .order => cOrder
 | .car => cCar
 | .stop => cStop
 | .hdate => cHDate
 | .date => cDate
structure Config where
 floors : Int
 cars : Int
 park : Int
 stops : List Int
 times : Times
 rest : Int
 pater : Int
 zone : Zone
 sun : Sun
 abroad : Bool
 windows : List Window
structure Record where
 gen : Int
 clock : Int
 mode : Int
 config : List Int
structure Flash where
 a : List Int
 b : List Int
structure Calls where
 halls : List Hall
 in_ : List Inside
structure View where
 in_ : List Int
 up : List Int
 down : List Int
structure Plan where
 stops : List Int
 cars : Int
 car : Int
structure Auto where
 config : Config
 mode : Int
 nth : Int
 age : Int
 car : Car
structure Moves where
 plan : Plan
 gear : Gear
 home : Int
structure Pieces where
 l : List Span
 from_ : Int
 at_ : Int
 to_ : Int
structure Twins where
 a : Auto
 c : Car
 t : Touch
 o : Touch
structure Ride where
 g : Gear
 floor : Int
 up : Bool
 l : List Order
structure TwoWin where
 c : Config
 w : Window
 day : Int
 more : Int
end Go.Proofs.YtfhepbbkggdlcaaGreatDoor.Px
