/- The program's structures, and how they are laid. -/
import Derived.Test.YtfhepbbkggdlcaaGreatDoorPxPat
set_option linter.unusedVariables false
set_option linter.unusedSimpArgs false
namespace Go.Proofs.YtfhepbbkggdlcaaGreatDoor.Px
open Go
structure Date where
 year : Int
 month : Int
 day : Int
 deriving DecidableEq
def cDate : Cel Date := Cel.iso (Cel.prod (Cel.int .i64) (Cel.prod (Cel.int .i64) (Cel.int .i64))) (fun p => ⟨p.1, p.2.1, p.2.2⟩) (fun x => (x.year, x.month, x.day)) (fun _ => rfl)
structure HDate where
 year : Int
 month : Int
 day : Int
 deriving DecidableEq
def cHDate : Cel HDate := Cel.iso (Cel.prod (Cel.int .i64) (Cel.prod (Cel.int .i64) (Cel.int .i64))) (fun p => ⟨p.1, p.2.1, p.2.2⟩) (fun x => (x.year, x.month, x.day)) (fun _ => rfl)
structure Feast where
 kind : Int
 day : Int
 deriving DecidableEq
def cFeast : Cel Feast := Cel.iso (Cel.prod (Cel.int .i64) (Cel.int .i64)) (fun p => ⟨p.1, p.2⟩) (fun x => (x.kind, x.day)) (fun _ => rfl)
structure Turn where
 month : Int
 week : Int
 weekday : Int
 minute : Int
 deriving DecidableEq
def cTurn : Cel Turn := Cel.iso (Cel.prod (Cel.int .i64) (Cel.prod (Cel.int .i64) (Cel.prod (Cel.int .i64) (Cel.int .i64)))) (fun p => ⟨p.1, p.2.1, p.2.2.1, p.2.2.2⟩) (fun x => (x.month, x.week, x.weekday, x.minute)) (fun _ => rfl)
structure Zone where
 base : Int
 shift : Int
 on : Turn
 off : Turn
 deriving DecidableEq
def cZone : Cel Zone := Cel.iso (Cel.prod (Cel.int .i64) (Cel.prod (Cel.int .i64) (Cel.prod cTurn cTurn))) (fun p => ⟨p.1, p.2.1, p.2.2.1, p.2.2.2⟩) (fun x => (x.base, x.shift, x.on, x.off)) (fun _ => rfl)
structure Sun where
 m0 : Int
 m1 : Int
 m2 : Int
 m3 : Int
 m4 : Int
 m5 : Int
 m6 : Int
 m7 : Int
 m8 : Int
 m9 : Int
 m10 : Int
 m11 : Int
 deriving DecidableEq
def cSun : Cel Sun := Cel.iso (Cel.prod (Cel.int .i64) (Cel.prod (Cel.int .i64) (Cel.prod (Cel.int .i64) (Cel.prod (Cel.int .i64) (Cel.prod (Cel.int .i64) (Cel.prod (Cel.int .i64) (Cel.prod (Cel.int .i64) (Cel.prod (Cel.int .i64) (Cel.prod (Cel.int .i64) (Cel.prod (Cel.int .i64) (Cel.prod (Cel.int .i64) (Cel.int .i64)))))))))))) (fun p => ⟨p.1, p.2.1, p.2.2.1, p.2.2.2.1, p.2.2.2.2.1, p.2.2.2.2.2.1, p.2.2.2.2.2.2.1, p.2.2.2.2.2.2.2.1, p.2.2.2.2.2.2.2.2.1, p.2.2.2.2.2.2.2.2.2.1, p.2.2.2.2.2.2.2.2.2.2.1, p.2.2.2.2.2.2.2.2.2.2.2⟩) (fun x => (x.m0, x.m1, x.m2, x.m3, x.m4, x.m5, x.m6, x.m7, x.m8, x.m9, x.m10, x.m11)) (fun _ => rfl)
structure Sums where
 s0 : Int
 s1 : Int
 s2 : Int
 s3 : Int
 s4 : Int
 s5 : Int
 s6 : Int
 s7 : Int
 s8 : Int
 s9 : Int
 s10 : Int
 s11 : Int
 s12 : Int
 deriving DecidableEq
def cSums : Cel Sums := Cel.iso (Cel.prod (Cel.int .i64) (Cel.prod (Cel.int .i64) (Cel.prod (Cel.int .i64) (Cel.prod (Cel.int .i64) (Cel.prod (Cel.int .i64) (Cel.prod (Cel.int .i64) (Cel.prod (Cel.int .i64) (Cel.prod (Cel.int .i64) (Cel.prod (Cel.int .i64) (Cel.prod (Cel.int .i64) (Cel.prod (Cel.int .i64) (Cel.prod (Cel.int .i64) (Cel.int .i64))))))))))))) (fun p => ⟨p.1, p.2.1, p.2.2.1, p.2.2.2.1, p.2.2.2.2.1, p.2.2.2.2.2.1, p.2.2.2.2.2.2.1, p.2.2.2.2.2.2.2.1, p.2.2.2.2.2.2.2.2.1, p.2.2.2.2.2.2.2.2.2.1, p.2.2.2.2.2.2.2.2.2.2.1, p.2.2.2.2.2.2.2.2.2.2.2.1, p.2.2.2.2.2.2.2.2.2.2.2.2⟩) (fun x => (x.s0, x.s1, x.s2, x.s3, x.s4, x.s5, x.s6, x.s7, x.s8, x.s9, x.s10, x.s11, x.s12)) (fun _ => rfl)
structure Times where
 travel : Int
 level : Int
 open_ : Int
 dwell : Int
 lead : Int
 close : Int
 hold : Int
 deriving DecidableEq
def cTimes : Cel Times := Cel.iso (Cel.prod (Cel.int .i64) (Cel.prod (Cel.int .i64) (Cel.prod (Cel.int .i64) (Cel.prod (Cel.int .i64) (Cel.prod (Cel.int .i64) (Cel.prod (Cel.int .i64) (Cel.int .i64))))))) (fun p => ⟨p.1, p.2.1, p.2.2.1, p.2.2.2.1, p.2.2.2.2.1, p.2.2.2.2.2.1, p.2.2.2.2.2.2⟩) (fun x => (x.travel, x.level, x.open_, x.dwell, x.lead, x.close, x.hold)) (fun _ => rfl)
structure Window where
 kind : Int
 mode : Int
 prio : Int
 arg : Int
 shift : Int
 minute : Int
 len : Int
 deriving DecidableEq
def cWindow : Cel Window := Cel.iso (Cel.prod (Cel.int .i64) (Cel.prod (Cel.int .i64) (Cel.prod (Cel.int .i64) (Cel.prod (Cel.int .i64) (Cel.prod (Cel.int .i64) (Cel.prod (Cel.int .i64) (Cel.int .i64))))))) (fun p => ⟨p.1, p.2.1, p.2.2.1, p.2.2.2.1, p.2.2.2.2.1, p.2.2.2.2.2.1, p.2.2.2.2.2.2⟩) (fun x => (x.kind, x.mode, x.prio, x.arg, x.shift, x.minute, x.len)) (fun _ => rfl)
structure Span where
 from_ : Int
 to_ : Int
 mode : Int
 prio : Int
 deriving DecidableEq
def cSpan : Cel Span := Cel.iso (Cel.prod (Cel.int .i64) (Cel.prod (Cel.int .i64) (Cel.prod (Cel.int .i64) (Cel.int .i64)))) (fun p => ⟨p.1, p.2.1, p.2.2.1, p.2.2.2⟩) (fun x => (x.from_, x.to_, x.mode, x.prio)) (fun _ => rfl)
structure Clock where
 set : Bool
 has : Bool
 now : Int
 cand : Int
 deriving DecidableEq
structure Door where
 phase : Int
 left : Int
 held : Int
 deriving DecidableEq
def cDoor : Cel Door := Cel.iso (Cel.prod (Cel.int .i64) (Cel.prod (Cel.int .i64) (Cel.int .i64))) (fun p => ⟨p.1, p.2.1, p.2.2⟩) (fun x => (x.phase, x.left, x.held)) (fun _ => rfl)
structure Car where
 floor : Int
 dir : Int
 phase : Int
 left : Int
 door : Door
 deriving DecidableEq
def cCar : Cel Car := Cel.iso (Cel.prod (Cel.int .i64) (Cel.prod (Cel.int .i64) (Cel.prod (Cel.int .i64) (Cel.prod (Cel.int .i64) cDoor)))) (fun p => ⟨p.1, p.2.1, p.2.2.1, p.2.2.2.1, p.2.2.2.2⟩) (fun x => (x.floor, x.dir, x.phase, x.left, x.door)) (fun _ => rfl)
structure Gear where
 floors : Int
 times : Times
 dwell : Int
 most : Int
 deriving DecidableEq
structure OutT where
 motor : Int
 door : Int
 floor : Int
 chime : Bool
 deriving DecidableEq
def cOutT : Cel OutT := Cel.iso (Cel.prod (Cel.int .i64) (Cel.prod (Cel.int .i64) (Cel.prod (Cel.int .i64) Cel.bool))) (fun p => ⟨p.1, p.2.1, p.2.2.1, p.2.2.2⟩) (fun x => (x.motor, x.door, x.floor, x.chime)) (fun _ => rfl)
structure Order where
 cmd : Int
 held : Bool
 fault : Bool
 deriving DecidableEq
def cOrder : Cel Order := Cel.iso (Cel.prod (Cel.int .i64) (Cel.prod Cel.bool Cel.bool)) (fun p => ⟨p.1, p.2.1, p.2.2⟩) (fun x => (x.cmd, x.held, x.fault)) (fun _ => rfl)
structure House where
 floors : Int
 cars : Int
 deriving DecidableEq
structure Stop where
 car : Int
 floor : Int
 dir : Int
 deriving DecidableEq
def cStop : Cel Stop := Cel.iso (Cel.prod (Cel.int .i64) (Cel.prod (Cel.int .i64) (Cel.int .i64))) (fun p => ⟨p.1, p.2.1, p.2.2⟩) (fun x => (x.car, x.floor, x.dir)) (fun _ => rfl)
structure Press where
 kind : Int
 floor : Int
 car : Int
 deriving DecidableEq
def cPress : Cel Press := Cel.iso (Cel.prod (Cel.int .i64) (Cel.prod (Cel.int .i64) (Cel.int .i64))) (fun p => ⟨p.1, p.2.1, p.2.2⟩) (fun x => (x.kind, x.floor, x.car)) (fun _ => rfl)
structure Hall where
 floor : Int
 dir : Int
 car : Int
 deriving DecidableEq
def cHall : Cel Hall := Cel.iso (Cel.prod (Cel.int .i64) (Cel.prod (Cel.int .i64) (Cel.int .i64))) (fun p => ⟨p.1, p.2.1, p.2.2⟩) (fun x => (x.floor, x.dir, x.car)) (fun _ => rfl)
structure Inside where
 car : Int
 floor : Int
 deriving DecidableEq
def cInside : Cel Inside := Cel.iso (Cel.prod (Cel.int .i64) (Cel.int .i64)) (fun p => ⟨p.1, p.2⟩) (fun x => (x.car, x.floor)) (fun _ => rfl)
structure Lift where
 car : Car
 dir : Int
 up : Bool
 down : Bool
 deriving DecidableEq
def cLift : Cel Lift := Cel.iso (Cel.prod cCar (Cel.prod (Cel.int .i64) (Cel.prod Cel.bool Cel.bool))) (fun p => ⟨p.1, p.2.1, p.2.2.1, p.2.2.2⟩) (fun x => (x.car, x.dir, x.up, x.down)) (fun _ => rfl)
structure Touch where
 key : Bool
 held : Bool
 fault : Bool
 deriving DecidableEq
structure OpenW where
 s : Span
 is : Bool
 deriving DecidableEq
structure Row5 where
 first : Int
 last : Int
 deriving DecidableEq
structure Moon where
 day : Int
 part : Int
 deriving DecidableEq
structure NowT where
 mode : Int
 since : Int
 deriving DecidableEq
structure Stuck where
 g : Gear
 c : Car
 cmd : Int
 held : Bool
 deriving DecidableEq
structure DoorStepped where
 d : Door
 chime : Bool
 deriving DecidableEq
structure Part where
 floor : Int
 dir : Int
 ticks : Int
 deriving DecidableEq
structure Going where
 c : Car
 next : Int
 cmd : Int
 deriving DecidableEq
structure Tick where
 phase : Int
 held : Bool
 deriving DecidableEq
structure CarStepped where
 c : Car
 o : OutT
 deriving DecidableEq
inductive El where
 | int
 | u8
 | bool
 | feast
 | turn
 | window
 | span
 | hall
 | inside
 | press
 | lift
 | out
 | order
 | car
 | stop
 | hdate
 | date
 deriving DecidableEq
abbrev El.den : El → Type
 | .int => Int
 | .u8 => Int
 | .bool => Bool
 | .feast => Feast
 | .turn => Turn
 | .window => Window
 | .span => Span
 | .hall => Hall
 | .inside => Inside
 | .press => Press
 | .lift => Lift
 | .out => OutT
 | .order => Order
 | .car => Car
 | .stop => Stop
 | .hdate => HDate
 | .date => Date
def El.cel : (t : El) → Cel t.den
 | .int => (Cel.int .i64)
 | .u8 => (Cel.int .u8)
 | .bool => Cel.bool
 | .feast => cFeast
 | .turn => cTurn
 | .window => cWindow
 | .span => cSpan
 | .hall => cHall
 | .inside => cInside
 | .press => cPress
 | .lift => cLift
 | .out => cOutT
 | .order => cOrder
 | .car => cCar
 | .stop => cStop
 | .hdate => cHDate
 | .date => cDate
structure Config where
 floors : Int
 cars : Int
 park : Int
 stops : List Int
 times : Times
 rest : Int
 pater : Int
 zone : Zone
 sun : Sun
 abroad : Bool
 windows : List Window
structure Record where
 gen : Int
 clock : Int
 mode : Int
 config : List Int
structure Flash where
 a : List Int
 b : List Int
structure Calls where
 halls : List Hall
 in_ : List Inside
structure View where
 in_ : List Int
 up : List Int
 down : List Int
structure Plan where
 stops : List Int
 cars : Int
 car : Int
structure Auto where
 config : Config
 mode : Int
 nth : Int
 age : Int
 car : Car
structure Moves where
 plan : Plan
 gear : Gear
 home : Int
structure Pieces where
 l : List Span
 from_ : Int
 at_ : Int
 to_ : Int
structure Twins where
 a : Auto
 c : Car
 t : Touch
 o : Touch
structure Ride where
 g : Gear
 floor : Int
 up : Bool
 l : List Order
structure TwoWin where
 c : Config
 w : Window
 day : Int
 more : Int
end Go.Proofs.YtfhepbbkggdlcaaGreatDoor.Px
