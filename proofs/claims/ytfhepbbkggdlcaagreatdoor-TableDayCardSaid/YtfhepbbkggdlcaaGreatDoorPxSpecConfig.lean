/- Configurations: what may be. -/
import Derived.Test.YtfhepbbkggdlcaaGreatDoorPxApi0
set_option linter.unusedVariables false
set_option linter.unusedSimpArgs false
namespace Go.Proofs.YtfhepbbkggdlcaaGreatDoor.Px
open Go
def inB (n a b : Int) : Bool := decide (a ≤ n) && decide (n ≤ b)
theorem inB_iff {n a b : Int} : inB n a b = true ↔ a ≤ n ∧ n ≤ b := by simp [inB]
def errIf (ok : Bool) (e : Int) : Int := cond ok 0 e
def timedB (w : Window) : Bool := inB w.minute 0 1439 && inB w.len 1 10080
def windowB (w : Window) : Bool :=
 inB w.mode 0 5 && inB w.prio 0 99 &&
 (cond (w.kind == 1) (timedB w && inB w.arg 1 127 && w.shift == 0)
 (cond (w.kind == 2) (timedB w && inB w.arg 401 3651998 && w.shift == 0)
 (cond (w.kind == 3) (timedB w && inB w.arg 1 7 && inB w.shift (-7) 7)
 (w.kind == 4 && w.arg == 0 && w.shift == 0 && inB w.minute 0 180 && inB w.len 0 180))))
def config_Window (w : Window) : Int := errIf (windowB w) 104
def sizeB (c : Config) : Bool := inB c.floors 2 64 && inB c.cars 1 8 && inB c.park 0 (IntKind.i64.wrap (c.floors - 1))
def config_size (c : Config) : Int := errIf (sizeB c) 100
def chkG (ok : Int → Bool) : Option Int → List Int → Bool
 | _, [] => true
 | none, x :: l => ok x && chkG ok (some x) l
 | some p, x :: l => ok x && decide (p < x) && chkG ok (some x) l
def chkS (top : Int) : Option Int → List Int → Bool := chkG fun x => inB x 0 top
def chkR (floors : Int) : Option Int → List Int → Bool := chkG fun x => decide (0 ≤ x) && decide (x < floors)
def stopsB (c : Config) : Bool := decide (2 ≤ c.stops.length) && chkS (IntKind.i64.wrap (c.floors - 1)) none c.stops
def ref_stops (c : Config) : Bool := decide (2 ≤ c.stops.length) && chkR c.floors none c.stops
def config_stops (c : Config) : Int := errIf (stopsB c) 101
def tickB (n : Int) : Bool := inB n 1 60
def timesC (c : Config) : Bool :=
 tickB c.times.travel && tickB c.times.level && tickB c.times.open_ && tickB c.times.dwell && tickB c.times.close &&
 inB c.times.hold 0 60 && inB c.rest 1 300 && inB c.pater 1 300 && decide (1 ≤ c.times.lead) && decide (c.times.lead ≤ c.times.dwell) && decide (c.times.lead ≤ c.rest) && decide (c.times.lead ≤ c.pater)
def config_times (c : Config) : Int := errIf (timesC c) 102
def turnB (x : Turn) : Bool := inB x.month 1 12 && inB x.week 1 5 && inB x.weekday 0 6 && inB x.minute 0 1439
def turn0 : Turn := ⟨0, 0, 0, 0⟩
def apart (a b : Int) : Int := if a ≤ b then b - a else a - b
def turnsB (z : Zone) : Bool := turnB z.on && turnB z.off && inB (apart z.on.month z.off.month) 2 10
def zone_Check (z : Zone) : Int :=
 cond (inB z.base (-720) 840) (cond (inB z.shift 0 120)
  (cond (cond (z.shift == 0) (decide (z.on = turn0) && decide (z.off = turn0)) (turnsB z)) 0 62) 61) 60
def sunL (s : Sun) : List Int := [s.m0, s.m1, s.m2, s.m3, s.m4, s.m5, s.m6, s.m7, s.m8, s.m9, s.m10, s.m11]
def stepsB : List Int → Bool
 | x :: y :: l => inB (y - x) (-120) 120 && stepsB (y :: l)
 | _ => true
def sunset_Check (s : Sun) : Int := cond ((sunL s).all fun n => inB n 900 1320) (errIf (stepsB (sunL s ++ [s.m0])) 71) 70
def firstBad (l : List Window) : Int := (l.findIdx fun w => !windowB w : Nat)
def config_windows (c : Config) : Int := cond (decide (c.windows.length > 16)) 103 (errIf (c.windows.all windowB) 104)
def orE (a b : Int) : Int := cond (a == 0) b a
def config_Check (c : Config) : Int := orE (config_size c) (orE (config_stops c) (orE (config_times c) (orE (zone_Check c.zone) (orE (sunset_Check c.sun) (config_windows c)))))
def few10 (c : Config) : Bool := decide (c.stops.length ≤ 80) && decide (c.windows.length ≤ 20)
def smallC (c : Config) : Bool := decide (c.stops.length ≤ 1048576) && decide (c.windows.length ≤ 1048576)
def ref_size (c : Config) : Bool := inB c.floors 2 64 && inB c.cars 1 8 && (decide (0 ≤ c.park) && decide (c.park < c.floors))
def ref_Check (c : Config) : Int := orE (errIf (ref_size c) 100) (orE (errIf (ref_stops c) 101) (orE (config_times c) (orE (zone_Check c.zone) (orE (sunset_Check c.sun) (config_windows c)))))
def own10 (c : Config) : Config := c
end Go.Proofs.YtfhepbbkggdlcaaGreatDoor.Px
namespace Go.Proofs.YtfhepbbkggdlcaaGreatDoor.Px
open Go
end Go.Proofs.YtfhepbbkggdlcaaGreatDoor.Px
