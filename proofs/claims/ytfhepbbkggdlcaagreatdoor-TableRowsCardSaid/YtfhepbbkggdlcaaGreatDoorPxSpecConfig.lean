/- Configurations: what may be. -/
import Derived.Test.YtfhepbbkggdlcaaGreatDoorPxApi0
set_option linter.unusedVariables false
set_option linter.unusedSimpArgs false
namespace Go.Proofs.YtfhepbbkggdlcaaGreatDoor.Px
open Go
def inB (n a b:Int):Bool:=decide (a≤n)&&decide (n≤b)
theorem bG {n a b:Int}:inB n a b=true↔a≤n∧n≤b:=by simp[inB]
def dF (ok:Bool) (e:Int):Int:=cond ok 0 e
def kC (w:ag):Bool:=inB w.minute 0 1439&&inB w.len 1 10080
def bl (w:ag):Bool:=
 inB w.mode 0 5&&inB w.prio 0 99&&
 (cond (w.kind==1) (kC w&&inB w.arg 1 127&&w.shift==0)
 (cond (w.kind==2) (kC w&&inB w.arg 401 3651998&&w.shift==0)
 (cond (w.kind==3) (kC w&&inB w.arg 1 7&&inB w.shift (-7) 7)
 (w.kind==4&&w.arg==0&&w.shift==0&&inB w.minute 0 180&&inB w.len 0 180))))
def ak (w:ag):Int:=dF (bl w) 104
def Fs (c:Config):Bool:=inB c.bE 2 64&&inB c.pB 1 8&&inB c.qQ 0 (IntKind.i64.wrap (c.bE-1))
def cF (c:Config):Int:=dF (Fs c) 100
def Ed (ok:Int→Bool):Option Int→List Int→Bool
 |_,[]=>true
 |none,x::l=>ok x&&Ed ok (some x) l
 |some p,x::l=>ok x&&decide (p<x)&&Ed ok (some x) l
def FY (top:Int):Option Int→List Int→Bool:=Ed fun x=>inB x 0 top
def Ba (bE:Int):Option Int→List Int→Bool:=Ed fun x=>decide (0≤x)&&decide (x<bE)
def HG (c:Config):Bool:=decide (2≤c.stops.length)&&FY (IntKind.i64.wrap (c.bE-1)) none c.stops
def gN (c:Config):Bool:=decide (2≤c.stops.length)&&Ba c.bE none c.stops
def cA (c:Config):Int:=dF (HG c) 101
def mc (n:Int):Bool:=inB n 1 60
def w6 (c:Config):Bool:=
 mc c.times.kh&&mc c.times.level&&mc c.times.open_&&mc c.times.ic&&mc c.times.close&&
 inB c.times.hold 0 60&&inB c.rest 1 300&&inB c.jb 1 300&&decide (1≤c.times.lead)&&decide (c.times.lead≤c.times.ic)&&decide (c.times.lead≤c.rest)&&decide (c.times.lead≤c.jb)
def bZ (c:Config):Int:=dF (w6 c) 102
def gS (x:nU):Bool:=inB x.month 1 12&&inB x.ck 1 5&&inB x.weekday 0 6&&inB x.minute 0 1439
def mO:nU:=⟨0,0,0,0⟩
def apart (a b:Int):Int:=if a≤b then b-a else a-b
def kA (z:bc):Bool:=gS z.on&&gS z.off&&inB (apart z.on.month z.off.month) 2 10
def ao (z:bc):Int:=
 cond (inB z.base (-720) 840) (cond (inB z.shift 0 120)
  (cond (cond (z.shift==0) (decide (z.on=mO)&&decide (z.off=mO)) (kA z)) 0 62) 61) 60
def gH (s:Sun):List Int:=[s.m0,s.m1,s.m2,s.m3,s.m4,s.m5,s.m6,s.m7,s.m8,s.m9,s.m10,s.m11]
def HZ:List Int→Bool
 |x::y::l=>inB (y-x) (-120) 120&&HZ (y::l)
 |_=>true
def ax (s:Sun):Int:=cond ((gH s).all fun n=>inB n 900 1320) (dF (HZ (gH s++[s.m0])) 71) 70
def Cf (l:List ag):Int:=(l.findIdx fun w=> !bl w:Nat)
def bj (c:Config):Int:=cond (decide (c.ae.length>16)) 103 (dF (c.ae.all bl) 104)
def orE (a b:Int):Int:=cond (a==0) b a
def af (c:Config):Int:=orE (cF c) (orE (cA c) (orE (bZ c) (orE (ao c.aK) (orE (ax c.sun) (bj c)))))
def DC (c:Config):Bool:=decide (c.stops.length≤80)&&decide (c.ae.length≤20)
def aX (c:Config):Bool:=decide (c.stops.length≤1048576)&&decide (c.ae.length≤1048576)
def n7 (c:Config):Bool:=inB c.bE 2 64&&inB c.pB 1 8&&(decide (0≤c.qQ)&&decide (c.qQ<c.bE))
def gR (c:Config):Int:=orE (dF (n7 c) 100) (orE (dF (gN c) 101) (orE (bZ c) (orE (ao c.aK) (orE (ax c.sun) (bj c)))))
def RZ (c:Config):Config:=c
end Go.Proofs.YtfhepbbkggdlcaaGreatDoor.Px
namespace Go.Proofs.YtfhepbbkggdlcaaGreatDoor.Px
open Go
end Go.Proofs.YtfhepbbkggdlcaaGreatDoor.Px
