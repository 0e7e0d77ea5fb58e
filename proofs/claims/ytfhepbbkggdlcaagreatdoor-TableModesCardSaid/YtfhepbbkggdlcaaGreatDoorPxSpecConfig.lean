/- Configurations: what may be. -/
import Derived.Test.YtfhepbbkggdlcaaGreatDoorPxApi0
set_option linter.unusedVariables false
set_option linter.unusedSimpArgs false
namespace Go.Proofs.YtfhepbbkggdlcaaGreatDoor.Px
open Go
def inB (n a b:Int):Bool:=decide (a≤n)&&decide (n≤b)
theorem bF {n a b:Int}:inB n a b=true↔a≤n∧n≤b:=by simp[inB]
def dD (ok:Bool) (e:Int):Int:=cond ok 0 e
def jX (w:ag):Bool:=inB w.minute 0 1439&&inB w.len 1 10080
def bj (w:ag):Bool:=
 inB w.mode 0 5&&inB w.prio 0 99&&
 (cond (w.kind==1) (jX w&&inB w.arg 1 127&&w.shift==0)
 (cond (w.kind==2) (jX w&&inB w.arg 401 3651998&&w.shift==0)
 (cond (w.kind==3) (jX w&&inB w.arg 1 7&&inB w.shift (-7) 7)
 (w.kind==4&&w.arg==0&&w.shift==0&&inB w.minute 0 180&&inB w.len 0 180))))
def ak (w:ag):Int:=dD (bj w) 104
def EB (c:Config):Bool:=inB c.bC 2 64&&inB c.pO 1 8&&inB c.qy 0 (IntKind.i64.wrap (c.bC-1))
def cC (c:Config):Int:=dD (EB c) 100
def Cw (ok:Int→Bool):Option Int→List Int→Bool
 |_,[]=>true
 |none,x::l=>ok x&&Cw ok (some x) l
 |some p,x::l=>ok x&&decide (p<x)&&Cw ok (some x) l
def GZ (top:Int):Option Int→List Int→Bool:=Cw fun x=>inB x 0 top
def AG (bC:Int):Option Int→List Int→Bool:=Cw fun x=>decide (0≤x)&&decide (x<bC)
def GM (c:Config):Bool:=decide (2≤c.stops.length)&&GZ (IntKind.i64.wrap (c.bC-1)) none c.stops
def gP (c:Config):Bool:=decide (2≤c.stops.length)&&AG c.bC none c.stops
def cA (c:Config):Int:=dD (GM c) 101
def lq (n:Int):Bool:=inB n 1 60
def u7 (c:Config):Bool:=
 lq c.times.jZ&&lq c.times.level&&lq c.times.open_&&lq c.times.hZ&&lq c.times.close&&
 inB c.times.hold 0 60&&inB c.rest 1 300&&inB c.iT 1 300&&decide (1≤c.times.lead)&&decide (c.times.lead≤c.times.hZ)&&decide (c.times.lead≤c.rest)&&decide (c.times.lead≤c.iT)
def bW (c:Config):Int:=dD (u7 c) 102
def gL (x:oi):Bool:=inB x.month 1 12&&inB x.ck 1 5&&inB x.weekday 0 6&&inB x.minute 0 1439
def mD:oi:=⟨0,0,0,0⟩
def apart (a b:Int):Int:=if a≤b then b-a else a-b
def ka (z:a8):Bool:=gL z.on&&gL z.off&&inB (apart z.on.month z.off.month) 2 10
def ao (z:a8):Int:=
 cond (inB z.base (-720) 840) (cond (inB z.shift 0 120)
  (cond (cond (z.shift==0) (decide (z.on=mD)&&decide (z.off=mD)) (ka z)) 0 62) 61) 60
def gH (s:Sun):List Int:=[s.m0,s.m1,s.m2,s.m3,s.m4,s.m5,s.m6,s.m7,s.m8,s.m9,s.m10,s.m11]
def G2:List Int→Bool
 |x::y::l=>inB (y-x) (-120) 120&&G2 (y::l)
 |_=>true
def ax (s:Sun):Int:=cond ((gH s).all fun n=>inB n 900 1320) (dD (G2 (gH s++[s.m0])) 71) 70
def C7 (l:List ag):Int:=(l.findIdx fun w=> !bj w:Nat)
def bg (c:Config):Int:=cond (decide (c.ae.length>16)) 103 (dD (c.ae.all bj) 104)
def orE (a b:Int):Int:=cond (a==0) b a
def af (c:Config):Int:=orE (cC c) (orE (cA c) (orE (bW c) (orE (ao c.aE) (orE (ax c.sun) (bg c)))))
def C2 (c:Config):Bool:=decide (c.stops.length≤80)&&decide (c.ae.length≤20)
def aY (c:Config):Bool:=decide (c.stops.length≤1048576)&&decide (c.ae.length≤1048576)
def nP (c:Config):Bool:=inB c.bC 2 64&&inB c.pO 1 8&&(decide (0≤c.qy)&&decide (c.qy<c.bC))
def iV (c:Config):Int:=orE (dD (nP c) 100) (orE (dD (gP c) 101) (orE (bW c) (orE (ao c.aE) (orE (ax c.sun) (bg c)))))
def Oa (c:Config):Config:=c
end Go.Proofs.YtfhepbbkggdlcaaGreatDoor.Px
namespace Go.Proofs.YtfhepbbkggdlcaaGreatDoor.Px
open Go
end Go.Proofs.YtfhepbbkggdlcaaGreatDoor.Px
