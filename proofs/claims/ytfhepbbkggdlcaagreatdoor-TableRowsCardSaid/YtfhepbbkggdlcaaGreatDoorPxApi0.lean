/- The program's structures, and how they are laid. -/
import Derived.Test.YtfhepbbkggdlcaaGreatDoorPxPat
set_option linter.unusedVariables false
set_option linter.unusedSimpArgs false
namespace Go.Proofs.YtfhepbbkggdlcaaGreatDoor.Px
open Go
structure Date where
 year:Int
 month:Int
 day:Int
 deriving DecidableEq
def Jz:Cel Date:=Cel.iso (Cel.prod (Cel.int .i64) (Cel.prod (Cel.int .i64) (Cel.int .i64))) (fun p=>⟨p.1,p.2.1,p.2.2⟩) (fun x=>(x.year,x.month,x.day)) (fun _=>rfl)
structure n9 where
 year:Int
 month:Int
 day:Int
 deriving DecidableEq
def He:Cel n9:=Cel.iso (Cel.prod (Cel.int .i64) (Cel.prod (Cel.int .i64) (Cel.int .i64))) (fun p=>⟨p.1,p.2.1,p.2.2⟩) (fun x=>(x.year,x.month,x.day)) (fun _=>rfl)
structure Ux where
 kind:Int
 day:Int
 deriving DecidableEq
def UN:Cel Ux:=Cel.iso (Cel.prod (Cel.int .i64) (Cel.int .i64)) (fun p=>⟨p.1,p.2⟩) (fun x=>(x.kind,x.day)) (fun _=>rfl)
structure nU where
 month:Int
 ck:Int
 weekday:Int
 minute:Int
 deriving DecidableEq
def EX:Cel nU:=Cel.iso (Cel.prod (Cel.int .i64) (Cel.prod (Cel.int .i64) (Cel.prod (Cel.int .i64) (Cel.int .i64)))) (fun p=>⟨p.1,p.2.1,p.2.2.1,p.2.2.2⟩) (fun x=>(x.month,x.ck,x.weekday,x.minute)) (fun _=>rfl)
structure bc where
 base:Int
 shift:Int
 on:nU
 off:nU
 deriving DecidableEq
def ka:Cel bc:=Cel.iso (Cel.prod (Cel.int .i64) (Cel.prod (Cel.int .i64) (Cel.prod EX EX))) (fun p=>⟨p.1,p.2.1,p.2.2.1,p.2.2.2⟩) (fun x=>(x.base,x.shift,x.on,x.off)) (fun _=>rfl)
structure Sun where
 m0:Int
 m1:Int
 m2:Int
 m3:Int
 m4:Int
 m5:Int
 m6:Int
 m7:Int
 m8:Int
 m9:Int
 m10:Int
 m11:Int
 deriving DecidableEq
def Jj:Cel Sun:=Cel.iso (Cel.prod (Cel.int .i64) (Cel.prod (Cel.int .i64) (Cel.prod (Cel.int .i64) (Cel.prod (Cel.int .i64) (Cel.prod (Cel.int .i64) (Cel.prod (Cel.int .i64) (Cel.prod (Cel.int .i64) (Cel.prod (Cel.int .i64) (Cel.prod (Cel.int .i64) (Cel.prod (Cel.int .i64) (Cel.prod (Cel.int .i64) (Cel.int .i64)))))))))))) (fun p=>⟨p.1,p.2.1,p.2.2.1,p.2.2.2.1,p.2.2.2.2.1,p.2.2.2.2.2.1,p.2.2.2.2.2.2.1,p.2.2.2.2.2.2.2.1,p.2.2.2.2.2.2.2.2.1,p.2.2.2.2.2.2.2.2.2.1,p.2.2.2.2.2.2.2.2.2.2.1,p.2.2.2.2.2.2.2.2.2.2.2⟩) (fun x=>(x.m0,x.m1,x.m2,x.m3,x.m4,x.m5,x.m6,x.m7,x.m8,x.m9,x.m10,x.m11)) (fun _=>rfl)
structure VW where
 s0:Int
 s1:Int
 s2:Int
 s3:Int
 s4:Int
 s5:Int
 s6:Int
 s7:Int
 s8:Int
 s9:Int
 s10:Int
 s11:Int
 s12:Int
 deriving DecidableEq
def Wf:Cel VW:=Cel.iso (Cel.prod (Cel.int .i64) (Cel.prod (Cel.int .i64) (Cel.prod (Cel.int .i64) (Cel.prod (Cel.int .i64) (Cel.prod (Cel.int .i64) (Cel.prod (Cel.int .i64) (Cel.prod (Cel.int .i64) (Cel.prod (Cel.int .i64) (Cel.prod (Cel.int .i64) (Cel.prod (Cel.int .i64) (Cel.prod (Cel.int .i64) (Cel.prod (Cel.int .i64) (Cel.int .i64))))))))))))) (fun p=>⟨p.1,p.2.1,p.2.2.1,p.2.2.2.1,p.2.2.2.2.1,p.2.2.2.2.2.1,p.2.2.2.2.2.2.1,p.2.2.2.2.2.2.2.1,p.2.2.2.2.2.2.2.2.1,p.2.2.2.2.2.2.2.2.2.1,p.2.2.2.2.2.2.2.2.2.2.1,p.2.2.2.2.2.2.2.2.2.2.2.1,p.2.2.2.2.2.2.2.2.2.2.2.2⟩) (fun x=>(x.s0,x.s1,x.s2,x.s3,x.s4,x.s5,x.s6,x.s7,x.s8,x.s9,x.s10,x.s11,x.s12)) (fun _=>rfl)
structure R3 where
 kh:Int
 level:Int
 open_:Int
 ic:Int
 lead:Int
 close:Int
 hold:Int
 deriving DecidableEq
def Sj:Cel R3:=Cel.iso (Cel.prod (Cel.int .i64) (Cel.prod (Cel.int .i64) (Cel.prod (Cel.int .i64) (Cel.prod (Cel.int .i64) (Cel.prod (Cel.int .i64) (Cel.prod (Cel.int .i64) (Cel.int .i64))))))) (fun p=>⟨p.1,p.2.1,p.2.2.1,p.2.2.2.1,p.2.2.2.2.1,p.2.2.2.2.2.1,p.2.2.2.2.2.2⟩) (fun x=>(x.kh,x.level,x.open_,x.ic,x.lead,x.close,x.hold)) (fun _=>rfl)
structure ag where
 kind:Int
 mode:Int
 prio:Int
 arg:Int
 shift:Int
 minute:Int
 len:Int
 deriving DecidableEq
def dz:Cel ag:=Cel.iso (Cel.prod (Cel.int .i64) (Cel.prod (Cel.int .i64) (Cel.prod (Cel.int .i64) (Cel.prod (Cel.int .i64) (Cel.prod (Cel.int .i64) (Cel.prod (Cel.int .i64) (Cel.int .i64))))))) (fun p=>⟨p.1,p.2.1,p.2.2.1,p.2.2.2.1,p.2.2.2.2.1,p.2.2.2.2.2.1,p.2.2.2.2.2.2⟩) (fun x=>(x.kind,x.mode,x.prio,x.arg,x.shift,x.minute,x.len)) (fun _=>rfl)
structure Span where
 from_:Int
 to_:Int
 mode:Int
 prio:Int
 deriving DecidableEq
def vf:Cel Span:=Cel.iso (Cel.prod (Cel.int .i64) (Cel.prod (Cel.int .i64) (Cel.prod (Cel.int .i64) (Cel.int .i64)))) (fun p=>⟨p.1,p.2.1,p.2.2.1,p.2.2.2⟩) (fun x=>(x.from_,x.to_,x.mode,x.prio)) (fun _=>rfl)
structure XE where
 set:Bool
 has:Bool
 now:Int
 XM:Int
 deriving DecidableEq
structure UM where
 phase:Int
 left:Int
 held:Int
 deriving DecidableEq
def V6:Cel UM:=Cel.iso (Cel.prod (Cel.int .i64) (Cel.prod (Cel.int .i64) (Cel.int .i64))) (fun p=>⟨p.1,p.2.1,p.2.2⟩) (fun x=>(x.phase,x.left,x.held)) (fun _=>rfl)
structure Car where
 floor:Int
 dir:Int
 phase:Int
 left:Int
 door:UM
 deriving DecidableEq
def VO:Cel Car:=Cel.iso (Cel.prod (Cel.int .i64) (Cel.prod (Cel.int .i64) (Cel.prod (Cel.int .i64) (Cel.prod (Cel.int .i64) V6)))) (fun p=>⟨p.1,p.2.1,p.2.2.1,p.2.2.2.1,p.2.2.2.2⟩) (fun x=>(x.floor,x.dir,x.phase,x.left,x.door)) (fun _=>rfl)
structure UX where
 bE:Int
 times:R3
 ic:Int
 most:Int
 deriving DecidableEq
structure Vn where
 VH:Int
 door:Int
 floor:Int
 UK:Bool
 deriving DecidableEq
def VF:Cel Vn:=Cel.iso (Cel.prod (Cel.int .i64) (Cel.prod (Cel.int .i64) (Cel.prod (Cel.int .i64) Cel.bool))) (fun p=>⟨p.1,p.2.1,p.2.2.1,p.2.2.2⟩) (fun x=>(x.VH,x.door,x.floor,x.UK)) (fun _=>rfl)
structure Order where
 cmd:Int
 held:Bool
 fault:Bool
 deriving DecidableEq
def U5:Cel Order:=Cel.iso (Cel.prod (Cel.int .i64) (Cel.prod Cel.bool Cel.bool)) (fun p=>⟨p.1,p.2.1,p.2.2⟩) (fun x=>(x.cmd,x.held,x.fault)) (fun _=>rfl)
structure XJ where
 bE:Int
 pB:Int
 deriving DecidableEq
structure Stop where
 car:Int
 floor:Int
 dir:Int
 deriving DecidableEq
def VZ:Cel Stop:=Cel.iso (Cel.prod (Cel.int .i64) (Cel.prod (Cel.int .i64) (Cel.int .i64))) (fun p=>⟨p.1,p.2.1,p.2.2⟩) (fun x=>(x.car,x.floor,x.dir)) (fun _=>rfl)
structure Uo where
 kind:Int
 floor:Int
 car:Int
 deriving DecidableEq
def UQ:Cel Uo:=Cel.iso (Cel.prod (Cel.int .i64) (Cel.prod (Cel.int .i64) (Cel.int .i64))) (fun p=>⟨p.1,p.2.1,p.2.2⟩) (fun x=>(x.kind,x.floor,x.car)) (fun _=>rfl)
structure Vt where
 floor:Int
 dir:Int
 car:Int
 deriving DecidableEq
def VJ:Cel Vt:=Cel.iso (Cel.prod (Cel.int .i64) (Cel.prod (Cel.int .i64) (Cel.int .i64))) (fun p=>⟨p.1,p.2.1,p.2.2⟩) (fun x=>(x.floor,x.dir,x.car)) (fun _=>rfl)
structure KV where
 car:Int
 floor:Int
 deriving DecidableEq
def TZ:Cel KV:=Cel.iso (Cel.prod (Cel.int .i64) (Cel.int .i64)) (fun p=>⟨p.1,p.2⟩) (fun x=>(x.car,x.floor)) (fun _=>rfl)
structure V5 where
 car:Car
 dir:Int
 up:Bool
 down:Bool
 deriving DecidableEq
def VX:Cel V5:=Cel.iso (Cel.prod VO (Cel.prod (Cel.int .i64) (Cel.prod Cel.bool Cel.bool))) (fun p=>⟨p.1,p.2.1,p.2.2.1,p.2.2.2⟩) (fun x=>(x.car,x.dir,x.up,x.down)) (fun _=>rfl)
structure Touch where
 key:Bool
 held:Bool
 fault:Bool
 deriving DecidableEq
structure EZ where
 s:Span
 is:Bool
 deriving DecidableEq
def Vy:Cel EZ:=Cel.iso (Cel.prod vf Cel.bool) (fun p=>⟨p.1,p.2⟩) (fun x=>(x.s,x.is)) (fun _=>rfl)
structure VS where
 first:Int
 last:Int
 deriving DecidableEq
def V1:Cel VS:=Cel.iso (Cel.prod (Cel.int .i64) (Cel.int .i64)) (fun p=>⟨p.1,p.2⟩) (fun x=>(x.first,x.last)) (fun _=>rfl)
structure Od where
 day:Int
 part:Int
 deriving DecidableEq
def Ur:Cel Od:=Cel.iso (Cel.prod (Cel.int .i64) (Cel.int .i64)) (fun p=>⟨p.1,p.2⟩) (fun x=>(x.day,x.part)) (fun _=>rfl)
structure XN where
 mode:Int
 since:Int
 deriving DecidableEq
structure XD where
 g:UX
 c:Car
 cmd:Int
 held:Bool
 deriving DecidableEq
structure UC where
 d:UM
 UK:Bool
 deriving DecidableEq
structure Part where
 floor:Int
 dir:Int
 XH:Int
 deriving DecidableEq
structure XI where
 c:Car
 next:Int
 cmd:Int
 deriving DecidableEq
structure XP where
 phase:Int
 held:Bool
 deriving DecidableEq
structure UU where
 c:Car
 o:Vn
 deriving DecidableEq
inductive El where
 |int
 |u8
 |bool
 |UA
 |turn
 |aW
 |span
 |cg
 |inside
 |UE
 |lift
 |out
 |order
 |car
 |stop
 |Up
 |date
 deriving DecidableEq
abbrev El.den:El→Type
 | .int=>Int
 | .u8=>Int
 | .bool=>Bool
 | .UA=>Ux
 | .turn=>nU
 | .aW=>ag
 | .span=>Span
 | .cg=>Vt
 | .inside=>KV
 | .UE=>Uo
 | .lift=>V5
 | .out=>Vn
 | .order=>Order
 | .car=>Car
 | .stop=>Stop
 | .Up=>n9
 | .date=>Date
def El.cel:(t:El)→Cel t.den
 | .int=>(Cel.int .i64)
 | .u8=>(Cel.int .u8)
 | .bool=>Cel.bool
 | .UA=>UN
 | .turn=>EX
 | .aW=>dz
 | .span=>vf
 | .cg=>VJ
 | .inside=>TZ
 | .UE=>UQ
 | .lift=>VX
 | .out=>VF
 | .order=>U5
 | .car=>VO
 | .stop=>VZ
 | .Up=>He
 | .date=>Jz
structure Config where
 bE:Int
 pB:Int
 qQ:Int
 stops:List Int
 times:R3
 rest:Int
 jb:Int
 aK:bc
 sun:Sun
 bt:Bool
 ae:List ag
structure Wx where
 gen:Int
 clock:Int
 mode:Int
 config:List Int
structure XC where
 a:List Int
 b:List Int
structure Calls where
 XG:List Vt
 in_:List KV
structure View where
 in_:List Int
 up:List Int
 down:List Int
structure Xp where
 stops:List Int
 pB:Int
 car:Int
structure WL where
 config:Config
 mode:Int
 nth:Int
 age:Int
 car:Car
structure XF where
 XL:Xp
 XK:UX
 home:Int
structure WH where
 l:List Span
 from_:Int
 at_:Int
 to_:Int
structure Twins where
 a:WL
 c:Car
 t:Touch
 o:Touch
structure XO where
 g:UX
 floor:Int
 up:Bool
 l:List Order
structure WD where
 c:Config
 w:ag
 day:Int
 more:Int
end Go.Proofs.YtfhepbbkggdlcaaGreatDoor.Px
