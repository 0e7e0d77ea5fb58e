/- The program's structures, and how they are laid. -/
import Derived.Test.YtfhepbbkggdlcaaGreatDoorPxPat
set_option linter.unusedVariables false
set_option linter.unusedSimpArgs false
namespace Go.Proofs.YtfhepbbkggdlcaaGreatDoor.Px
open Go
structure Date where
 year:Int
 month:Int
 day:Int
 deriving DecidableEq
def Ij:Cel Date:=Cel.iso (Cel.prod (Cel.int .i64) (Cel.prod (Cel.int .i64) (Cel.int .i64))) (fun p=>⟨p.1,p.2.1,p.2.2⟩) (fun x=>(x.year,x.month,x.day)) (fun _=>rfl)
structure ob where
 year:Int
 month:Int
 day:Int
 deriving DecidableEq
def F6:Cel ob:=Cel.iso (Cel.prod (Cel.int .i64) (Cel.prod (Cel.int .i64) (Cel.int .i64))) (fun p=>⟨p.1,p.2.1,p.2.2⟩) (fun x=>(x.year,x.month,x.day)) (fun _=>rfl)
structure Tx where
 kind:Int
 day:Int
 deriving DecidableEq
def Uj:Cel Tx:=Cel.iso (Cel.prod (Cel.int .i64) (Cel.int .i64)) (fun p=>⟨p.1,p.2⟩) (fun x=>(x.kind,x.day)) (fun _=>rfl)
structure oi where
 month:Int
 ck:Int
 weekday:Int
 minute:Int
 deriving DecidableEq
def EN:Cel oi:=Cel.iso (Cel.prod (Cel.int .i64) (Cel.prod (Cel.int .i64) (Cel.prod (Cel.int .i64) (Cel.int .i64)))) (fun p=>⟨p.1,p.2.1,p.2.2.1,p.2.2.2⟩) (fun x=>(x.month,x.ck,x.weekday,x.minute)) (fun _=>rfl)
structure a8 where
 base:Int
 shift:Int
 on:oi
 off:oi
 deriving DecidableEq
def jE:Cel a8:=Cel.iso (Cel.prod (Cel.int .i64) (Cel.prod (Cel.int .i64) (Cel.prod EN EN))) (fun p=>⟨p.1,p.2.1,p.2.2.1,p.2.2.2⟩) (fun x=>(x.base,x.shift,x.on,x.off)) (fun _=>rfl)
structure Sun where
 m0:Int
 m1:Int
 m2:Int
 m3:Int
 m4:Int
 m5:Int
 m6:Int
 m7:Int
 m8:Int
 m9:Int
 m10:Int
 m11:Int
 deriving DecidableEq
def H7:Cel Sun:=Cel.iso (Cel.prod (Cel.int .i64) (Cel.prod (Cel.int .i64) (Cel.prod (Cel.int .i64) (Cel.prod (Cel.int .i64) (Cel.prod (Cel.int .i64) (Cel.prod (Cel.int .i64) (Cel.prod (Cel.int .i64) (Cel.prod (Cel.int .i64) (Cel.prod (Cel.int .i64) (Cel.prod (Cel.int .i64) (Cel.prod (Cel.int .i64) (Cel.int .i64)))))))))))) (fun p=>⟨p.1,p.2.1,p.2.2.1,p.2.2.2.1,p.2.2.2.2.1,p.2.2.2.2.2.1,p.2.2.2.2.2.2.1,p.2.2.2.2.2.2.2.1,p.2.2.2.2.2.2.2.2.1,p.2.2.2.2.2.2.2.2.2.1,p.2.2.2.2.2.2.2.2.2.2.1,p.2.2.2.2.2.2.2.2.2.2.2⟩) (fun x=>(x.m0,x.m1,x.m2,x.m3,x.m4,x.m5,x.m6,x.m7,x.m8,x.m9,x.m10,x.m11)) (fun _=>rfl)
structure U4 where
 s0:Int
 s1:Int
 s2:Int
 s3:Int
 s4:Int
 s5:Int
 s6:Int
 s7:Int
 s8:Int
 s9:Int
 s10:Int
 s11:Int
 s12:Int
 deriving DecidableEq
def UZ:Cel U4:=Cel.iso (Cel.prod (Cel.int .i64) (Cel.prod (Cel.int .i64) (Cel.prod (Cel.int .i64) (Cel.prod (Cel.int .i64) (Cel.prod (Cel.int .i64) (Cel.prod (Cel.int .i64) (Cel.prod (Cel.int .i64) (Cel.prod (Cel.int .i64) (Cel.prod (Cel.int .i64) (Cel.prod (Cel.int .i64) (Cel.prod (Cel.int .i64) (Cel.prod (Cel.int .i64) (Cel.int .i64))))))))))))) (fun p=>⟨p.1,p.2.1,p.2.2.1,p.2.2.2.1,p.2.2.2.2.1,p.2.2.2.2.2.1,p.2.2.2.2.2.2.1,p.2.2.2.2.2.2.2.1,p.2.2.2.2.2.2.2.2.1,p.2.2.2.2.2.2.2.2.2.1,p.2.2.2.2.2.2.2.2.2.2.1,p.2.2.2.2.2.2.2.2.2.2.2.1,p.2.2.2.2.2.2.2.2.2.2.2.2⟩) (fun x=>(x.s0,x.s1,x.s2,x.s3,x.s4,x.s5,x.s6,x.s7,x.s8,x.s9,x.s10,x.s11,x.s12)) (fun _=>rfl)
structure QJ where
 jZ:Int
 level:Int
 open_:Int
 hZ:Int
 lead:Int
 close:Int
 hold:Int
 deriving DecidableEq
def OQ:Cel QJ:=Cel.iso (Cel.prod (Cel.int .i64) (Cel.prod (Cel.int .i64) (Cel.prod (Cel.int .i64) (Cel.prod (Cel.int .i64) (Cel.prod (Cel.int .i64) (Cel.prod (Cel.int .i64) (Cel.int .i64))))))) (fun p=>⟨p.1,p.2.1,p.2.2.1,p.2.2.2.1,p.2.2.2.2.1,p.2.2.2.2.2.1,p.2.2.2.2.2.2⟩) (fun x=>(x.jZ,x.level,x.open_,x.hZ,x.lead,x.close,x.hold)) (fun _=>rfl)
structure ag where
 kind:Int
 mode:Int
 prio:Int
 arg:Int
 shift:Int
 minute:Int
 len:Int
 deriving DecidableEq
def dw:Cel ag:=Cel.iso (Cel.prod (Cel.int .i64) (Cel.prod (Cel.int .i64) (Cel.prod (Cel.int .i64) (Cel.prod (Cel.int .i64) (Cel.prod (Cel.int .i64) (Cel.prod (Cel.int .i64) (Cel.int .i64))))))) (fun p=>⟨p.1,p.2.1,p.2.2.1,p.2.2.2.1,p.2.2.2.2.1,p.2.2.2.2.2.1,p.2.2.2.2.2.2⟩) (fun x=>(x.kind,x.mode,x.prio,x.arg,x.shift,x.minute,x.len)) (fun _=>rfl)
structure Span where
 from_:Int
 to_:Int
 mode:Int
 prio:Int
 deriving DecidableEq
def uK:Cel Span:=Cel.iso (Cel.prod (Cel.int .i64) (Cel.prod (Cel.int .i64) (Cel.prod (Cel.int .i64) (Cel.int .i64)))) (fun p=>⟨p.1,p.2.1,p.2.2.1,p.2.2.2⟩) (fun x=>(x.from_,x.to_,x.mode,x.prio)) (fun _=>rfl)
structure WO where
 set:Bool
 has:Bool
 now:Int
 WR:Int
 deriving DecidableEq
structure Ut where
 phase:Int
 left:Int
 held:Int
 deriving DecidableEq
def US:Cel Ut:=Cel.iso (Cel.prod (Cel.int .i64) (Cel.prod (Cel.int .i64) (Cel.int .i64))) (fun p=>⟨p.1,p.2.1,p.2.2⟩) (fun x=>(x.phase,x.left,x.held)) (fun _=>rfl)
structure Car where
 floor:Int
 dir:Int
 phase:Int
 left:Int
 door:Ut
 deriving DecidableEq
def Vc:Cel Car:=Cel.iso (Cel.prod (Cel.int .i64) (Cel.prod (Cel.int .i64) (Cel.prod (Cel.int .i64) (Cel.prod (Cel.int .i64) US)))) (fun p=>⟨p.1,p.2.1,p.2.2.1,p.2.2.2.1,p.2.2.2.2⟩) (fun x=>(x.floor,x.dir,x.phase,x.left,x.door)) (fun _=>rfl)
structure Uk where
 bC:Int
 times:QJ
 hZ:Int
 most:Int
 deriving DecidableEq
structure Ug where
 Vi:Int
 door:Int
 floor:Int
 TG:Bool
 deriving DecidableEq
def UR:Cel Ug:=Cel.iso (Cel.prod (Cel.int .i64) (Cel.prod (Cel.int .i64) (Cel.prod (Cel.int .i64) Cel.bool))) (fun p=>⟨p.1,p.2.1,p.2.2.1,p.2.2.2⟩) (fun x=>(x.Vi,x.door,x.floor,x.TG)) (fun _=>rfl)
structure Order where
 cmd:Int
 held:Bool
 fault:Bool
 deriving DecidableEq
def Uc:Cel Order:=Cel.iso (Cel.prod (Cel.int .i64) (Cel.prod Cel.bool Cel.bool)) (fun p=>⟨p.1,p.2.1,p.2.2⟩) (fun x=>(x.cmd,x.held,x.fault)) (fun _=>rfl)
structure WI where
 bC:Int
 pO:Int
 deriving DecidableEq
structure Stop where
 car:Int
 floor:Int
 dir:Int
 deriving DecidableEq
def U5:Cel Stop:=Cel.iso (Cel.prod (Cel.int .i64) (Cel.prod (Cel.int .i64) (Cel.int .i64))) (fun p=>⟨p.1,p.2.1,p.2.2⟩) (fun x=>(x.car,x.floor,x.dir)) (fun _=>rfl)
structure TH where
 kind:Int
 floor:Int
 car:Int
 deriving DecidableEq
def T6:Cel TH:=Cel.iso (Cel.prod (Cel.int .i64) (Cel.prod (Cel.int .i64) (Cel.int .i64))) (fun p=>⟨p.1,p.2.1,p.2.2⟩) (fun x=>(x.kind,x.floor,x.car)) (fun _=>rfl)
structure T3 where
 floor:Int
 dir:Int
 car:Int
 deriving DecidableEq
def Vj:Cel T3:=Cel.iso (Cel.prod (Cel.int .i64) (Cel.prod (Cel.int .i64) (Cel.int .i64))) (fun p=>⟨p.1,p.2.1,p.2.2⟩) (fun x=>(x.floor,x.dir,x.car)) (fun _=>rfl)
structure KS where
 car:Int
 floor:Int
 deriving DecidableEq
def Si:Cel KS:=Cel.iso (Cel.prod (Cel.int .i64) (Cel.int .i64)) (fun p=>⟨p.1,p.2⟩) (fun x=>(x.car,x.floor)) (fun _=>rfl)
structure U6 where
 car:Car
 dir:Int
 up:Bool
 down:Bool
 deriving DecidableEq
def UU:Cel U6:=Cel.iso (Cel.prod Vc (Cel.prod (Cel.int .i64) (Cel.prod Cel.bool Cel.bool))) (fun p=>⟨p.1,p.2.1,p.2.2.1,p.2.2.2⟩) (fun x=>(x.car,x.dir,x.up,x.down)) (fun _=>rfl)
structure Touch where
 key:Bool
 held:Bool
 fault:Bool
 deriving DecidableEq
structure E4 where
 s:Span
 is:Bool
 deriving DecidableEq
def Uz:Cel E4:=Cel.iso (Cel.prod uK Cel.bool) (fun p=>⟨p.1,p.2⟩) (fun x=>(x.s,x.is)) (fun _=>rfl)
structure Vs where
 first:Int
 last:Int
 deriving DecidableEq
def U2:Cel Vs:=Cel.iso (Cel.prod (Cel.int .i64) (Cel.int .i64)) (fun p=>⟨p.1,p.2⟩) (fun x=>(x.first,x.last)) (fun _=>rfl)
structure Mh where
 day:Int
 part:Int
 deriving DecidableEq
def TE:Cel Mh:=Cel.iso (Cel.prod (Cel.int .i64) (Cel.int .i64)) (fun p=>⟨p.1,p.2⟩) (fun x=>(x.day,x.part)) (fun _=>rfl)
structure U9 where
 mode:Int
 since:Int
 deriving DecidableEq
def Vu:Cel U9:=Cel.iso (Cel.prod (Cel.int .i64) (Cel.int .i64)) (fun p=>⟨p.1,p.2⟩) (fun x=>(x.mode,x.since)) (fun _=>rfl)
structure WL where
 g:Uk
 c:Car
 cmd:Int
 held:Bool
 deriving DecidableEq
structure Tw where
 d:Ut
 TG:Bool
 deriving DecidableEq
structure Part where
 floor:Int
 dir:Int
 WK:Int
 deriving DecidableEq
structure WH where
 c:Car
 next:Int
 cmd:Int
 deriving DecidableEq
structure WS where
 phase:Int
 held:Bool
 deriving DecidableEq
structure UB where
 c:Car
 o:Ug
 deriving DecidableEq
inductive El where
 |int
 |u8
 |bool
 |Ty
 |turn
 |aV
 |span
 |ca
 |inside
 |TP
 |lift
 |out
 |order
 |car
 |stop
 |TR
 |date
 deriving DecidableEq
abbrev El.den:El→Type
 | .int=>Int
 | .u8=>Int
 | .bool=>Bool
 | .Ty=>Tx
 | .turn=>oi
 | .aV=>ag
 | .span=>Span
 | .ca=>T3
 | .inside=>KS
 | .TP=>TH
 | .lift=>U6
 | .out=>Ug
 | .order=>Order
 | .car=>Car
 | .stop=>Stop
 | .TR=>ob
 | .date=>Date
def El.cel:(t:El)→Cel t.den
 | .int=>(Cel.int .i64)
 | .u8=>(Cel.int .u8)
 | .bool=>Cel.bool
 | .Ty=>Uj
 | .turn=>EN
 | .aV=>dw
 | .span=>uK
 | .ca=>Vj
 | .inside=>Si
 | .TP=>T6
 | .lift=>UU
 | .out=>UR
 | .order=>Uc
 | .car=>Vc
 | .stop=>U5
 | .TR=>F6
 | .date=>Ij
structure Config where
 bC:Int
 pO:Int
 qy:Int
 stops:List Int
 times:QJ
 rest:Int
 iT:Int
 aE:a8
 sun:Sun
 bq:Bool
 ae:List ag
structure VN where
 gen:Int
 clock:Int
 mode:Int
 config:List Int
structure WM where
 a:List Int
 b:List Int
structure Calls where
 WN:List T3
 in_:List KS
structure View where
 in_:List Int
 up:List Int
 down:List Int
structure Wq where
 stops:List Int
 pO:Int
 car:Int
structure Wh where
 config:Config
 mode:Int
 nth:Int
 age:Int
 car:Car
structure WJ where
 WQ:Wq
 WU:Uk
 home:Int
structure WG where
 l:List Span
 from_:Int
 at_:Int
 to_:Int
structure Twins where
 a:Wh
 c:Car
 t:Touch
 o:Touch
structure WT where
 g:Uk
 floor:Int
 up:Bool
 l:List Order
structure Wr where
 c:Config
 w:ag
 day:Int
 more:Int
end Go.Proofs.YtfhepbbkggdlcaaGreatDoor.Px
