/- The program's structures, and how they are laid. -/
import Derived.Test.YtdadgkgkdgnihaaPxPat
set_option linter.unusedVariables false
set_option linter.unusedSimpArgs false
namespace Go.Proofs.Ytdadgkgkdgnihaa.Px
open Go
structure Date where
 year:Int
 month:Int
 day:Int
 deriving DecidableEq
def Ba:Cel Date:=Cel.iso (Cel.prod (Cel.int .i64) (Cel.prod (Cel.int .i64) (Cel.int .i64))) (fun p=>⟨p.1,p.2.1,p.2.2⟩) (fun x=>(x.year,x.month,x.day)) (fun _=>rfl)
structure zI where
 year:Int
 month:Int
 day:Int
 deriving DecidableEq
def AK:Cel zI:=Cel.iso (Cel.prod (Cel.int .i64) (Cel.prod (Cel.int .i64) (Cel.int .i64))) (fun p=>⟨p.1,p.2.1,p.2.2⟩) (fun x=>(x.year,x.month,x.day)) (fun _=>rfl)
structure zE where
 kind:Int
 day:Int
 deriving DecidableEq
def AO:Cel zE:=Cel.iso (Cel.prod (Cel.int .i64) (Cel.int .i64)) (fun p=>⟨p.1,p.2⟩) (fun x=>(x.kind,x.day)) (fun _=>rfl)
structure zj where
 month:Int
 Bs:Int
 weekday:Int
 minute:Int
 deriving DecidableEq
def AX:Cel zj:=Cel.iso (Cel.prod (Cel.int .i64) (Cel.prod (Cel.int .i64) (Cel.prod (Cel.int .i64) (Cel.int .i64)))) (fun p=>⟨p.1,p.2.1,p.2.2.1,p.2.2.2⟩) (fun x=>(x.month,x.Bs,x.weekday,x.minute)) (fun _=>rfl)
structure Bu where
 base:Int
 shift:Int
 on:zj
 off:zj
 deriving DecidableEq
structure Sun where
 m0:Int
 m1:Int
 m2:Int
 m3:Int
 m4:Int
 m5:Int
 m6:Int
 m7:Int
 m8:Int
 m9:Int
 m10:Int
 m11:Int
 deriving DecidableEq
structure BQ where
 s0:Int
 s1:Int
 s2:Int
 s3:Int
 s4:Int
 s5:Int
 s6:Int
 s7:Int
 s8:Int
 s9:Int
 s10:Int
 s11:Int
 s12:Int
 deriving DecidableEq
structure zM where
 Bx:Int
 level:Int
 open_:Int
 A2:Int
 lead:Int
 close:Int
 hold:Int
 deriving DecidableEq
structure qz where
 kind:Int
 mode:Int
 prio:Int
 arg:Int
 shift:Int
 minute:Int
 len:Int
 deriving DecidableEq
def zk:Cel qz:=Cel.iso (Cel.prod (Cel.int .i64) (Cel.prod (Cel.int .i64) (Cel.prod (Cel.int .i64) (Cel.prod (Cel.int .i64) (Cel.prod (Cel.int .i64) (Cel.prod (Cel.int .i64) (Cel.int .i64))))))) (fun p=>⟨p.1,p.2.1,p.2.2.1,p.2.2.2.1,p.2.2.2.2.1,p.2.2.2.2.2.1,p.2.2.2.2.2.2⟩) (fun x=>(x.kind,x.mode,x.prio,x.arg,x.shift,x.minute,x.len)) (fun _=>rfl)
structure Span where
 from_:Int
 to_:Int
 mode:Int
 prio:Int
 deriving DecidableEq
def jH:Cel Span:=Cel.iso (Cel.prod (Cel.int .i64) (Cel.prod (Cel.int .i64) (Cel.prod (Cel.int .i64) (Cel.int .i64)))) (fun p=>⟨p.1,p.2.1,p.2.2.1,p.2.2.2⟩) (fun x=>(x.from_,x.to_,x.mode,x.prio)) (fun _=>rfl)
structure BJ where
 set:Bool
 has:Bool
 now:Int
 BS:Int
 deriving DecidableEq
structure As where
 phase:Int
 left:Int
 held:Int
 deriving DecidableEq
def Bl:Cel As:=Cel.iso (Cel.prod (Cel.int .i64) (Cel.prod (Cel.int .i64) (Cel.int .i64))) (fun p=>⟨p.1,p.2.1,p.2.2⟩) (fun x=>(x.phase,x.left,x.held)) (fun _=>rfl)
structure Car where
 floor:Int
 dir:Int
 phase:Int
 left:Int
 zZ:As
 deriving DecidableEq
def Bc:Cel Car:=Cel.iso (Cel.prod (Cel.int .i64) (Cel.prod (Cel.int .i64) (Cel.prod (Cel.int .i64) (Cel.prod (Cel.int .i64) Bl)))) (fun p=>⟨p.1,p.2.1,p.2.2.1,p.2.2.2.1,p.2.2.2.2⟩) (fun x=>(x.floor,x.dir,x.phase,x.left,x.zZ)) (fun _=>rfl)
structure AN where
 wR:Int
 times:zM
 A2:Int
 most:Int
 deriving DecidableEq
structure Am where
 Bq:Int
 zZ:Int
 floor:Int
 zJ:Bool
 deriving DecidableEq
def A8:Cel Am:=Cel.iso (Cel.prod (Cel.int .i64) (Cel.prod (Cel.int .i64) (Cel.prod (Cel.int .i64) Cel.bool))) (fun p=>⟨p.1,p.2.1,p.2.2.1,p.2.2.2⟩) (fun x=>(x.Bq,x.zZ,x.floor,x.zJ)) (fun _=>rfl)
structure Order where
 cmd:Int
 held:Bool
 fault:Bool
 deriving DecidableEq
def AQ:Cel Order:=Cel.iso (Cel.prod (Cel.int .i64) (Cel.prod Cel.bool Cel.bool)) (fun p=>⟨p.1,p.2.1,p.2.2⟩) (fun x=>(x.cmd,x.held,x.fault)) (fun _=>rfl)
structure BE where
 wR:Int
 Bn:Int
 deriving DecidableEq
structure Stop where
 car:Int
 floor:Int
 dir:Int
 deriving DecidableEq
def AY:Cel Stop:=Cel.iso (Cel.prod (Cel.int .i64) (Cel.prod (Cel.int .i64) (Cel.int .i64))) (fun p=>⟨p.1,p.2.1,p.2.2⟩) (fun x=>(x.car,x.floor,x.dir)) (fun _=>rfl)
structure zK where
 kind:Int
 floor:Int
 car:Int
 deriving DecidableEq
def Au:Cel zK:=Cel.iso (Cel.prod (Cel.int .i64) (Cel.prod (Cel.int .i64) (Cel.int .i64))) (fun p=>⟨p.1,p.2.1,p.2.2⟩) (fun x=>(x.kind,x.floor,x.car)) (fun _=>rfl)
structure z8 where
 floor:Int
 dir:Int
 car:Int
 deriving DecidableEq
def Bi:Cel z8:=Cel.iso (Cel.prod (Cel.int .i64) (Cel.prod (Cel.int .i64) (Cel.int .i64))) (fun p=>⟨p.1,p.2.1,p.2.2⟩) (fun x=>(x.floor,x.dir,x.car)) (fun _=>rfl)
structure tW where
 car:Int
 floor:Int
 deriving DecidableEq
def zD:Cel tW:=Cel.iso (Cel.prod (Cel.int .i64) (Cel.int .i64)) (fun p=>⟨p.1,p.2⟩) (fun x=>(x.car,x.floor)) (fun _=>rfl)
structure Bh where
 car:Car
 dir:Int
 up:Bool
 down:Bool
 deriving DecidableEq
def A1:Cel Bh:=Cel.iso (Cel.prod Bc (Cel.prod (Cel.int .i64) (Cel.prod Cel.bool Cel.bool))) (fun p=>⟨p.1,p.2.1,p.2.2.1,p.2.2.2⟩) (fun x=>(x.car,x.dir,x.up,x.down)) (fun _=>rfl)
structure Touch where
 key:Bool
 held:Bool
 fault:Bool
 deriving DecidableEq
structure BF where
 s:Span
 is:Bool
 deriving DecidableEq
structure BP where
 first:Int
 last:Int
 deriving DecidableEq
structure BZ where
 day:Int
 part:Int
 deriving DecidableEq
structure BT where
 mode:Int
 since:Int
 deriving DecidableEq
structure BN where
 g:AN
 c:Car
 cmd:Int
 held:Bool
 deriving DecidableEq
structure zU where
 d:As
 zJ:Bool
 deriving DecidableEq
structure Part where
 floor:Int
 dir:Int
 BG:Int
 deriving DecidableEq
structure BH where
 c:Car
 next:Int
 cmd:Int
 deriving DecidableEq
structure BR where
 phase:Int
 held:Bool
 deriving DecidableEq
structure Az where
 c:Car
 o:Am
 deriving DecidableEq
inductive El where
 |int
 |u8
 |bool
 |zL
 |turn
 |xY
 |span
 |bc
 |inside
 |zS
 |lift
 |out
 |order
 |car
 |stop
 |zQ
 |date
 deriving DecidableEq
abbrev El.den:El→Type
 | .int=>Int
 | .u8=>Int
 | .bool=>Bool
 | .zL=>zE
 | .turn=>zj
 | .xY=>qz
 | .span=>Span
 | .bc=>z8
 | .inside=>tW
 | .zS=>zK
 | .lift=>Bh
 | .out=>Am
 | .order=>Order
 | .car=>Car
 | .stop=>Stop
 | .zQ=>zI
 | .date=>Date
def El.cel:(t:El)→Cel t.den
 | .int=>(Cel.int .i64)
 | .u8=>(Cel.int .u8)
 | .bool=>Cel.bool
 | .zL=>AO
 | .turn=>AX
 | .xY=>zk
 | .span=>jH
 | .bc=>Bi
 | .inside=>zD
 | .zS=>Au
 | .lift=>A1
 | .out=>A8
 | .order=>AQ
 | .car=>Bc
 | .stop=>AY
 | .zQ=>AK
 | .date=>Ba
structure Config where
 wR:Int
 Bn:Int
 BV:Int
 stops:List Int
 times:zM
 rest:Int
 BK:Int
 BW:Bu
 sun:Sun
 Bz:Bool
 Br:List qz
structure BC where
 gen:Int
 clock:Int
 mode:Int
 config:List Int
structure BL where
 a:List Int
 b:List Int
structure Calls where
 BM:List z8
 in_:List tW
structure View where
 in_:List Int
 up:List Int
 down:List Int
structure BA where
 stops:List Int
 Bn:Int
 car:Int
structure Bv where
 config:Config
 mode:Int
 nth:Int
 age:Int
 car:Car
structure BI where
 BU:BA
 BO:AN
 home:Int
structure BD where
 l:List Span
 from_:Int
 at_:Int
 to_:Int
structure Twins where
 a:Bv
 c:Car
 t:Touch
 o:Touch
structure BX where
 g:AN
 floor:Int
 up:Bool
 l:List Order
structure Bw where
 c:Config
 w:qz
 day:Int
 more:Int
end Go.Proofs.Ytdadgkgkdgnihaa.Px
