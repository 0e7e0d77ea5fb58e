/- The kinds of elements, and the structures that hold rows. -/
import Derived.Test.YtfhepbbkggdlcaaGreatDoorPxApi0
import Derived.Test.YtfhepbbkggdlcaaGreatDoorProg
set_option linter.unusedVariables false
set_option linter.unusedSimpArgs false
namespace Go.Proofs.YtfhepbbkggdlcaaGreatDoor.Px
open Go Go.Proofs
noncomputable def src:Nat→Option (Array Tmp×Code×Code)
 |0=>BD (aM [false,true,false,true,true,true,true,true,true,true,true] (Tryz.f175.body.getD .skip))
 |1=>BD (aM [false,true,false,true,true,true,true] (Tryz.f13.body.getD .skip))
 |2=>BD (aM [false,true,false,true,true,true,true] (Tryz.f64.body.getD .skip))
 |_=>none
noncomputable instance els:bQ:=Lk El inferInstance El.den El.cel src
theorem jc:cJ els:=M7
noncomputable def bF:Dat Config:=Dat.iso (Dat.prod (Dat.ah (Cel.int .i64)) (Dat.prod (Dat.ah (Cel.int .i64)) (Dat.prod (Dat.ah (Cel.int .i64)) (Dat.prod (Dat.sl jc (.int:El)) (Dat.prod (Dat.ah Sj) (Dat.prod (Dat.ah (Cel.int .i64)) (Dat.prod (Dat.ah (Cel.int .i64)) (Dat.prod (Dat.ah ka) (Dat.prod (Dat.ah Jj) (Dat.prod (Dat.ah Cel.bool) (Dat.sl jc (.aW:El)))))))))))) (fun p=>⟨p.1,p.2.1,p.2.2.1,p.2.2.2.1,p.2.2.2.2.1,p.2.2.2.2.2.1,p.2.2.2.2.2.2.1,p.2.2.2.2.2.2.2.1,p.2.2.2.2.2.2.2.2.1,p.2.2.2.2.2.2.2.2.2.1,p.2.2.2.2.2.2.2.2.2.2⟩) (fun x=>(x.bE,x.pB,x.qQ,x.stops,x.times,x.rest,x.jb,x.aK,x.sun,x.bt,x.ae)) (fun _=>rfl)
noncomputable def Th:Own Config:=Own.iso (Own.prod (Own.ah (Cel.int .i64)) (Own.prod (Own.ah (Cel.int .i64)) (Own.prod (Own.ah (Cel.int .i64)) (Own.prod (Own.sl (.int:El)) (Own.prod (Own.ah Sj) (Own.prod (Own.ah (Cel.int .i64)) (Own.prod (Own.ah (Cel.int .i64)) (Own.prod (Own.ah ka) (Own.prod (Own.ah Jj) (Own.prod (Own.ah Cel.bool) (Own.sl (.aW:El)))))))))))) (fun p=>⟨p.1,p.2.1,p.2.2.1,p.2.2.2.1,p.2.2.2.2.1,p.2.2.2.2.2.1,p.2.2.2.2.2.2.1,p.2.2.2.2.2.2.2.1,p.2.2.2.2.2.2.2.2.1,p.2.2.2.2.2.2.2.2.2.1,p.2.2.2.2.2.2.2.2.2.2⟩) (fun x=>(x.bE,x.pB,x.qQ,x.stops,x.times,x.rest,x.jb,x.aK,x.sun,x.bt,x.ae)) (fun _=>rfl)
end Go.Proofs.YtfhepbbkggdlcaaGreatDoor.Px
