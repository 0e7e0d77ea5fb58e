/- The kinds of elements, and the structures that hold rows. -/
import Derived.Test.YtfhepbbkggdlcaaGreatDoorPxApi0
import Derived.Test.YtfhepbbkggdlcaaGreatDoorProg
set_option linter.unusedVariables false
set_option linter.unusedSimpArgs false
namespace Go.Proofs.YtfhepbbkggdlcaaGreatDoor.Px
open Go Go.Proofs
noncomputable def src:Nat→Option (Array Tmp×Code×Code)
 |0=>BC (aN [false,true,false,true,true,true,true,true,true,true,true] (Tryz.f175.body.getD .skip))
 |1=>BC (aN [false,true,false,true,true,true,true] (Tryz.f13.body.getD .skip))
 |2=>BC (aN [false,true,false,true,true,true,true] (Tryz.f64.body.getD .skip))
 |_=>none
noncomputable instance els:bP:=Kn El inferInstance El.den El.cel src
theorem mb:cH els:=Mv
noncomputable def bG:Dat Config:=Dat.iso (Dat.prod (Dat.ah (Cel.int .i64)) (Dat.prod (Dat.ah (Cel.int .i64)) (Dat.prod (Dat.ah (Cel.int .i64)) (Dat.prod (Dat.sl mb (.int:El)) (Dat.prod (Dat.ah OQ) (Dat.prod (Dat.ah (Cel.int .i64)) (Dat.prod (Dat.ah (Cel.int .i64)) (Dat.prod (Dat.ah jE) (Dat.prod (Dat.ah H7) (Dat.prod (Dat.ah Cel.bool) (Dat.sl mb (.aV:El)))))))))))) (fun p=>⟨p.1,p.2.1,p.2.2.1,p.2.2.2.1,p.2.2.2.2.1,p.2.2.2.2.2.1,p.2.2.2.2.2.2.1,p.2.2.2.2.2.2.2.1,p.2.2.2.2.2.2.2.2.1,p.2.2.2.2.2.2.2.2.2.1,p.2.2.2.2.2.2.2.2.2.2⟩) (fun x=>(x.bC,x.pO,x.qy,x.stops,x.times,x.rest,x.iT,x.aE,x.sun,x.bq,x.ae)) (fun _=>rfl)
noncomputable def SC:Own Config:=Own.iso (Own.prod (Own.ah (Cel.int .i64)) (Own.prod (Own.ah (Cel.int .i64)) (Own.prod (Own.ah (Cel.int .i64)) (Own.prod (Own.sl (.int:El)) (Own.prod (Own.ah OQ) (Own.prod (Own.ah (Cel.int .i64)) (Own.prod (Own.ah (Cel.int .i64)) (Own.prod (Own.ah jE) (Own.prod (Own.ah H7) (Own.prod (Own.ah Cel.bool) (Own.sl (.aV:El)))))))))))) (fun p=>⟨p.1,p.2.1,p.2.2.1,p.2.2.2.1,p.2.2.2.2.1,p.2.2.2.2.2.1,p.2.2.2.2.2.2.1,p.2.2.2.2.2.2.2.1,p.2.2.2.2.2.2.2.2.1,p.2.2.2.2.2.2.2.2.2.1,p.2.2.2.2.2.2.2.2.2.2⟩) (fun x=>(x.bC,x.pO,x.qy,x.stops,x.times,x.rest,x.iT,x.aE,x.sun,x.bq,x.ae)) (fun _=>rfl)
end Go.Proofs.YtfhepbbkggdlcaaGreatDoor.Px
