/- The contracts of a seat's functions. -/
import Derived.Test.YtfhepbbkggdlcaaGreatDoorPxTTypes
import Derived.Test.YtfhepbbkggdlcaaGreatDoorPxSpecConfig
import Derived.Test.YtfhepbbkggdlcaaGreatDoorPxSpecGreg
import Derived.Test.YtfhepbbkggdlcaaGreatDoorPxSpecSpan
set_option linter.unusedVariables false
set_option linter.unusedSimpArgs false
namespace Go.Proofs.YtfhepbbkggdlcaaGreatDoor.Px.PxT
open Go Go.Proofs
noncomputable def vq:=(Sig.cons false (Dat.ah (Cel.int .i64)) (Sig.cons false (Dat.ah (Cel.int .i64)) (Sig.cons false (Dat.ah (Cel.int .i64)) Sig.nil)))
noncomputable def vn:=Res.bool
noncomputable def k1:Cfg (X:=els):={k0 with E:=(83,(vq).con vn (fun x=>(inB x.1 x.2.1 x.2.2.1)) (fun _=>true))::k0.E}
noncomputable def qp:=(Sig.cons false (Dat.ah (Cel.int .i64)) (Sig.cons false (Dat.ah (Cel.int .i64)) (Sig.cons false (Dat.ah (Cel.int .i64)) Sig.nil)))
noncomputable def qu:=Res.bool
noncomputable def k2:Cfg (X:=els):={k1 with E:=(89,(qp).con qu (fun x=>(inB x.1 x.2.1 x.2.2.1)) (fun _=>true))::k1.E}
noncomputable def vE:=(Sig.cons false (Dat.ah (Cel.int .i64)) (Sig.cons false (Dat.ah (Cel.int .i64)) Sig.nil))
noncomputable def Dk:=(Res.qV (Res.int .i64) (Res.int .i64))
noncomputable def k3:Cfg (X:=els):={k2 with E:=(78,(vE).con Dk (fun x=>(Me x.1 x.2.1)) (fun x=>bD x.1 x.2.1))::k2.E}
noncomputable def wJ:=(Sig.cons false (Dat.ah (Cel.int .i64)) (Sig.cons false (Dat.ah (Cel.int .i64)) Sig.nil))
noncomputable def Dd:=(Res.qV (Res.int .i64) (Res.int .i64))
noncomputable def k4:Cfg (X:=els):={k3 with E:=(128,(wJ).con Dd (fun x=>(MK x.1 x.2.1)) (fun x=>bD x.1 x.2.1))::k3.E}
noncomputable def sm:=(Sig.cons false (Dat.ah (Cel.int .i64)) (Sig.cons false (Dat.ah (Cel.int .i64)) (Sig.cons false (Dat.ah (Cel.int .i64)) Sig.nil)))
noncomputable def Ao:=(Res.qV (Res.int .i64) (Res.int .i64))
noncomputable def k5:Cfg (X:=els):={k4 with E:=(119,(sm).con Ao (fun x=>(II x.1 x.2.1 x.2.2.1)) (fun x=>zD x.1 x.2.1 x.2.2.1))::k4.E}
noncomputable def si:=(Sig.cons false (Dat.ah (Cel.int .i64)) Sig.nil)
noncomputable def ss:=Res.bool
noncomputable def k6:Cfg (X:=els):={k5 with E:=(87,(si).con ss (fun x=>(dU x.1)) (fun _=>true))::k5.E}
noncomputable def rR:=(Sig.cons false (Dat.ah (Cel.int .i64)) (Sig.cons false (Dat.ah (Cel.int .i64)) Sig.nil))
noncomputable def sD:=(Res.int .i64)
noncomputable def k7:Cfg (X:=els):={k6 with E:=(54,(rR).con sD (fun x=>(ai x.1 x.2.1)) (fun _=>true))::k6.E}
noncomputable def oN:=(Sig.cons false (Dat.ah (Cel.int .i64)) Sig.nil)
noncomputable def yg:=(Res.agg Wf)
noncomputable def k8:Cfg (X:=els):={k7 with E:=(56,(oN).con yg (fun x=>(Pj x.1)) (fun _=>true))::k7.E}
noncomputable def nH:=(Sig.cons false (Dat.ah (Cel.int .i64)) Sig.nil)
noncomputable def nK:=(Res.int .i64)
noncomputable def k9:Cfg (X:=els):={k8 with E:=(55,(nH).con nK (fun x=>(aF x.1)) (fun x=>qx x.1))::k8.E}
noncomputable def wz:=(Sig.cons true (Dat.ah Jz) Sig.nil)
noncomputable def Dq:=(Res.qV (Res.int .i64) (Res.int .i64))
noncomputable def k10:Cfg (X:=els):={k9 with E:=(25,(wz).con Dq (fun x=>(uZ x.1)) (fun _=>true))::k9.E}
noncomputable def zi:=(Sig.cons false (Dat.ah (Cel.int .i64)) Sig.nil)
noncomputable def Fz:=(Res.qV (Res.agg Jz) (Res.int .i64))
noncomputable def k11:Cfg (X:=els):={k10 with E:=(79,(zi).con Fz (fun x=>(ofG x.1)) (fun _=>true))::k10.E}
noncomputable def wy:=(Sig.cons false (Dat.ah (Cel.int .i64)) (Sig.cons false (Dat.ah (Cel.int .i64)) (Sig.cons false (Dat.ah (Cel.int .i64)) (Sig.cons false (Dat.ah (Cel.int .i64)) Sig.nil))))
noncomputable def CL:=(Res.qV (Res.int .i64) (Res.int .i64))
noncomputable def k12:Cfg (X:=els):={k11 with E:=(106,(wy).con CL (fun x=>(kE x.1 x.2.1 x.2.2.1 x.2.2.2.1)) (fun _=>true))::k11.E}
noncomputable def oP:=(Sig.cons true (Dat.ah ka) Sig.nil)
noncomputable def pH:=(Res.int .i64)
noncomputable def k13:Cfg (X:=els):={k12 with E:=(51,(oP).con pH (fun x=>(ao x.1)) (fun _=>true))::k12.E}
noncomputable def sX:=(Sig.cons true (Dat.ah ka) (Sig.cons true (Dat.ah EX) (Sig.cons false (Dat.ah (Cel.int .i64)) Sig.nil)))
noncomputable def rJ:=(Res.int .i64)
noncomputable def k14:Cfg (X:=els):={k13 with E:=(84,(sX).con rJ (fun x=>(bW x.1 x.2.1 x.2.2.1)) (fun x=>er x.1 x.2.1 x.2.2.1))::k13.E}
noncomputable def pS:=(Sig.cons true (Dat.ah ka) (Sig.cons false (Dat.ah (Cel.int .i64)) Sig.nil))
noncomputable def pq:=(Res.int .i64)
noncomputable def k15:Cfg (X:=els):={k14 with E:=(47,(pS).con pq (fun x=>(bK x.1 x.2.1)) (fun x=>dj x.1 x.2.1))::k14.E}
noncomputable def kK:=(Sig.cons true (Dat.ah ka) (Sig.cons false (Dat.ah (Cel.int .i64)) (Sig.cons false (Dat.ah (Cel.int .i64)) Sig.nil)))
noncomputable def kq:=(Out.tup (uu.cons (Out.one (Own.sl (.int:El))) (uu.last (Out.one (Own.ah (Cel.int .i64))))))
noncomputable def k16:Cfg (X:=els):={k15 with H:=(53,(kK).fU kq (fun x=>(qn x.1 x.2.1 x.2.2.1)) (fun _=>true))::k15.H}
noncomputable def nt:=(Sig.cons false (Dat.ah (Cel.int .i64)) Sig.nil)
noncomputable def mY:=Res.bool
noncomputable def k17:Cfg (X:=els):={k16 with E:=(52,(nt).con mY (fun x=>(dw x.1)) (fun _=>true))::k16.E}
def FI:Pat (X:=els):={tm:=[.any, .any, .any,(.is (.lit (AV.ptr 0 0))), .any, .any, .any, .any, .any,(.is (.int .i64)), .any, .any, .any, .any, .any, .any, .any, .any, .any, .any, .any, .any, .any, .any, .any, .any, .any, .any, .any, .any, .any, .any, .any, .any, .any, .any, .any, .any, .any, .any, .any, .any, .any, .any, .any, .any, .any, .any, .any],hp:=[(.raw [(.int .i64),(.int .i64),(.int .i64),(.int .i64),(.int .i64),(.int .i64),(.int .i64),(.int .i64),(.int .i64),(.int .i64)])]}
def tK:List Nat:=[3,9]
def Gy:List Nat:=[6,7]
noncomputable def B9:bA (X:=els):={keep:=tK,m:=1,mv:=[]}
def wI (O0 O1 O2 O3 O4 O5 O6 O7 O8 O9 v9:Int):St (X:=els):={tm:=[.any, .any, .any, .is (.ptr 0 0), .any, .any, .any, .any, .any, .is (.int .i64 v9), .any, .any, .any, .any, .any, .any, .any, .any, .any, .any, .any, .any, .any, .any, .any, .any, .any, .any, .any, .any, .any, .any, .any, .any, .any, .any, .any, .any, .any, .any, .any, .any, .any, .any, .any, .any, .any, .any, .any],hp:=[.raw [.int .i64 O0, .int .i64 O1, .int .i64 O2, .int .i64 O3, .int .i64 O4, .int .i64 O5, .int .i64 O6, .int .i64 O7, .int .i64 O8, .int .i64 O9]]}
def re (O0 O1 O2 O3 O4 O5 O6 O7 O8 O9 v9:Int):St (X:=els):=({tm:=[.any, .any, .any, .any, .any, .any, .is (.int .i64 (List.getD (Prod.fst (qn {base:=O0,shift:=O1,on:={month:=O2,ck:=O3,weekday:=O4,minute:=O5},off:={month:=O6,ck:=O7,weekday:=O8,minute:=O9}} (IntKind.wrap IntKind.i64 (Int.tdiv v9 1440)) (Int.tmod v9 1440))) 0 0)), .is (.int .i64 0), .any, .any, .any, .any, .any, .any, .any, .any, .any, .any, .any, .any, .any, .any, .any, .any, .any, .any, .any, .any, .any, .any, .any, .any, .any, .any, .any, .any, .any, .any, .any, .any, .any, .any, .any, .any, .any, .any, .any, .any, .any],hp:=[.raw [.int .i64 O0, .int .i64 O1, .int .i64 O2, .int .i64 O3, .int .i64 O4, .int .i64 O5, .int .i64 O6, .int .i64 O7, .int .i64 O8, .int .i64 O9],Blk.vec El.int (Prod.fst (qn {base:=O0,shift:=O1,on:={month:=O2,ck:=O3,weekday:=O4,minute:=O5},off:={month:=O6,ck:=O7,weekday:=O8,minute:=O9}} (IntKind.wrap IntKind.i64 (Int.tdiv v9 1440)) (Int.tmod v9 1440))) true]}:St (X:=els))
noncomputable def La:Code:=((aM [false,true,true,true,true] (Tryz.f24.body.getD .skip)).getD .skip|>fun c=>match c with| .loop c=>c|c=>c)
noncomputable def zb (F d n:Nat) (s:St (X:=els)):Option (Ex×St (X:=els)):=iter none (fun s' K'=>exec k17 none (bU k17 none F d) F 24 124 La s' (aU none B9 K')) n s (fun e s=>some (e,b8 Gy s))
noncomputable def Gf:List LV→List (Blk (X:=els))→List SV→cb
 | [],[],xs=>aa xs fun O0 xs=>aa xs fun O1 xs=>aa xs fun O2 xs=>aa xs fun O3 xs=>aa xs fun O4 xs=>aa xs fun O5 xs=>aa xs fun O6 xs=>aa xs fun O7 xs=>aa xs fun O8 xs=>aa xs fun O9 xs=>aa xs fun v9 xs=>cp xs (some (ao (⟨O0,O1,⟨O2,O3,O4,O5⟩,⟨O6,O7,O8,O9⟩⟩:bc)==0&&(fJ v9&&bY (gq (⟨O0,O1,⟨O2,O3,O4,O5⟩,⟨O6,O7,O8,O9⟩⟩:bc)) 200 v9),[], .ret,(re O0 O1 O2 O3 O4 O5 O6 O7 O8 O9 (br (gq (⟨O0,O1,⟨O2,O3,O4,O5⟩,⟨O6,O7,O8,O9⟩⟩:bc)) 200 v9))))
 |_,_,_=>none
noncomputable def k18:Cfg (X:=els):={k17 with lp:=(24,62,{keep:=tK,m:=1,mv:=B9.mv,ctx:=0,con:=some ((FI).con Gf)})::k17.lp}
noncomputable def ky:=(Sig.cons true (Dat.ah ka) (Sig.cons false (Dat.ah (Cel.int .i64)) (Sig.cons false (Dat.ah (Cel.int .i64)) Sig.nil)))
noncomputable def qo:=(Res.qV (Res.int .i64) (Res.int .i64))
noncomputable def k19:Cfg (X:=els):={k18 with E:=(24,(ky).con qo (fun x=>(cM x.1 x.2.1 x.2.2.1)) (fun _=>true))::k18.E}
noncomputable def lT:=(Sig.cons false (Dat.ah (Cel.int .i64)) Sig.nil)
noncomputable def rK:=(Res.int .i64)
noncomputable def k20:Cfg (X:=els):={k19 with E:=(171,(lT).con rK (fun x=>(av x.1)) (fun x=>cS x.1))::k19.E}
noncomputable def rV:=(Sig.cons true bF (Sig.cons true (Dat.ah dz) (Sig.cons false (Dat.ah (Cel.int .i64)) (Sig.cons false (Dat.ah Cel.bool) Sig.nil))))
noncomputable def sn:=(Res.G4 (Res.int .i64) (Res.int .i64) Res.bool)
noncomputable def k21:Cfg (X:=els):={k20 with E:=(170,(rV).con sn (fun x=>(vM x.1 x.2.1 x.2.2.1 x.2.2.2.1)) (fun _=>true))::k20.E}
noncomputable def nu:=(Sig.cons false (Dat.ah Cel.bool) (Sig.cons false (Dat.ah (Cel.int .i64)) Sig.nil))
noncomputable def vi:=(Res.int .i64)
noncomputable def k22:Cfg (X:=els):={k21 with E:=(88,(nu).con vi (fun x=>(dF x.1 x.2.1)) (fun _=>true))::k21.E}
noncomputable def ku:=(Sig.cons true (Dat.ah dz) Sig.nil)
noncomputable def kG:=(Res.int .i64)
noncomputable def k23:Cfg (X:=els):={k22 with E:=(92,(ku).con kG (fun x=>(ak x.1)) (fun _=>true))::k22.E}
noncomputable def nJ:=(Sig.cons true bF Sig.nil)
noncomputable def nP:=(Res.int .i64)
noncomputable def k24:Cfg (X:=els):={k23 with E:=(57,(nJ).con nP (fun x=>(cF x.1)) (fun _=>true))::k23.E}
def BN:Pat (X:=els):={tm:=[.any,(.is (.lit (AV.ptr 2 0))), .any,(.is .bool), .any, .any, .any, .any, .any, .any, .any,(.is (.slW 0 1)),(.is (.int .i64)),(.is (.int .i64)), .any, .any, .any, .any, .any, .any, .any, .any, .any, .any, .any, .any, .any, .any, .any, .any, .any, .any, .any, .any, .any, .any, .any, .any, .any, .any, .any, .any, .any],hp:=[(.vec (.int:El) false),(.vec (.aW:El) false),(.raw [(.int .i64),(.int .i64),(.int .i64),(.slW 0 1),(.int .i64),(.int .i64),(.int .i64),(.int .i64),(.int .i64),(.int .i64),(.int .i64),(.int .i64),(.int .i64),(.int .i64),(.int .i64),(.int .i64),(.int .i64),(.int .i64),(.int .i64),(.int .i64),(.int .i64),(.int .i64),(.int .i64),(.int .i64),(.int .i64),(.int .i64),(.int .i64),(.int .i64),(.int .i64),(.int .i64),(.int .i64),(.int .i64),(.int .i64),(.int .i64),(.int .i64), .bool,(.slW 1 7)])]}
def oR:List Nat:=[1,3,11,12,13]
def CU:List Nat:=[2,3]
noncomputable def yY:bA (X:=els):={keep:=oR,m:=3,mv:=[]}
def xc (l0:List (Int)) (l1:List (ag)) (Q0 Q1 Q2 Q4 Q5 Q6 Q7 Q8 Q9 Q10 Q11 Q12 Q13 Q14 Q15 Q16 Q17 Q18 Q19 Q20 Q21 Q22 Q23 Q24 Q25 Q26 Q27 Q28 Q29 Q30 Q31 Q32 Q33 Q34:Int) (Q35 v3:Bool) (v12 v13:Int):St (X:=els):={tm:=[.any, .is (.ptr 2 0), .any, .is (.bool v3), .any, .any, .any, .any, .any, .any, .any, .is (.sl 0 0 1 (List.length l0) none), .is (.int .i64 v12), .is (.int .i64 v13), .any, .any, .any, .any, .any, .any, .any, .any, .any, .any, .any, .any, .any, .any, .any, .any, .any, .any, .any, .any, .any, .any, .any, .any, .any, .any, .any, .any, .any],hp:=[Blk.vec El.int l0 false,Blk.vec El.aW l1 false, .raw [.int .i64 Q0, .int .i64 Q1, .int .i64 Q2, .sl 0 0 1 (List.length l0) none, .int .i64 Q4, .int .i64 Q5, .int .i64 Q6, .int .i64 Q7, .int .i64 Q8, .int .i64 Q9, .int .i64 Q10, .int .i64 Q11, .int .i64 Q12, .int .i64 Q13, .int .i64 Q14, .int .i64 Q15, .int .i64 Q16, .int .i64 Q17, .int .i64 Q18, .int .i64 Q19, .int .i64 Q20, .int .i64 Q21, .int .i64 Q22, .int .i64 Q23, .int .i64 Q24, .int .i64 Q25, .int .i64 Q26, .int .i64 Q27, .int .i64 Q28, .int .i64 Q29, .int .i64 Q30, .int .i64 Q31, .int .i64 Q32, .int .i64 Q33, .int .i64 Q34, .bool Q35, .sl 1 0 7 (List.length l1) none]]}
def tU (l0:List (Int)) (l1:List (ag)) (Q0 Q1 Q2 Q4 Q5 Q6 Q7 Q8 Q9 Q10 Q11 Q12 Q13 Q14 Q15 Q16 Q17 Q18 Q19 Q20 Q21 Q22 Q23 Q24 Q25 Q26 Q27 Q28 Q29 Q30 Q31 Q32 Q33 Q34:Int) (Q35 v3:Bool):St (X:=els):=({tm:=[.any, .any, .any, .is (.bool v3), .any, .any, .any, .any, .any, .any, .any, .any, .any, .any, .any, .any, .any, .any, .any, .any, .any, .any, .any, .any, .any, .any, .any, .any, .any, .any, .any, .any, .any, .any, .any, .any, .any, .any, .any, .any, .any, .any, .any],hp:=[Blk.vec El.int l0 false,Blk.vec El.aW l1 false, .raw [.int .i64 Q0, .int .i64 Q1, .int .i64 Q2, .sl 0 0 1 (List.length l0) none, .int .i64 Q4, .int .i64 Q5, .int .i64 Q6, .int .i64 Q7, .int .i64 Q8, .int .i64 Q9, .int .i64 Q10, .int .i64 Q11, .int .i64 Q12, .int .i64 Q13, .int .i64 Q14, .int .i64 Q15, .int .i64 Q16, .int .i64 Q17, .int .i64 Q18, .int .i64 Q19, .int .i64 Q20, .int .i64 Q21, .int .i64 Q22, .int .i64 Q23, .int .i64 Q24, .int .i64 Q25, .int .i64 Q26, .int .i64 Q27, .int .i64 Q28, .int .i64 Q29, .int .i64 Q30, .int .i64 Q31, .int .i64 Q32, .int .i64 Q33, .int .i64 Q34, .bool Q35, .sl 1 0 7 (List.length l1) none]]}:St (X:=els))
noncomputable def Hf:Code:=((aM [false,true,false,true,true] (Tryz.f58.body.getD .skip)).getD .skip|>fun c=>match c with| .loop c=>c|c=>c)
noncomputable def B4 (F d n:Nat) (s:St (X:=els)):Option (Ex×St (X:=els)):=iter none (fun s' K'=>exec k24 none (bU k24 none F d) F 58 116 Hf s' (aU none yY K')) n s (fun e s=>some (e,b8 CU s))
noncomputable def Br:List LV→List (Blk (X:=els))→List SV→cb
 | [⟨El.int,l0⟩,⟨El.aW,l1⟩],[],xs=>aa xs fun Q0 xs=>aa xs fun Q1 xs=>aa xs fun Q2 xs=>aa xs fun Q4 xs=>aa xs fun Q5 xs=>aa xs fun Q6 xs=>aa xs fun Q7 xs=>aa xs fun Q8 xs=>aa xs fun Q9 xs=>aa xs fun Q10 xs=>aa xs fun Q11 xs=>aa xs fun Q12 xs=>aa xs fun Q13 xs=>aa xs fun Q14 xs=>aa xs fun Q15 xs=>aa xs fun Q16 xs=>aa xs fun Q17 xs=>aa xs fun Q18 xs=>aa xs fun Q19 xs=>aa xs fun Q20 xs=>aa xs fun Q21 xs=>aa xs fun Q22 xs=>aa xs fun Q23 xs=>aa xs fun Q24 xs=>aa xs fun Q25 xs=>aa xs fun Q26 xs=>aa xs fun Q27 xs=>aa xs fun Q28 xs=>aa xs fun Q29 xs=>aa xs fun Q30 xs=>aa xs fun Q31 xs=>aa xs fun Q32 xs=>aa xs fun Q33 xs=>aa xs fun Q34 xs=>gP xs fun Q35 xs=>gP xs fun v3 xs=>aa xs fun v12 xs=>aa xs fun v13 xs=>cp xs (some (decide (l0.length≤1048576)&&(v12==(l0.length:Int)&&v13==0),[], .exit 0,(tU l0 l1 Q0 Q1 Q2 Q4 Q5 Q6 Q7 Q8 Q9 Q10 Q11 Q12 Q13 Q14 Q15 Q16 Q17 Q18 Q19 Q20 Q21 Q22 Q23 Q24 Q25 Q26 Q27 Q28 Q29 Q30 Q31 Q32 Q33 Q34 Q35 (v3&&FY (IntKind.i64.wrap (Q0-1)) none l0))))
 |_,_,_=>none
noncomputable def k25:Cfg (X:=els):={k24 with lp:=(58,58,{keep:=oR,m:=3,mv:=yY.mv,ctx:=0,con:=some ((BN).con Br)})::k24.lp}
noncomputable def me:=(Sig.cons true bF Sig.nil)
noncomputable def lK:=(Res.int .i64)
noncomputable def k26:Cfg (X:=els):={k25 with E:=(58,(me).con lK (fun x=>(cA x.1)) (fun x=>aX x.1))::k25.E}
noncomputable def l6:=(Sig.cons true bF Sig.nil)
noncomputable def lY:=(Res.int .i64)
noncomputable def k27:Cfg (X:=els):={k26 with E:=(59,(l6).con lY (fun x=>(bZ x.1)) (fun _=>true))::k26.E}
noncomputable def lM:=(Sig.cons true (Dat.ah Jj) Sig.nil)
noncomputable def mi:=(Res.int .i64)
noncomputable def k28:Cfg (X:=els):={k27 with E:=(62,(lM).con mi (fun x=>(ax x.1)) (fun _=>true))::k27.E}
def F6:Pat (X:=els):={tm:=[(.is (.slW 1 7)),(.is (.lit (AV.fn 91 [] []))), .any, .any, .any, .any, .any,(.is (.int .i64)),(.is (.int .i64)), .any, .any, .any, .any, .any, .any, .any, .any, .any, .any],hp:=[(.vec (.int:El) false),(.vec (.aW:El) false),(.raw [(.int .i64),(.int .i64),(.int .i64),(.slW 0 1),(.int .i64),(.int .i64),(.int .i64),(.int .i64),(.int .i64),(.int .i64),(.int .i64),(.int .i64),(.int .i64),(.int .i64),(.int .i64),(.int .i64),(.int .i64),(.int .i64),(.int .i64),(.int .i64),(.int .i64),(.int .i64),(.int .i64),(.int .i64),(.int .i64),(.int .i64),(.int .i64),(.int .i64),(.int .i64),(.int .i64),(.int .i64),(.int .i64),(.int .i64),(.int .i64),(.int .i64), .bool,(.slW 1 7)])]}
def tV:List Nat:=[0,1,7,8]
def H3:List Nat:=[4]
noncomputable def Bq:bA (X:=els):={keep:=tV,m:=3,mv:=[]}
def Eb (l0:List (Int)) (l1:List (ag)) (Q0 Q1 Q2 Q4 Q5 Q6 Q7 Q8 Q9 Q10 Q11 Q12 Q13 Q14 Q15 Q16 Q17 Q18 Q19 Q20 Q21 Q22 Q23 Q24 Q25 Q26 Q27 Q28 Q29 Q30 Q31 Q32 Q33 Q34:Int) (Q35:Bool) (v7 v8:Int):St (X:=els):={tm:=[.is (.sl 1 0 7 (List.length l1) none), .is (AV.fn 91 [] []), .any, .any, .any, .any, .any, .is (.int .i64 v7), .is (.int .i64 v8), .any, .any, .any, .any, .any, .any, .any, .any, .any, .any],hp:=[Blk.vec El.int l0 false,Blk.vec El.aW l1 false, .raw [.int .i64 Q0, .int .i64 Q1, .int .i64 Q2, .sl 0 0 1 (List.length l0) none, .int .i64 Q4, .int .i64 Q5, .int .i64 Q6, .int .i64 Q7, .int .i64 Q8, .int .i64 Q9, .int .i64 Q10, .int .i64 Q11, .int .i64 Q12, .int .i64 Q13, .int .i64 Q14, .int .i64 Q15, .int .i64 Q16, .int .i64 Q17, .int .i64 Q18, .int .i64 Q19, .int .i64 Q20, .int .i64 Q21, .int .i64 Q22, .int .i64 Q23, .int .i64 Q24, .int .i64 Q25, .int .i64 Q26, .int .i64 Q27, .int .i64 Q28, .int .i64 Q29, .int .i64 Q30, .int .i64 Q31, .int .i64 Q32, .int .i64 Q33, .int .i64 Q34, .bool Q35, .sl 1 0 7 (List.length l1) none]]}
def yQ (l0:List (Int)) (l1:List (ag)) (Q0 Q1 Q2 Q4 Q5 Q6 Q7 Q8 Q9 Q10 Q11 Q12 Q13 Q14 Q15 Q16 Q17 Q18 Q19 Q20 Q21 Q22 Q23 Q24 Q25 Q26 Q27 Q28 Q29 Q30 Q31 Q32 Q33 Q34:Int) (Q35:Bool) (v8:Int):St (X:=els):=({tm:=[.any, .any, .any, .any, .is (.int .i64 v8), .any, .any, .any, .any, .any, .any, .any, .any, .any, .any, .any, .any, .any, .any],hp:=[Blk.vec El.int l0 false,Blk.vec El.aW l1 false, .raw [.int .i64 Q0, .int .i64 Q1, .int .i64 Q2, .sl 0 0 1 (List.length l0) none, .int .i64 Q4, .int .i64 Q5, .int .i64 Q6, .int .i64 Q7, .int .i64 Q8, .int .i64 Q9, .int .i64 Q10, .int .i64 Q11, .int .i64 Q12, .int .i64 Q13, .int .i64 Q14, .int .i64 Q15, .int .i64 Q16, .int .i64 Q17, .int .i64 Q18, .int .i64 Q19, .int .i64 Q20, .int .i64 Q21, .int .i64 Q22, .int .i64 Q23, .int .i64 Q24, .int .i64 Q25, .int .i64 Q26, .int .i64 Q27, .int .i64 Q28, .int .i64 Q29, .int .i64 Q30, .int .i64 Q31, .int .i64 Q32, .int .i64 Q33, .int .i64 Q34, .bool Q35, .sl 1 0 7 (List.length l1) none], .raw [.int .i64 (ag.kind (List.getD l1 (0+Int.toNat v8) {kind:=0,mode:=0,prio:=0,arg:=0,shift:=0,minute:=0,len:=0})), .int .i64 (ag.mode (List.getD l1 (0+Int.toNat v8) {kind:=0,mode:=0,prio:=0,arg:=0,shift:=0,minute:=0,len:=0})), .int .i64 (ag.prio (List.getD l1 (0+Int.toNat v8) {kind:=0,mode:=0,prio:=0,arg:=0,shift:=0,minute:=0,len:=0})), .int .i64 (ag.arg (List.getD l1 (0+Int.toNat v8) {kind:=0,mode:=0,prio:=0,arg:=0,shift:=0,minute:=0,len:=0})), .int .i64 (ag.shift (List.getD l1 (0+Int.toNat v8) {kind:=0,mode:=0,prio:=0,arg:=0,shift:=0,minute:=0,len:=0})), .int .i64 (ag.minute (List.getD l1 (0+Int.toNat v8) {kind:=0,mode:=0,prio:=0,arg:=0,shift:=0,minute:=0,len:=0})), .int .i64 (ag.len (List.getD l1 (0+Int.toNat v8) {kind:=0,mode:=0,prio:=0,arg:=0,shift:=0,minute:=0,len:=0}))]]}:St (X:=els))
def xS (l0:List (Int)) (l1:List (ag)) (Q0 Q1 Q2 Q4 Q5 Q6 Q7 Q8 Q9 Q10 Q11 Q12 Q13 Q14 Q15 Q16 Q17 Q18 Q19 Q20 Q21 Q22 Q23 Q24 Q25 Q26 Q27 Q28 Q29 Q30 Q31 Q32 Q33 Q34:Int) (Q35:Bool):St (X:=els):=({tm:=[.any, .any, .any, .any, .any, .any, .any, .any, .any, .any, .any, .any, .any, .any, .any, .any, .any, .any, .any],hp:=[Blk.vec El.int l0 false,Blk.vec El.aW l1 false, .raw [.int .i64 Q0, .int .i64 Q1, .int .i64 Q2, .sl 0 0 1 (List.length l0) none, .int .i64 Q4, .int .i64 Q5, .int .i64 Q6, .int .i64 Q7, .int .i64 Q8, .int .i64 Q9, .int .i64 Q10, .int .i64 Q11, .int .i64 Q12, .int .i64 Q13, .int .i64 Q14, .int .i64 Q15, .int .i64 Q16, .int .i64 Q17, .int .i64 Q18, .int .i64 Q19, .int .i64 Q20, .int .i64 Q21, .int .i64 Q22, .int .i64 Q23, .int .i64 Q24, .int .i64 Q25, .int .i64 Q26, .int .i64 Q27, .int .i64 Q28, .int .i64 Q29, .int .i64 Q30, .int .i64 Q31, .int .i64 Q32, .int .i64 Q33, .int .i64 Q34, .bool Q35, .sl 1 0 7 (List.length l1) none]]}:St (X:=els))
noncomputable def Ko:Code:=((aM [false,true,false,true] (Tryz.f108.body.getD .skip)).getD .skip|>fun c=>match c with| .loop c=>c|c=>c)
noncomputable def FO (F d n:Nat) (s:St (X:=els)):Option (Ex×St (X:=els)):=iter none (fun s' K'=>exec k28 none (bU k28 none F d) F 108 52 Ko s' (aU none Bq K')) n s (fun e s=>some (e,b8 H3 s))
noncomputable def GQ:List LV→List (Blk (X:=els))→List SV→cb
 | [⟨El.int,l0⟩,⟨El.aW,l1⟩],[],xs=>aa xs fun Q0 xs=>aa xs fun Q1 xs=>aa xs fun Q2 xs=>aa xs fun Q4 xs=>aa xs fun Q5 xs=>aa xs fun Q6 xs=>aa xs fun Q7 xs=>aa xs fun Q8 xs=>aa xs fun Q9 xs=>aa xs fun Q10 xs=>aa xs fun Q11 xs=>aa xs fun Q12 xs=>aa xs fun Q13 xs=>aa xs fun Q14 xs=>aa xs fun Q15 xs=>aa xs fun Q16 xs=>aa xs fun Q17 xs=>aa xs fun Q18 xs=>aa xs fun Q19 xs=>aa xs fun Q20 xs=>aa xs fun Q21 xs=>aa xs fun Q22 xs=>aa xs fun Q23 xs=>aa xs fun Q24 xs=>aa xs fun Q25 xs=>aa xs fun Q26 xs=>aa xs fun Q27 xs=>aa xs fun Q28 xs=>aa xs fun Q29 xs=>aa xs fun Q30 xs=>aa xs fun Q31 xs=>aa xs fun Q32 xs=>aa xs fun Q33 xs=>aa xs fun Q34 xs=>gP xs fun Q35 xs=>aa xs fun v7 xs=>aa xs fun v8 xs=>cp xs (some (decide (l1.length≤1048576)&&(v7==(l1.length:Int)&&v8==0),[(l1.all bl, .exit 0,(xS l0 l1 Q0 Q1 Q2 Q4 Q5 Q6 Q7 Q8 Q9 Q10 Q11 Q12 Q13 Q14 Q15 Q16 Q17 Q18 Q19 Q20 Q21 Q22 Q23 Q24 Q25 Q26 Q27 Q28 Q29 Q30 Q31 Q32 Q33 Q34 Q35))], .ret,(yQ l0 l1 Q0 Q1 Q2 Q4 Q5 Q6 Q7 Q8 Q9 Q10 Q11 Q12 Q13 Q14 Q15 Q16 Q17 Q18 Q19 Q20 Q21 Q22 Q23 Q24 Q25 Q26 Q27 Q28 Q29 Q30 Q31 Q32 Q33 Q34 Q35 (Cf l1))))
 |_,_,_=>none
noncomputable def k29:Cfg (X:=els):={k28 with lp:=(108,26,{keep:=tV,m:=3,mv:=Bq.mv,ctx:=0,con:=some ((F6).con GQ)})::k28.lp}
noncomputable def jI:=(Sig.cons true bF Sig.nil)
noncomputable def jf:=(Res.int .i64)
noncomputable def k30:Cfg (X:=els):={k29 with E:=(63,(jI).con jf (fun x=>(bj x.1)) (fun x=>aX x.1))::k29.E}
noncomputable def ml:=(Sig.cons true bF Sig.nil)
noncomputable def lN:=(Res.int .i64)
noncomputable def k31:Cfg (X:=els):={k30 with E:=(27,(ml).con lN (fun x=>(af x.1)) (fun x=>aX x.1))::k30.E}
noncomputable def jh:=(Sig.cons true bF Sig.nil)
noncomputable def jr:=Res.bool
noncomputable def k32:Cfg (X:=els):={k31 with E:=(9,(jh).con jr (fun x=>(DC x.1)) (fun _=>true))::k31.E}
noncomputable def jA:=(Sig.cons true bF Sig.nil)
noncomputable def jL:=(Out.agg Th)
noncomputable def k33:Cfg (X:=els):={k32 with H:=(12,(jA).fU jL (fun x=>(RZ x.1)) (fun x=>aX x.1))::k32.H}
noncomputable def oZ:=(Sig.cons false (Dat.ah (Cel.int .i64)) Sig.nil)
noncomputable def xm:=Res.bool
noncomputable def k34:Cfg (X:=els):={k33 with E:=(186,(oZ).con xm (fun x=>(dd x.1)) (fun x=>cS x.1))::k33.E}
noncomputable def fu:=(Sig.cons false (Dat.ah (Cel.int .i64)) Sig.nil)
noncomputable def kV:=(Res.int .i64)
noncomputable def k35:Cfg (X:=els):={k34 with E:=(189,(fu).con kV (fun x=>(bg x.1)) (fun x=>bO x.1))::k34.E}
noncomputable def hN:=(Sig.cons false (Dat.ah (Cel.int .i64)) Sig.nil)
noncomputable def mM:=(Res.qV (Res.int .i64) (Res.int .i64))
noncomputable def k36:Cfg (X:=els):={k35 with E:=(187,(hN).con mM (fun x=>(nV x.1)) (fun x=>bO x.1))::k35.E}
noncomputable def gK:=(Sig.cons false (Dat.ah (Cel.int .i64)) Sig.nil)
noncomputable def gE:=(Res.int .i64)
noncomputable def k37:Cfg (X:=els):={k36 with E:=(188,(gK).con gE (fun x=>(fv x.1)) (fun x=>bO x.1))::k36.E}
noncomputable def gv:=(Sig.cons false (Dat.ah (Cel.int .i64)) Sig.nil)
noncomputable def lW:=(Res.int .i64)
noncomputable def k38:Cfg (X:=els):={k37 with E:=(183,(gv).con lW (fun x=>(aP x.1)) (fun x=>bO x.1))::k37.E}
noncomputable def fw:=(Sig.cons false (Dat.ah (Cel.int .i64)) Sig.nil)
noncomputable def kL:=(Res.int .i64)
noncomputable def k39:Cfg (X:=els):={k38 with E:=(184,(fw).con kL (fun x=>(bu x.1)) (fun x=>kv x.1))::k38.E}
noncomputable def kn:=(Sig.cons false (Dat.ah (Cel.int .i64)) Sig.nil)
noncomputable def ql:=(Res.qV (Res.int .i64) (Res.int .i64))
noncomputable def k40:Cfg (X:=els):={k39 with E:=(177,(kn).con ql (fun x=>(db x.1)) (fun _=>true))::k39.E}
noncomputable def rM:=(Sig.cons false (Dat.ah (Cel.int .i64)) Sig.nil)
noncomputable def Ag:=(Res.qV (Res.int .i64) (Res.int .i64))
noncomputable def k41:Cfg (X:=els):={k40 with E:=(178,(rM).con Ag (fun x=>(AY x.1)) (fun _=>true))::k40.E}
noncomputable def nG:=(Sig.cons false (Dat.ah (Cel.int .i64)) (Sig.cons false (Dat.ah (Cel.int .i64)) Sig.nil))
noncomputable def vd:=(Res.int .i64)
noncomputable def k42:Cfg (X:=els):={k41 with E:=(180,(nG).con vd (fun x=>(dI x.1 x.2.1)) (fun _=>true))::k41.E}
def TA:Pat (X:=els):={tm:=[.any,(.is (.lit (AV.ptr 0 0))),(.is (.lit (AV.ptr 1 0))),(.is (.int .i64)), .any, .any, .any, .any, .any, .any,(.is (.lit (AV.ptr 2 0))), .any, .any, .any, .any, .any, .any, .any, .any, .any, .any, .any, .any, .any, .any, .any, .any, .any, .any, .any, .any, .any, .any, .any, .any, .any, .any, .any, .any, .any, .any, .any, .any, .any, .any, .any, .any, .any, .any, .any, .any, .any, .any, .any, .any, .any, .any, .any, .any, .any, .any, .any, .any, .any, .any, .any, .any, .any, .any, .any, .any, .any, .any, .any, .any, .any, .any, .any, .any, .any, .any, .any, .any, .any],hp:=[(.raw [(.int .i64)]),(.raw [(.int .i64),(.int .i64),(.int .i64)]),(.raw [(.int .i64)])]}
def Bk:List Nat:=[1,2,3,10]
def OX:List Nat:=[1,2,3,10,11,15,16,67,68,69,70,71,72,73,74,75,76,77,78,79,80,81,82]
noncomputable def LX:bA (X:=els):={keep:=Bk,m:=3,mv:=[]}
def Qf (O0 P0 P1 P2 Q0 v3:Int):St (X:=els):={tm:=[.any, .is (.ptr 0 0), .is (.ptr 1 0), .is (.int .i64 v3), .any, .any, .any, .any, .any, .any, .is (.ptr 2 0), .any, .any, .any, .any, .any, .any, .any, .any, .any, .any, .any, .any, .any, .any, .any, .any, .any, .any, .any, .any, .any, .any, .any, .any, .any, .any, .any, .any, .any, .any, .any, .any, .any, .any, .any, .any, .any, .any, .any, .any, .any, .any, .any, .any, .any, .any, .any, .any, .any, .any, .any, .any, .any, .any, .any, .any, .any, .any, .any, .any, .any, .any, .any, .any, .any, .any, .any, .any, .any, .any, .any, .any, .any],hp:=[.raw [.int .i64 O0], .raw [.int .i64 P0, .int .i64 P1, .int .i64 P2], .raw [.int .i64 Q0]]}
def GC (O0 P0 P1 P2 Q0 v3:Int):St (X:=els):=({tm:=[.any, .is (.ptr 0 0), .is (.ptr 1 0), .is (.int .i64 v3), .any, .any, .any, .any, .any, .any, .is (.ptr 2 0), .is (.int .i64 (Prod.fst (db Q0))), .any, .any, .any, .any, .any, .any, .any, .any, .any, .any, .any, .any, .any, .any, .any, .any, .any, .any, .any, .any, .any, .any, .any, .any, .any, .any, .any, .any, .any, .any, .any, .any, .any, .any, .any, .any, .any, .any, .any, .any, .any, .any, .any, .any, .any, .any, .any, .any, .any, .any, .any, .any, .any, .any, .any, .any, .any, .any, .any, .any, .any, .any, .any, .any, .any, .any, .any, .any, .any, .any, .any, .any],hp:=[.raw [.int .i64 O0], .raw [.int .i64 P0, .int .i64 P1, .int .i64 P2], .raw [.int .i64 Q0]]}:St (X:=els))
noncomputable def Vc:Code:=((aM [false,false,true,true,true,true,true,true] (Tryz.f175.body.getD .skip)).getD .skip|>fun c=>match c with| .loop c=>c|c=>c)
noncomputable def TX (F d n:Nat) (s:St (X:=els)):Option (Ex×St (X:=els)):=iter none (fun s' K'=>exec k42 none (bU k42 none F d) F 175 1016 Vc s' (aU none LX K')) n s (fun e s=>some (e,b8 OX s))
noncomputable def Ui:List LV→List (Blk (X:=els))→List SV→cb
 | [],[],xs=>aa xs fun O0 xs=>aa xs fun P0 xs=>aa xs fun P1 xs=>aa xs fun P2 xs=>aa xs fun Q0 xs=>aa xs fun v3 xs=>cp xs (some (fa O0 600 Q0,[], .exit 0,(GC O0 P0 P1 P2 (cT O0 600 Q0) v3)))
 |_,_,_=>none
noncomputable def k43:Cfg (X:=els):={k42 with lp:=(175,508,{keep:=Bk,m:=3,mv:=LX.mv,ctx:=0,con:=some ((TA).con Ui)})::k42.lp}
def T5:Pat (X:=els):={tm:=[(.is (.lit (AV.yld 7))),(.is (.lit (AV.ptr 5 0))),(.is (.lit (AV.ptr 4 0))), .any,(.is (.int .i64)), .any, .any, .any, .any, .any, .any, .any, .any, .any, .any, .any, .any, .any, .any],hp:=[(.raw [(.int .i64)]),(.raw [(.int .i64),(.int .i64),(.int .i64)]),(.raw [(.int .i64)]),(.raw [(.int .i64),(.int .i64),(.int .i64)]),(.raw [(.int .i64)]),(.raw [(.int .i64)]), .dfr,(.rcd 0 [.any,(.is (.lit (AV.ptr 0 0))), .any, .any, .any, .any, .any, .any, .any, .any,(.is (.lit (AV.ptr 2 0))), .any, .any, .any,(.is (.lit (AV.ptr 3 0))), .any, .any, .any, .any, .any, .any, .any, .any, .any, .any, .any, .any, .any, .any, .any, .any, .any, .any, .any, .any, .any, .any, .any, .any, .any, .any, .any, .any, .any, .any, .any, .any, .any, .any, .any, .any, .any, .any, .any, .any, .any, .any, .any, .any, .any, .any, .any, .any, .any, .any, .any,(.is (.lit (AV.fn 185 [] [AV.ptr 5 0,AV.ptr 4 0]))), .any, .any, .any, .any, .any, .any, .any, .any, .any, .any, .any, .any, .any, .any, .any, .any, .any])]}
def B8:List Nat:=[0,1,2,4]
def Ql:List Nat:=[]
noncomputable def ME:bA (X:=els):={keep:=B8,m:=8,mv:=[]}
def MX (O0 P0 P1 P2 Q0 R0 R1 R2 S0 U0 v4:Int):St (X:=els):={tm:=[.is (AV.yld 7), .is (.ptr 5 0), .is (.ptr 4 0), .any, .is (.int .i64 v4), .any, .any, .any, .any, .any, .any, .any, .any, .any, .any, .any, .any, .any, .any],hp:=[.raw [.int .i64 O0], .raw [.int .i64 P0, .int .i64 P1, .int .i64 P2], .raw [.int .i64 Q0], .raw [.int .i64 R0, .int .i64 R1, .int .i64 R2], .raw [.int .i64 S0], .raw [.int .i64 U0],Blk.dfr,Blk.rcd RS.ready 0 [.any, .is (.ptr 0 0), .any, .any, .any, .any, .any, .any, .any, .any, .is (.ptr 2 0), .any, .any, .any, .is (.ptr 3 0), .any, .any, .any, .any, .any, .any, .any, .any, .any, .any, .any, .any, .any, .any, .any, .any, .any, .any, .any, .any, .any, .any, .any, .any, .any, .any, .any, .any, .any, .any, .any, .any, .any, .any, .any, .any, .any, .any, .any, .any, .any, .any, .any, .any, .any, .any, .any, .any, .any, .any, .any, .is (AV.fn 185 [] [.ptr 5 0, .ptr 4 0]), .any, .any, .any, .any, .any, .any, .any, .any, .any, .any, .any, .any, .any, .any, .any, .any, .any]]}
def H2 (O0 P0 P1 P2 Q0 R0 R1 R2 S0 U0:Int):St (X:=els):=({tm:=[.any, .any, .any, .any, .any, .any, .any, .any, .any, .any, .any, .any, .any, .any, .any, .any, .any, .any, .any],hp:=[.raw [.int .i64 O0], .raw [.int .i64 P0, .int .i64 P1, .int .i64 P2], .raw [.int .i64 Q0], .raw [.int .i64 R0, .int .i64 R1, .int .i64 R2], .raw [.int .i64 S0], .raw [.int .i64 U0],Blk.dfr,Blk.rcd (RS.done (Ex.exit 2)) 0 [.any, .is (.ptr 0 0), .any, .any, .any, .any, .any, .any, .any, .any, .is (.ptr 2 0), .any, .any, .any, .is (.ptr 3 0), .any, .any, .any, .any, .any, .any, .any, .any, .any, .any, .any, .any, .any, .any, .any, .any, .any, .any, .any, .any, .any, .any, .any, .any, .any, .any, .any, .any, .any, .any, .any, .any, .any, .any, .any, .any, .any, .any, .any, .any, .any, .any, .any, .any, .any, .any, .any, .any, .any, .any, .any, .is (AV.fn 185 [] [.ptr 5 0, .ptr 4 0]), .any, .any, .any, .any, .any, .any, .any, .any, .any, .any, .any, .any, .any, .any, .any, .any, .any]]}:St (X:=els))
def GU (O0 P0 P1 P2 Q0 R0 R1 R2 S0 U0:Int):St (X:=els):=({tm:=[.any, .any, .any, .any, .any, .any, .any, .any, .any, .any, .any, .any, .any, .any, .any, .any, .any, .any, .any],hp:=[.raw [.int .i64 O0], .raw [.int .i64 P0, .int .i64 P1, .int .i64 P2], .raw [.int .i64 Q0], .raw [.int .i64 R0, .int .i64 R1, .int .i64 R2], .raw [.int .i64 S0], .raw [.int .i64 U0],Blk.dfr,Blk.rcd RS.ready 0 [.any, .is (.ptr 0 0), .any, .any, .any, .any, .any, .any, .any, .any, .is (.ptr 2 0), .any, .any, .any, .is (.ptr 3 0), .any, .any, .any, .any, .any, .any, .any, .any, .any, .any, .any, .any, .any, .any, .any, .any, .any, .any, .any, .any, .any, .any, .any, .any, .any, .any, .any, .any, .any, .any, .any, .any, .any, .any, .any, .any, .any, .any, .any, .any, .any, .any, .any, .any, .any, .any, .any, .any, .any, .any, .any, .is (AV.fn 185 [] [.ptr 5 0, .ptr 4 0]), .any, .any, .any, .any, .any, .any, .any, .any, .any, .any, .any, .any, .any, .any, .any, .any, .any]]}:St (X:=els))
noncomputable def Vw:Code:=((aM [false,true] (Tryz.f185.body.getD .skip)).getD .skip|>fun c=>match c with| .loop c=>c|c=>c)
noncomputable def QT (F d n:Nat) (s:St (X:=els)):Option (Ex×St (X:=els)):=iter none (fun s' K'=>exec k43 none (bU k43 none F d) F 185 12 Vw s' (aU none ME K')) n s (fun e s=>some (e,b8 Ql s))
noncomputable def T8:List LV→List (Blk (X:=els))→List SV→cb
 | [],[],xs=>aa xs fun O0 xs=>aa xs fun P0 xs=>aa xs fun P1 xs=>aa xs fun P2 xs=>aa xs fun Q0 xs=>aa xs fun R0 xs=>aa xs fun R1 xs=>aa xs fun R2 xs=>aa xs fun S0 xs=>aa xs fun U0 xs=>aa xs fun v4 xs=>cp xs (some (EU O0 Q0 S0 v4 U0,[((ef O0 Q0 (14-v4).toNat v4 U0 R1 R2).1, .ret,(H2 O0 P0 P1 P2 Q0 R0 (ef O0 Q0 (14-v4).toNat v4 U0 R1 R2).2.1 (ef O0 Q0 (14-v4).toNat v4 U0 R1 R2).2.2.1 S0 (ef O0 Q0 (14-v4).toNat v4 U0 R1 R2).2.2.2))], .exit 0,(GU O0 P0 P1 P2 Q0 R0 (ef O0 Q0 (14-v4).toNat v4 U0 R1 R2).2.1 (ef O0 Q0 (14-v4).toNat v4 U0 R1 R2).2.2.1 S0 (ef O0 Q0 (14-v4).toNat v4 U0 R1 R2).2.2.2)))
 |_,_,_=>none
noncomputable def k44:Cfg (X:=els):={k43 with lp:=(185,6,{keep:=B8,m:=8,mv:=ME.mv,ctx:=1,con:=some ((T5).con T8)})::k43.lp}
noncomputable def rL:=(Sig.cons false (Dat.ah (Cel.int .i64)) Sig.nil)
noncomputable def AG:=(Res.qV (Res.agg He) (Res.int .i64))
noncomputable def k45:Cfg (X:=els):={k44 with E:=(175,(rL).con AG (fun x=>(A6 x.1)) (fun _=>true))::k44.E}
noncomputable def k46:Cfg (X:=els):={k45 with E:=(176,H0)::k45.E}
noncomputable def pw:=(Sig.cons false (Dat.ah (Cel.int .i64)) (Sig.cons false (Dat.ah Cel.bool) Sig.nil))
noncomputable def xE:=Res.bool
noncomputable def k47:Cfg (X:=els):={k46 with E:=(192,(pw).con xE (fun x=>(bb x.1 x.2.1)) (fun _=>true))::k46.E}
def Gm:Pat (X:=els):={tm:=[(.is (.int .i64)), .any,(.is (.lit (AV.ptr 1 0))), .any, .any,(.is (.int .i64)), .any, .any, .any, .any, .any, .any, .any, .any, .any, .any],hp:=[(.raw [(.int .i64)]),(.raw [.bool])]}
def tT:List Nat:=[0,2,5]
def Hy:List Nat:=[4,5]
noncomputable def Bi:bA (X:=els):={keep:=tT,m:=2,mv:=[]}
def CQ (O0:Int) (P0:Bool) (v0 v5:Int):St (X:=els):={tm:=[.is (.int .i64 v0), .any, .is (.ptr 1 0), .any, .any, .is (.int .i64 v5), .any, .any, .any, .any, .any, .any, .any, .any, .any, .any],hp:=[.raw [.int .i64 O0], .raw [.bool P0]]}
def yh (O0:Int) (P0:Bool) (v5:Int):St (X:=els):=({tm:=[.any, .any, .any, .any, .any, .is (.int .i64 v5), .any, .any, .any, .any, .any, .any, .any, .any, .any, .any],hp:=[.raw [.int .i64 O0], .raw [.bool P0]]}:St (X:=els))
noncomputable def J5:Code:=((aM [false,false,true,true] (Tryz.f194.body.getD .skip)).getD .skip|>fun c=>match c with| .loop c=>c|c=>c)
noncomputable def Hs (F d n:Nat) (s:St (X:=els)):Option (Ex×St (X:=els)):=iter none (fun s' K'=>exec k47 none (bU k47 none F d) F 194 56 J5 s' (aU none Bi K')) n s (fun e s=>some (e,b8 Hy s))
noncomputable def Ia:List LV→List (Blk (X:=els))→List SV→cb
 | [],[],xs=>aa xs fun O0 xs=>gP xs fun P0 xs=>aa xs fun v0 xs=>aa xs fun v5 xs=>cp xs (some (kY v0 P0 v5,[], .exit 0,(yh O0 P0 (bJ v0 P0 10 v5))))
 |_,_,_=>none
noncomputable def k48:Cfg (X:=els):={k47 with lp:=(194,28,{keep:=tT,m:=2,mv:=Bi.mv,ctx:=0,con:=some ((Gm).con Ia)})::k47.lp}
noncomputable def sO:=(Sig.cons false (Dat.ah (Cel.int .i64)) (Sig.cons false (Dat.ah Cel.bool) Sig.nil))
noncomputable def An:=(Res.G4 (Res.int .i64) (Res.int .i64) (Res.int .i64))
noncomputable def k49:Cfg (X:=els):={k48 with E:=(191,(sO).con An (fun x=>(NF x.1 x.2.1)) (fun _=>true))::k48.E}
noncomputable def oU:=(Sig.cons false (Dat.ah (Cel.int .i64)) (Sig.cons false (Dat.ah Cel.bool) Sig.nil))
noncomputable def yM:=(Res.int .i64)
noncomputable def k50:Cfg (X:=els):={k49 with E:=(174,(oU).con yM (fun x=>(e9 x.1 x.2.1)) (fun _=>true))::k49.E}
noncomputable def sq:=(Sig.cons true (Dat.ah Jj) (Sig.cons false (Dat.ah (Cel.int .i64)) Sig.nil))
noncomputable def sJ:=(Res.qV (Res.int .i64) (Res.int .i64))
noncomputable def k51:Cfg (X:=els):={k50 with E:=(195,(sq).con sJ (fun x=>(AB x.1 x.2.1)) (fun _=>true))::k50.E}
noncomputable def ki:=(Sig.cons true (Dat.ah ka) (Sig.cons true (Dat.ah Jj) (Sig.cons false (Dat.ah (Cel.int .i64)) Sig.nil)))
noncomputable def qz:=(Res.qV (Res.int .i64) (Res.int .i64))
noncomputable def k52:Cfg (X:=els):={k51 with E:=(193,(ki).con qz (fun x=>(iM x.1 x.2.1 x.2.2.1)) (fun _=>true))::k51.E}
noncomputable def eS:=(Sig.cons true Dat.void (Sig.cons true bF (Sig.cons true (Dat.ah dz) (Sig.cons false (Dat.ah (Cel.int .i64)) Sig.nil))))
noncomputable def j8:=(Res.G4 (Res.int .i64) (Res.int .i64) Res.bool)
noncomputable def k53:Cfg (X:=els):={k52 with E:=(169,(eS).con j8 (fun x=>(yx x.1 x.2.1 x.2.2.1 x.2.2.2.1)) (fun x=>Hl x.1 x.2.1 x.2.2.1 x.2.2.2.1))::k52.E}
noncomputable def fC:=(Sig.cons true Dat.void (Sig.cons true bF (Sig.cons true (Dat.ah dz) (Sig.cons false (Dat.ah (Cel.int .i64)) Sig.nil))))
noncomputable def kU:=(Res.G4 (Res.int .i64) (Res.int .i64) Res.bool)
noncomputable def k54:Cfg (X:=els):={k53 with E:=(172,(fC).con kU (fun x=>(tZ x.1 x.2.1 x.2.2.1 x.2.2.2.1)) (fun x=>cI x.1 x.2.1 x.2.2.1 x.2.2.2.1))::k53.E}
noncomputable def eO:=(Sig.cons true Dat.void (Sig.cons true bF (Sig.cons true (Dat.ah dz) (Sig.cons false (Dat.ah (Cel.int .i64)) Sig.nil))))
noncomputable def jS:=(Res.G4 (Res.int .i64) (Res.int .i64) Res.bool)
noncomputable def k55:Cfg (X:=els):={k54 with E:=(173,(eO).con jS (fun x=>(x5 x.1 x.2.1 x.2.2.1 x.2.2.2.1)) (fun x=>cI x.1 x.2.1 x.2.2.1 x.2.2.2.1))::k54.E}
noncomputable def ei:=(Sig.cons true Dat.void (Sig.cons true bF (Sig.cons true (Dat.ah dz) (Sig.cons false (Dat.ah (Cel.int .i64)) Sig.nil))))
noncomputable def je:=(Res.G4 (Res.int .i64) (Res.int .i64) Res.bool)
noncomputable def k56:Cfg (X:=els):={k55 with E:=(190,(ei).con je (fun x=>(a6 x.1 x.2.1 x.2.2.1 x.2.2.2.1)) (fun x=>cI x.1 x.2.1 x.2.2.1 x.2.2.2.1))::k55.E}
noncomputable def Sa:=(Sig.cons true (Dat.ah dz) Sig.nil)
noncomputable def Uz:=(⟨fun _=> .ifc 140 (.agg []),fun _=>⟨_,rfl⟩⟩:Res Unit)
noncomputable def k57:Cfg (X:=els):={k56 with E:=(98,(Sa).con Uz (fun x=>(Au x.1)) (fun x=>UF x.1))::k56.E}
noncomputable def Sb:=(Sig.cons true (Dat.ah dz) Sig.nil)
noncomputable def UG:=(⟨fun _=> .ifc 141 (.agg []),fun _=>⟨_,rfl⟩⟩:Res Unit)
noncomputable def k58:Cfg (X:=els):={k57 with E:=(98,(Sb).con UG (fun x=>(Au x.1)) (fun x=>PQ x.1))::k57.E}
noncomputable def PO:=(Sig.cons true (Dat.ah dz) Sig.nil)
noncomputable def UL:=(⟨fun _=> .ifc 142 (.agg []),fun _=>⟨_,rfl⟩⟩:Res Unit)
noncomputable def k59:Cfg (X:=els):={k58 with E:=(98,(PO).con UL (fun x=>(Au x.1)) (fun x=>RT x.1))::k58.E}
noncomputable def Qm:=(Sig.cons true (Dat.ah dz) Sig.nil)
noncomputable def Un:=(⟨fun _=> .ifc 143 (.agg []),fun _=>⟨_,rfl⟩⟩:Res Unit)
noncomputable def k60:Cfg (X:=els):={k59 with E:=(98,(Qm).con Un (fun x=>(Au x.1)) (fun x=>RD x.1))::k59.E}
noncomputable def k61:Cfg (X:=els):={k60 with E:=(98,(RX (eAt k57 98) (eAt k58 98) (eAt k59 98) (eAt k60 98)))::k60.E}
noncomputable def cB:=(Sig.cons true bF (Sig.cons true (Dat.ah dz) (Sig.cons false (Dat.ah (Cel.int .i64)) Sig.nil)))
noncomputable def nB:=(Res.G4 (Res.agg vf) Res.bool (Res.int .i64))
noncomputable def k62:Cfg (X:=els):={k61 with E:=(66,(cB).con nB (fun x=>(bw x.1 x.2.1 x.2.2.1)) (fun x=>Dn x.1 x.2.1 x.2.2.1))::k61.E}
noncomputable def pP:=(Sig.cons true (Dat.ah ka) (Sig.cons false (Dat.ah (Cel.int .i64)) Sig.nil))
noncomputable def pI:=(Res.int .i64)
noncomputable def k63:Cfg (X:=els):={k62 with E:=(46,(pP).con pI (fun x=>(jk x.1 x.2.1)) (fun _=>true))::k62.E}
noncomputable def pf:=(Sig.cons true (Dat.ah ka) (Sig.cons false (Dat.ah (Cel.int .i64)) Sig.nil))
noncomputable def xr:=(Res.G4 (Res.int .i64) (Res.int .i64) (Res.int .i64))
noncomputable def k64:Cfg (X:=els):={k63 with E:=(22,(pf).con xr (fun x=>(dr x.1 x.2.1)) (fun _=>true))::k63.E}
noncomputable def nv:=(Sig.cons true (Dat.ah vf) (Sig.cons false (Dat.ah (Cel.int .i64)) Sig.nil))
noncomputable def vr:=Res.bool
noncomputable def k65:Cfg (X:=els):={k64 with E:=(50,(nv).con vr (fun x=>(inS x.1 x.2.1)) (fun _=>true))::k64.E}
noncomputable def Gk:=(Sig.cons true (Dat.ah vf) (Sig.cons true (Dat.ah vf) Sig.nil))
noncomputable def Ma:=Res.bool
noncomputable def k66:Cfg (X:=els):={k65 with E:=(112,(Gk).con Ma (fun x=>(nj x.1 x.2.1)) (fun _=>true))::k65.E}
def yO:Pat (X:=els):={tm:=[(.is (.slW 0 4)),(.is (.int .i64)), .any, .any, .any,(.is (.int .i64)),(.is (.lit (AV.fn 112 [] []))), .any, .any,(.is (.slW 0 4)),(.is (.int .i64)),(.is (.int .i64)), .any, .any, .any, .any, .any, .any, .any, .any, .any, .any, .any, .any, .any, .any, .any, .any, .any, .any, .any, .any, .any, .any, .any, .any],hp:=[(.vec (.span:El) false)]}
def mD:List Nat:=[0,1,5,6,9,10,11]
def zC:List Nat:=[4,5]
noncomputable def tO:bA (X:=els):={keep:=mD,m:=1,mv:=[]}
def om (l0:List (Span)) (v1 v5 v10 v11:Int):St (X:=els):={tm:=[.is (.sl 0 0 4 (List.length l0) none), .is (.int .i64 v1), .any, .any, .any, .is (.int .i64 v5), .is (AV.fn 112 [] []), .any, .any, .is (.sl 0 0 4 (List.length l0) none), .is (.int .i64 v10), .is (.int .i64 v11), .any, .any, .any, .any, .any, .any, .any, .any, .any, .any, .any, .any, .any, .any, .any, .any, .any, .any, .any, .any, .any, .any, .any, .any],hp:=[Blk.vec El.span l0 false]}
def pM (l0:List (Span)) (v5:Int):St (X:=els):=({tm:=[.any, .any, .any, .any, .any, .is (.int .i64 v5), .any, .any, .any, .any, .any, .any, .any, .any, .any, .any, .any, .any, .any, .any, .any, .any, .any, .any, .any, .any, .any, .any, .any, .any, .any, .any, .any, .any, .any, .any],hp:=[Blk.vec El.span l0 false]}:St (X:=els))
noncomputable def DQ:Code:=((aM [false,true,false,true,true,true] (Tryz.f97.body.getD .skip)).getD .skip|>fun c=>match c with| .loop c=>c|c=>c)
noncomputable def sS (F d n:Nat) (s:St (X:=els)):Option (Ex×St (X:=els)):=iter none (fun s' K'=>exec k66 none (bU k66 none F d) F 97 244 DQ s' (aU none tO K')) n s (fun e s=>some (e,b8 zC s))
noncomputable def xa:List LV→List (Blk (X:=els))→List SV→cb
 | [⟨El.span,l0⟩],[],xs=>aa xs fun v1 xs=>aa xs fun v5 xs=>aa xs fun v10 xs=>aa xs fun v11 xs=>cp xs (some (decide (l0.length≤1048576)&&(v10==(l0.length:Int)&&(v11==0&&v5== -1)),[], .exit 0,(pM l0 (az l0 v1))))
 |_,_,_=>none
noncomputable def k67:Cfg (X:=els):={k66 with lp:=(97,122,{keep:=mD,m:=1,mv:=tO.mv,ctx:=0,con:=some ((yO).con xa)})::k66.lp}
noncomputable def iJ:=(Sig.cons false (Dat.sl jc (.span:El)) (Sig.cons false (Dat.ah (Cel.int .i64)) Sig.nil))
noncomputable def mZ:=(Res.int .i64)
noncomputable def k68:Cfg (X:=els):={k67 with E:=(97,(iJ).con mZ (fun x=>(az x.1 x.2.1)) (fun x=>bz x.1 x.2.1))::k67.E}
def FJ:Pat (X:=els):={tm:=[(.is (.slW 0 4)),(.is (.lit (AV.fn 49 [] [AV.ptr 1 0]))), .any, .any, .any, .any, .any,(.is (.int .i64)),(.is (.int .i64)), .any, .any, .any, .any, .any, .any, .any, .any, .any, .any],hp:=[(.vec (.span:El) false),(.raw [(.int .i64)]),(.raw [(.int .i64),(.int .i64),(.int .i64),(.int .i64)])]}
def uh:List Nat:=[0,1,7,8]
def HF:List Nat:=[4]
noncomputable def B2:bA (X:=els):={keep:=uh,m:=3,mv:=[]}
def CH (l0:List (Span)) (P0 Q0 Q1 Q2 Q3 v7 v8:Int):St (X:=els):={tm:=[.is (.sl 0 0 4 (List.length l0) none), .is (AV.fn 49 [] [.ptr 1 0]), .any, .any, .any, .any, .any, .is (.int .i64 v7), .is (.int .i64 v8), .any, .any, .any, .any, .any, .any, .any, .any, .any, .any],hp:=[Blk.vec El.span l0 false, .raw [.int .i64 P0], .raw [.int .i64 Q0, .int .i64 Q1, .int .i64 Q2, .int .i64 Q3]]}
def xd (l0:List (Span)) (P0 Q0 Q1 Q2 Q3 v8:Int):St (X:=els):=({tm:=[.any, .any, .any, .any, .is (.int .i64 v8), .any, .any, .any, .any, .any, .any, .any, .any, .any, .any, .any, .any, .any, .any],hp:=[Blk.vec El.span l0 false, .raw [.int .i64 P0], .raw [.int .i64 Q0, .int .i64 Q1, .int .i64 Q2, .int .i64 Q3], .raw [.int .i64 (Span.from_ (List.getD l0 (0+Int.toNat v8) {from_:=0,to_:=0,mode:=0,prio:=0})), .int .i64 (Span.to_ (List.getD l0 (0+Int.toNat v8) {from_:=0,to_:=0,mode:=0,prio:=0})), .int .i64 (Span.mode (List.getD l0 (0+Int.toNat v8) {from_:=0,to_:=0,mode:=0,prio:=0})), .int .i64 (Span.prio (List.getD l0 (0+Int.toNat v8) {from_:=0,to_:=0,mode:=0,prio:=0}))]]}:St (X:=els))
def yF (l0:List (Span)) (P0 Q0 Q1 Q2 Q3:Int):St (X:=els):=({tm:=[.any, .any, .any, .any, .any, .any, .any, .any, .any, .any, .any, .any, .any, .any, .any, .any, .any, .any, .any],hp:=[Blk.vec El.span l0 false, .raw [.int .i64 P0], .raw [.int .i64 Q0, .int .i64 Q1, .int .i64 Q2, .int .i64 Q3]]}:St (X:=els))
noncomputable def Kw:Code:=((aM [false,true,false,true] (Tryz.f48.body.getD .skip)).getD .skip|>fun c=>match c with| .loop c=>c|c=>c)
noncomputable def Hx (F d n:Nat) (s:St (X:=els)):Option (Ex×St (X:=els)):=iter none (fun s' K'=>exec k68 none (bU k68 none F d) F 48 52 Kw s' (aU none B2 K')) n s (fun e s=>some (e,b8 HF s))
noncomputable def HJ:List LV→List (Blk (X:=els))→List SV→cb
 | [⟨El.span,l0⟩],[],xs=>aa xs fun P0 xs=>aa xs fun Q0 xs=>aa xs fun Q1 xs=>aa xs fun Q2 xs=>aa xs fun Q3 xs=>aa xs fun v7 xs=>aa xs fun v8 xs=>cp xs (some (decide (l0.length≤1048576)&&(v7==(l0.length:Int)&&v8==0),[(!gX l0 P0, .exit 0,(yF l0 P0 Q0 Q1 Q2 Q3))], .ret,(xd l0 P0 Q0 Q1 Q2 Q3 (atIdx l0 P0))))
 |_,_,_=>none
noncomputable def k69:Cfg (X:=els):={k68 with lp:=(48,26,{keep:=uh,m:=3,mv:=B2.mv,ctx:=1003,con:=some ((FJ).con HJ)})::k68.lp}
noncomputable def zZ:=(Sig.cons false (Dat.sl jc (.span:El)) (Sig.cons false (Dat.ah (Cel.int .i64)) Sig.nil))
noncomputable def Fv:=(Res.qV (Res.agg vf) Res.bool)
noncomputable def k70:Cfg (X:=els):={k69 with E:=(23,(zZ).con Fv (fun x=>(ja x.1 x.2.1)) (fun x=>bz x.1 x.2.1))::k69.E}
def MJ:Pat (X:=els):={tm:=[.any,(.is (.int .i64)),(.is (.int .i64)), .any, .any, .any, .any,(.is (.slW 1 4)), .any, .any,(.is (.slW 0 4)),(.is (.int .i64)),(.is (.int .i64)), .any, .any, .any, .any, .any, .any, .any, .any, .any, .any, .any, .any, .any, .any, .any, .any, .any, .any, .any, .any, .any, .any, .any, .any],hp:=[(.vec (.span:El) false),(.vec (.span:El) true)]}
def xZ:List Nat:=[1,2,7,10,11,12]
def Lc:List Nat:=[6,7]
noncomputable def FL:bA (X:=els):={keep:=xZ,m:=1,mv:=[(.slot 7,(.span:El))]}
def Fe (l0 l1:List (Span)) (v1 v2 v11 v12:Int):St (X:=els):={tm:=[.any, .is (.int .i64 v1), .is (.int .i64 v2), .any, .any, .any, .any, .is (.sl 1 0 4 (List.length l1) none), .any, .any, .is (.sl 0 0 4 (List.length l0) none), .is (.int .i64 v11), .is (.int .i64 v12), .any, .any, .any, .any, .any, .any, .any, .any, .any, .any, .any, .any, .any, .any, .any, .any, .any, .any, .any, .any, .any, .any, .any, .any],hp:=[Blk.vec El.span l0 false,Blk.vec El.span l1 true]}
def BA (l0 l1:List (Span)):St (X:=els):=({tm:=[.any, .any, .any, .any, .any, .any, .any, .is (.sl 1 0 4 (List.length l1) none), .any, .any, .any, .any, .any, .any, .any, .any, .any, .any, .any, .any, .any, .any, .any, .any, .any, .any, .any, .any, .any, .any, .any, .any, .any, .any, .any, .any, .any],hp:=[Blk.vec El.span l0 false,Blk.vec El.span l1 true]}:St (X:=els))
noncomputable def ON:Code:=((aM [false,true,false,true,true] (Tryz.f29.body.getD .skip)).getD .skip|>fun c=>match c with| .loop c=>c|c=>c)
noncomputable def Iq (F d n:Nat) (s:St (X:=els)):Option (Ex×St (X:=els)):=iter none (fun s' K'=>exec k70 none (bU k70 none F d) F 29 116 ON s' (aU none FL K')) n s (fun e s=>some (e,b8 Lc s))
noncomputable def Mj:List LV→List (Blk (X:=els))→List SV→cb
 | [⟨El.span,l0⟩,⟨El.span,l1⟩],[],xs=>aa xs fun v1 xs=>aa xs fun v2 xs=>aa xs fun v11 xs=>aa xs fun v12 xs=>cp xs (some (decide (l0.length≤1048576)&&(v11==(l0.length:Int)&&(v12==0&&l1.length==0)),[], .exit 0,(BA l0 (dY l0 v1 v2))))
 |_,_,_=>none
noncomputable def k71:Cfg (X:=els):={k70 with lp:=(29,58,{keep:=xZ,m:=1,mv:=FL.mv,ctx:=0,con:=some ((MJ).con Mj)})::k70.lp}
noncomputable def vI:=(Sig.cons false (Dat.sl jc (.span:El)) (Sig.cons false (Dat.ah (Cel.int .i64)) (Sig.cons false (Dat.ah (Cel.int .i64)) Sig.nil)))
noncomputable def wE:=(Out.one (Own.sl (.span:El)))
noncomputable def k72:Cfg (X:=els):={k71 with H:=(29,(vI).fU wE (fun x=>(dY x.1 x.2.1 x.2.2.1)) (fun x=>dS x.1 x.2.1 x.2.2.1))::k71.H}
def Bu:Pat (X:=els):={tm:=[(.is (.slW 0 4)),(.is (.lit (AV.fn 94 [] []))), .any, .any, .any, .any, .any,(.is (.int .i64)),(.is (.int .i64)), .any, .any, .any, .any, .any, .any, .any, .any, .any, .any],hp:=[(.vec (.span:El) false),(.raw [(.slW 0 4)])]}
def qb:List Nat:=[0,1,7,8]
def DT:List Nat:=[4]
noncomputable def x4:bA (X:=els):={keep:=qb,m:=2,mv:=[]}
def ye (l0:List (Span)) (v7 v8:Int):St (X:=els):={tm:=[.is (.sl 0 0 4 (List.length l0) none), .is (AV.fn 94 [] []), .any, .any, .any, .any, .any, .is (.int .i64 v7), .is (.int .i64 v8), .any, .any, .any, .any, .any, .any, .any, .any, .any, .any],hp:=[Blk.vec El.span l0 false, .raw [.sl 0 0 4 (List.length l0) none]]}
def tA (l0:List (Span)) (v8:Int):St (X:=els):=({tm:=[.any, .any, .any, .any, .is (.int .i64 v8), .any, .any, .any, .any, .any, .any, .any, .any, .any, .any, .any, .any, .any, .any],hp:=[Blk.vec El.span l0 false, .raw [.sl 0 0 4 (List.length l0) none], .raw [.int .i64 (Span.from_ (List.getD l0 (0+Int.toNat v8) {from_:=0,to_:=0,mode:=0,prio:=0})), .int .i64 (Span.to_ (List.getD l0 (0+Int.toNat v8) {from_:=0,to_:=0,mode:=0,prio:=0})), .int .i64 (Span.mode (List.getD l0 (0+Int.toNat v8) {from_:=0,to_:=0,mode:=0,prio:=0})), .int .i64 (Span.prio (List.getD l0 (0+Int.toNat v8) {from_:=0,to_:=0,mode:=0,prio:=0}))]]}:St (X:=els))
def tw (l0:List (Span)):St (X:=els):=({tm:=[.any, .any, .any, .any, .any, .any, .any, .any, .any, .any, .any, .any, .any, .any, .any, .any, .any, .any, .any],hp:=[Blk.vec El.span l0 false, .raw [.sl 0 0 4 (List.length l0) none]]}:St (X:=els))
noncomputable def G0:Code:=((aM [false,true,false,true] (Tryz.f48.body.getD .skip)).getD .skip|>fun c=>match c with| .loop c=>c|c=>c)
noncomputable def Bm (F d n:Nat) (s:St (X:=els)):Option (Ex×St (X:=els)):=iter none (fun s' K'=>exec k72 none (bU k72 none F d) F 48 52 G0 s' (aU none x4 K')) n s (fun e s=>some (e,b8 DT s))
noncomputable def BE:List LV→List (Blk (X:=els))→List SV→cb
 | [⟨El.span,l0⟩],[],xs=>aa xs fun v7 xs=>aa xs fun v8 xs=>cp xs (some (decide (l0.length≤1048576)&&(v7==(l0.length:Int)&&v8==0),[(l0.all fun s=> !nQ s, .exit 0,(tw l0))], .ret,(tA l0 (KG l0))))
 |_,_,_=>none
noncomputable def k73:Cfg (X:=els):={k72 with lp:=(48,26,{keep:=qb,m:=2,mv:=x4.mv,ctx:=1002,con:=some ((Bu).con BE)})::k72.lp}
def HK:Pat (X:=els):={tm:=[.any, .any, .any,(.is (.lit (AV.ptr 3 0))), .any, .any,(.is (.slW 0 4)),(.is (.int .i64)),(.is (.int .i64)), .any, .any, .any, .any, .any, .any, .any, .any, .any, .any, .any, .any, .any, .any, .any, .any],hp:=[(.vec (.span:El) false),(.raw [(.slW 0 4)]),(.raw [(.lit (AV.val (Value.slice none 0 0)))]),(.raw [(.slW 4 1)]),(.vec (.int:El) true)]}
def tL:List Nat:=[3,6,7,8]
def H4:List Nat:=[2,3]
noncomputable def BJ:bA (X:=els):={keep:=tL,m:=4,mv:=[(.cell 3 0,(.int:El))]}
def Dr (l0:List (Span)) (l4:List (Int)) (v7 v8:Int):St (X:=els):={tm:=[.any, .any, .any, .is (.ptr 3 0), .any, .any, .is (.sl 0 0 4 (List.length l0) none), .is (.int .i64 v7), .is (.int .i64 v8), .any, .any, .any, .any, .any, .any, .any, .any, .any, .any, .any, .any, .any, .any, .any, .any],hp:=[Blk.vec El.span l0 false, .raw [.sl 0 0 4 (List.length l0) none], .raw [.val (.slice none 0 0)], .raw [.sl 4 0 1 (List.length l4) none],Blk.vec El.int l4 true]}
def xi (l0:List (Span)) (l4:List (Int)):St (X:=els):=({tm:=[.any, .any, .any, .is (.ptr 3 0), .any, .any, .any, .any, .any, .any, .any, .any, .any, .any, .any, .any, .any, .any, .any, .any, .any, .any, .any, .any, .any],hp:=[Blk.vec El.span l0 false, .raw [.sl 0 0 4 (List.length l0) none], .raw [.val (.slice none 0 0)], .raw [.sl 4 0 1 (List.length l4) none],Blk.vec El.int l4 true]}:St (X:=els))
noncomputable def LW:Code:=((aM [false,true,false,true,true] (Tryz.f96.body.getD .skip)).getD .skip|>fun c=>match c with| .loop c=>c|c=>c)
noncomputable def Hm (F d n:Nat) (s:St (X:=els)):Option (Ex×St (X:=els)):=iter none (fun s' K'=>exec k73 none (bU k73 none F d) F 96 116 LW s' (aU none BJ K')) n s (fun e s=>some (e,b8 H4 s))
noncomputable def Hn:List LV→List (Blk (X:=els))→List SV→cb
 | [⟨El.span,l0⟩,⟨El.int,l4⟩],[],xs=>aa xs fun v7 xs=>aa xs fun v8 xs=>cp xs (some (decide (l0.length≤1000)&&(v7==(l0.length:Int)&&(v8==0&&l4.length==0)),[], .exit 0,(xi l0 (aS l0))))
 |_,_,_=>none
noncomputable def k74:Cfg (X:=els):={k73 with lp:=(96,58,{keep:=tL,m:=4,mv:=BJ.mv,ctx:=0,con:=some ((HK).con Hn)})::k73.lp}
def Mm:Pat (X:=els):={tm:=[(.is (.lit (AV.yld 6))),(.is (.lit (AV.ptr 3 0))), .any,(.is (.int .i64)), .any, .any, .any, .any, .any, .any, .any, .any, .any, .any, .any, .any, .any, .any, .any, .any, .any, .any],hp:=[(.vec (.span:El) false),(.raw [(.slW 0 4)]),(.raw [(.slW 7 4)]),(.raw [(.slW 4 1)]),(.vec (.int:El) true), .dfr,(.rcd 2 [.any,(.is (.lit (AV.ptr 1 0))), .any, .any, .any,(.is (.lit (AV.ptr 2 0))), .any, .any, .any, .any, .any, .any, .any, .any, .any, .any, .any, .any, .any,(.is (.lit (AV.fn 111 [] [AV.ptr 3 0]))), .any, .any, .any, .any, .any, .any, .any, .any, .any, .any, .any, .any, .any, .any, .any, .any, .any, .any, .any, .any, .any, .any, .any, .any, .any, .any, .any, .any, .any, .any, .any, .any, .any, .any, .any, .any, .any, .any, .any, .any, .any, .any, .any, .any, .any, .any, .any, .any, .any, .any, .any]),(.vec (.span:El) true)]}
def yR:List Nat:=[0,1,3]
def Kx:List Nat:=[]
noncomputable def Hp:bA (X:=els):={keep:=yR,m:=7,mv:=[(.cell 2 0,(.span:El))]}
def Dw (l0:List (Span)) (l4:List (Int)) (l7:List (Span)) (v3:Int):St (X:=els):={tm:=[.is (AV.yld 6), .is (.ptr 3 0), .any, .is (.int .i64 v3), .any, .any, .any, .any, .any, .any, .any, .any, .any, .any, .any, .any, .any, .any, .any, .any, .any, .any],hp:=[Blk.vec El.span l0 false, .raw [.sl 0 0 4 (List.length l0) none], .raw [.sl 7 0 4 (List.length l7) none], .raw [.sl 4 0 1 (List.length l4) none],Blk.vec El.int l4 true,Blk.dfr,Blk.rcd RS.ready 2 [.any, .is (.ptr 1 0), .any, .any, .any, .is (.ptr 2 0), .any, .any, .any, .any, .any, .any, .any, .any, .any, .any, .any, .any, .any, .is (AV.fn 111 [] [.ptr 3 0]), .any, .any, .any, .any, .any, .any, .any, .any, .any, .any, .any, .any, .any, .any, .any, .any, .any, .any, .any, .any, .any, .any, .any, .any, .any, .any, .any, .any, .any, .any, .any, .any, .any, .any, .any, .any, .any, .any, .any, .any, .any, .any, .any, .any, .any, .any, .any, .any, .any, .any, .any],Blk.vec El.span l7 true]}
def BO (l0:List (Span)) (l4:List (Int)) (l7:List (Span)):St (X:=els):=({tm:=[.any, .any, .any, .any, .any, .any, .any, .any, .any, .any, .any, .any, .any, .any, .any, .any, .any, .any, .any, .any, .any, .any],hp:=[Blk.vec El.span l0 false, .raw [.sl 0 0 4 (List.length l0) none], .raw [.sl 7 0 4 (List.length l7) none], .raw [.sl 4 0 1 (List.length l4) none],Blk.vec El.int l4 true,Blk.dfr,Blk.rcd RS.ready 2 [.any, .is (.ptr 1 0), .any, .any, .any, .is (.ptr 2 0), .any, .any, .any, .any, .any, .any, .any, .any, .any, .any, .any, .any, .any, .is (AV.fn 111 [] [.ptr 3 0]), .any, .any, .any, .any, .any, .any, .any, .any, .any, .any, .any, .any, .any, .any, .any, .any, .any, .any, .any, .any, .any, .any, .any, .any, .any, .any, .any, .any, .any, .any, .any, .any, .any, .any, .any, .any, .any, .any, .any, .any, .any, .any, .any, .any, .any, .any, .any, .any, .any, .any, .any],Blk.vec El.span l7 true]}:St (X:=els))
noncomputable def Qk:Code:=((aM [false,true] (Tryz.f111.body.getD .skip)).getD .skip|>fun c=>match c with| .loop c=>c|c=>c)
noncomputable def E0 (F d n:Nat) (s:St (X:=els)):Option (Ex×St (X:=els)):=iter none (fun s' K'=>exec k74 none (bU k74 none F d) F 111 12 Qk s' (aU none Hp K')) n s (fun e s=>some (e,b8 Kx s))
noncomputable def LY:List LV→List (Blk (X:=els))→List SV→cb
 | [⟨El.span,l0⟩,⟨El.int,l4⟩,⟨El.span,l7⟩],[],xs=>aa xs fun v3 xs=>cp xs (some (decide (l0.length≤1048576)&&(decide (l4.length≤1000)&&(v3==1&&l7.length==0)),[], .exit 0,(BO l0 l4 (fS l0 l4 []))))
 |_,_,_=>none
noncomputable def k75:Cfg (X:=els):={k74 with lp:=(111,6,{keep:=yR,m:=7,mv:=Hp.mv,ctx:=3,con:=some ((Mm).con LY)})::k74.lp}
noncomputable def lO:=(Sig.cons false (Dat.sl jc (.span:El)) Sig.nil)
noncomputable def mn:=(Out.tup (uu.cons (Out.one (Own.sl (.span:El))) (uu.last (Out.one (Own.ah (Cel.int .i64))))))
noncomputable def k76:Cfg (X:=els):={k75 with H:=(64,(lO).fU mn (fun x=>(bC x.1)) (fun x=>cR x.1))::k75.H}
def Ie:Pat (X:=els):={tm:=[(.is (.lit (AV.yld 8))), .any,(.is (.lit (AV.ptr 6 0))),(.is (.lit (AV.ptr 4 0))), .any,(.is (.int .i64)), .any, .any, .any, .any, .any, .any, .any, .any, .any, .any, .any, .any,(.is (.slW 1 7)),(.is (.int .i64)),(.is (.int .i64)), .any, .any, .any, .any, .any, .any, .any, .any, .any, .any, .any, .any, .any, .any, .any, .any, .any, .any, .any],hp:=[(.vec (.int:El) false),(.vec (.aW:El) false),(.raw [(.int .i64),(.int .i64),(.int .i64),(.slW 0 1),(.int .i64),(.int .i64),(.int .i64),(.int .i64),(.int .i64),(.int .i64),(.int .i64),(.int .i64),(.int .i64),(.int .i64),(.int .i64),(.int .i64),(.int .i64),(.int .i64),(.int .i64),(.int .i64),(.int .i64),(.int .i64),(.int .i64),(.int .i64),(.int .i64),(.int .i64),(.int .i64),(.int .i64),(.int .i64),(.int .i64),(.int .i64),(.int .i64),(.int .i64),(.int .i64),(.int .i64), .bool,(.slW 1 7)]),(.raw [(.slW 10 4)]),(.raw [(.int .i64),(.int .i64),(.int .i64),(.slW 0 1),(.int .i64),(.int .i64),(.int .i64),(.int .i64),(.int .i64),(.int .i64),(.int .i64),(.int .i64),(.int .i64),(.int .i64),(.int .i64),(.int .i64),(.int .i64),(.int .i64),(.int .i64),(.int .i64),(.int .i64),(.int .i64),(.int .i64),(.int .i64),(.int .i64),(.int .i64),(.int .i64),(.int .i64),(.int .i64),(.int .i64),(.int .i64),(.int .i64),(.int .i64),(.int .i64),(.int .i64), .bool,(.slW 1 7)]),(.raw [(.int .i64)]),(.raw [(.int .i64)]), .dfr,(.rcd 1 [.any, .any, .any, .any, .any, .any, .any, .any, .any,(.is (.lit (AV.ptr 3 0))), .any, .any, .any, .any, .any, .any, .any, .any, .any, .any, .any, .any, .any, .any, .any, .any, .any, .any, .any, .any, .any, .any, .any, .any, .any, .any,(.is (.lit (AV.fn 65 [] [AV.ptr 5 0,AV.ptr 6 0,AV.ptr 4 0]))), .any, .any, .any, .any, .any, .any]), .dead,(.vec (.span:El) true)]}
def ui:List Nat:=[0,2,3,5,18,19,20]
def Hk:List Nat:=[0,2,3,5,34,35,36,37]
noncomputable def BR:bA (X:=els):={keep:=ui,m:=10,mv:=[(.cell 3 0,(.span:El))]}
def zm (l0:List (Int)) (l1:List (ag)) (l9:List (Span)) (Q0 Q1 Q2 Q4 Q5 Q6 Q7 Q8 Q9 Q10 Q11 Q12 Q13 Q14 Q15 Q16 Q17 Q18 Q19 Q20 Q21 Q22 Q23 Q24 Q25 Q26 Q27 Q28 Q29 Q30 Q31 Q32 Q33 Q34:Int) (Q35:Bool) (S0 S1 S2 S4 S5 S6 S7 S8 S9 S10 S11 S12 S13 S14 S15 S16 S17 S18 S19 S20 S21 S22 S23 S24 S25 S26 S27 S28 S29 S30 S31 S32 S33 S34:Int) (S35:Bool) (U0 W0 v5 v19 v20:Int):St (X:=els):={tm:=[.is (AV.yld 8), .any, .is (.ptr 6 0), .is (.ptr 4 0), .any, .is (.int .i64 v5), .any, .any, .any, .any, .any, .any, .any, .any, .any, .any, .any, .any, .is (.sl 1 0 7 (List.length l1) none), .is (.int .i64 v19), .is (.int .i64 v20), .any, .any, .any, .any, .any, .any, .any, .any, .any, .any, .any, .any, .any, .any, .any, .any, .any, .any, .any],hp:=[Blk.vec El.int l0 false,Blk.vec El.aW l1 false, .raw [.int .i64 Q0, .int .i64 Q1, .int .i64 Q2, .sl 0 0 1 (List.length l0) none, .int .i64 Q4, .int .i64 Q5, .int .i64 Q6, .int .i64 Q7, .int .i64 Q8, .int .i64 Q9, .int .i64 Q10, .int .i64 Q11, .int .i64 Q12, .int .i64 Q13, .int .i64 Q14, .int .i64 Q15, .int .i64 Q16, .int .i64 Q17, .int .i64 Q18, .int .i64 Q19, .int .i64 Q20, .int .i64 Q21, .int .i64 Q22, .int .i64 Q23, .int .i64 Q24, .int .i64 Q25, .int .i64 Q26, .int .i64 Q27, .int .i64 Q28, .int .i64 Q29, .int .i64 Q30, .int .i64 Q31, .int .i64 Q32, .int .i64 Q33, .int .i64 Q34, .bool Q35, .sl 1 0 7 (List.length l1) none], .raw [.sl 10 0 4 (List.length l9) none], .raw [.int .i64 S0, .int .i64 S1, .int .i64 S2, .sl 0 0 1 (List.length l0) none, .int .i64 S4, .int .i64 S5, .int .i64 S6, .int .i64 S7, .int .i64 S8, .int .i64 S9, .int .i64 S10, .int .i64 S11, .int .i64 S12, .int .i64 S13, .int .i64 S14, .int .i64 S15, .int .i64 S16, .int .i64 S17, .int .i64 S18, .int .i64 S19, .int .i64 S20, .int .i64 S21, .int .i64 S22, .int .i64 S23, .int .i64 S24, .int .i64 S25, .int .i64 S26, .int .i64 S27, .int .i64 S28, .int .i64 S29, .int .i64 S30, .int .i64 S31, .int .i64 S32, .int .i64 S33, .int .i64 S34, .bool S35, .sl 1 0 7 (List.length l1) none], .raw [.int .i64 U0], .raw [.int .i64 W0],Blk.dfr,Blk.rcd RS.ready 1 [.any, .any, .any, .any, .any, .any, .any, .any, .any, .is (.ptr 3 0), .any, .any, .any, .any, .any, .any, .any, .any, .any, .any, .any, .any, .any, .any, .any, .any, .any, .any, .any, .any, .any, .any, .any, .any, .any, .any, .is (AV.fn 65 [] [.ptr 5 0, .ptr 6 0, .ptr 4 0]), .any, .any, .any, .any, .any, .any], .dead,Blk.vec El.span l9 true]}
def QA (l0:List (Int)) (l1:List (ag)) (l9:List (Span)) (Q0 Q1 Q2 Q4 Q5 Q6 Q7 Q8 Q9 Q10 Q11 Q12 Q13 Q14 Q15 Q16 Q17 Q18 Q19 Q20 Q21 Q22 Q23 Q24 Q25 Q26 Q27 Q28 Q29 Q30 Q31 Q32 Q33 Q34:Int) (Q35:Bool) (S0 S1 S2 S4 S5 S6 S7 S8 S9 S10 S11 S12 S13 S14 S15 S16 S17 S18 S19 S20 S21 S22 S23 S24 S25 S26 S27 S28 S29 S30 S31 S32 S33 S34:Int) (S35:Bool) (U0 W0 v5 v20:Int):St (X:=els):=(fun(C:Config)=>
 ({tm:=[.is (AV.yld 8), .any, .is (.ptr 6 0), .is (.ptr 4 0), .any, .is (.int .i64 v5), .any, .any, .any, .any, .any, .any, .any, .any, .any, .any, .any, .any, .any, .any, .any, .any, .any, .any, .any, .any, .any, .any, .any, .any, .any, .any, .any, .any, .any, .any, .is (.bool true), .any, .any, .any],hp:=[Blk.vec El.int l0 false,Blk.vec El.aW l1 false, .raw [.int .i64 Q0, .int .i64 Q1, .int .i64 Q2, .sl 0 0 1 (List.length l0) none, .int .i64 Q4, .int .i64 Q5, .int .i64 Q6, .int .i64 Q7, .int .i64 Q8, .int .i64 Q9, .int .i64 Q10, .int .i64 Q11, .int .i64 Q12, .int .i64 Q13, .int .i64 Q14, .int .i64 Q15, .int .i64 Q16, .int .i64 Q17, .int .i64 Q18, .int .i64 Q19, .int .i64 Q20, .int .i64 Q21, .int .i64 Q22, .int .i64 Q23, .int .i64 Q24, .int .i64 Q25, .int .i64 Q26, .int .i64 Q27, .int .i64 Q28, .int .i64 Q29, .int .i64 Q30, .int .i64 Q31, .int .i64 Q32, .int .i64 Q33, .int .i64 Q34, .bool Q35, .sl 1 0 7 (List.length l1) none], .raw [.sl 15 0 4 (List.length (l9++[Prod.fst (bw C (List.getD l1 (0+Int.toNat v20) {kind:=0,mode:=0,prio:=0,arg:=0,shift:=0,minute:=0,len:=0}) v5)])) none], .raw [.int .i64 S0, .int .i64 S1, .int .i64 S2, .sl 0 0 1 (List.length l0) none, .int .i64 S4, .int .i64 S5, .int .i64 S6, .int .i64 S7, .int .i64 S8, .int .i64 S9, .int .i64 S10, .int .i64 S11, .int .i64 S12, .int .i64 S13, .int .i64 S14, .int .i64 S15, .int .i64 S16, .int .i64 S17, .int .i64 S18, .int .i64 S19, .int .i64 S20, .int .i64 S21, .int .i64 S22, .int .i64 S23, .int .i64 S24, .int .i64 S25, .int .i64 S26, .int .i64 S27, .int .i64 S28, .int .i64 S29, .int .i64 S30, .int .i64 S31, .int .i64 S32, .int .i64 S33, .int .i64 S34, .bool S35, .sl 1 0 7 (List.length l1) none], .raw [.int .i64 U0], .raw [.int .i64 W0],Blk.dfr,Blk.rcd RS.ready 1 [.any, .any, .any, .any, .any, .any, .any, .any, .any, .is (.ptr 3 0), .any, .any, .any, .any, .any, .any, .any, .any, .any, .any, .any, .any, .any, .any, .any, .any, .any, .any, .any, .any, .any, .any, .any, .any, .any, .any, .is (AV.fn 65 [] [.ptr 5 0, .ptr 6 0, .ptr 4 0]), .any, .any, .any, .any, .any, .any], .dead, .dead, .raw [.int .i64 (ag.kind (List.getD l1 (0+Int.toNat v20) {kind:=0,mode:=0,prio:=0,arg:=0,shift:=0,minute:=0,len:=0})), .int .i64 (ag.mode (List.getD l1 (0+Int.toNat v20) {kind:=0,mode:=0,prio:=0,arg:=0,shift:=0,minute:=0,len:=0})), .int .i64 (ag.prio (List.getD l1 (0+Int.toNat v20) {kind:=0,mode:=0,prio:=0,arg:=0,shift:=0,minute:=0,len:=0})), .int .i64 (ag.arg (List.getD l1 (0+Int.toNat v20) {kind:=0,mode:=0,prio:=0,arg:=0,shift:=0,minute:=0,len:=0})), .int .i64 (ag.shift (List.getD l1 (0+Int.toNat v20) {kind:=0,mode:=0,prio:=0,arg:=0,shift:=0,minute:=0,len:=0})), .int .i64 (ag.minute (List.getD l1 (0+Int.toNat v20) {kind:=0,mode:=0,prio:=0,arg:=0,shift:=0,minute:=0,len:=0})), .int .i64 (ag.len (List.getD l1 (0+Int.toNat v20) {kind:=0,mode:=0,prio:=0,arg:=0,shift:=0,minute:=0,len:=0}))], .raw [.int .i64 (Span.from_ (Prod.fst (bw C (List.getD l1 (0+Int.toNat v20) {kind:=0,mode:=0,prio:=0,arg:=0,shift:=0,minute:=0,len:=0}) v5))), .int .i64 (Span.to_ (Prod.fst (bw C (List.getD l1 (0+Int.toNat v20) {kind:=0,mode:=0,prio:=0,arg:=0,shift:=0,minute:=0,len:=0}) v5))), .int .i64 (Span.mode (Prod.fst (bw C (List.getD l1 (0+Int.toNat v20) {kind:=0,mode:=0,prio:=0,arg:=0,shift:=0,minute:=0,len:=0}) v5))), .int .i64 (Span.prio (Prod.fst (bw C (List.getD l1 (0+Int.toNat v20) {kind:=0,mode:=0,prio:=0,arg:=0,shift:=0,minute:=0,len:=0}) v5)))], .raw [.int .i64 (Span.from_ (Prod.fst (bw C (List.getD l1 (0+Int.toNat v20) {kind:=0,mode:=0,prio:=0,arg:=0,shift:=0,minute:=0,len:=0}) v5))), .int .i64 (Span.to_ (Prod.fst (bw C (List.getD l1 (0+Int.toNat v20) {kind:=0,mode:=0,prio:=0,arg:=0,shift:=0,minute:=0,len:=0}) v5))), .int .i64 (Span.mode (Prod.fst (bw C (List.getD l1 (0+Int.toNat v20) {kind:=0,mode:=0,prio:=0,arg:=0,shift:=0,minute:=0,len:=0}) v5))), .int .i64 (Span.prio (Prod.fst (bw C (List.getD l1 (0+Int.toNat v20) {kind:=0,mode:=0,prio:=0,arg:=0,shift:=0,minute:=0,len:=0}) v5)))], .raw [.int .i64 (Span.from_ (Prod.fst (bw C (List.getD l1 (0+Int.toNat v20) {kind:=0,mode:=0,prio:=0,arg:=0,shift:=0,minute:=0,len:=0}) v5))), .int .i64 (Span.to_ (Prod.fst (bw C (List.getD l1 (0+Int.toNat v20) {kind:=0,mode:=0,prio:=0,arg:=0,shift:=0,minute:=0,len:=0}) v5))), .int .i64 (Span.mode (Prod.fst (bw C (List.getD l1 (0+Int.toNat v20) {kind:=0,mode:=0,prio:=0,arg:=0,shift:=0,minute:=0,len:=0}) v5))), .int .i64 (Span.prio (Prod.fst (bw C (List.getD l1 (0+Int.toNat v20) {kind:=0,mode:=0,prio:=0,arg:=0,shift:=0,minute:=0,len:=0}) v5)))],Blk.vec El.span (l9++[Prod.fst (bw C (List.getD l1 (0+Int.toNat v20) {kind:=0,mode:=0,prio:=0,arg:=0,shift:=0,minute:=0,len:=0}) v5)]) true]}:St (X:=els))) {bE:=S0,pB:=S1,qQ:=S2,stops:=l0,times:={kh:=S4,level:=S5,open_:=S6,ic:=S7,lead:=S8,close:=S9,hold:=S10},rest:=S11,jb:=S12,aK:={base:=S13,shift:=S14,on:={month:=S15,ck:=S16,weekday:=S17,minute:=S18},off:={month:=S19,ck:=S20,weekday:=S21,minute:=S22}},sun:={m0:=S23,m1:=S24,m2:=S25,m3:=S26,m4:=S27,m5:=S28,m6:=S29,m7:=S30,m8:=S31,m9:=S32,m10:=S33,m11:=S34},bt:=S35,ae:=l1}
def Rn (l0:List (Int)) (l1:List (ag)) (l9:List (Span)) (Q0 Q1 Q2 Q4 Q5 Q6 Q7 Q8 Q9 Q10 Q11 Q12 Q13 Q14 Q15 Q16 Q17 Q18 Q19 Q20 Q21 Q22 Q23 Q24 Q25 Q26 Q27 Q28 Q29 Q30 Q31 Q32 Q33 Q34:Int) (Q35:Bool) (S0 S1 S2 S4 S5 S6 S7 S8 S9 S10 S11 S12 S13 S14 S15 S16 S17 S18 S19 S20 S21 S22 S23 S24 S25 S26 S27 S28 S29 S30 S31 S32 S33 S34:Int) (S35:Bool) (U0 W0 v5 v20:Int):St (X:=els):=(fun(C:Config)=>
 ({tm:=[.is (AV.yld 8), .any, .is (.ptr 6 0), .is (.ptr 4 0), .any, .is (.int .i64 v5), .any, .any, .any, .any, .any, .any, .any, .any, .any, .any, .any, .any, .any, .any, .any, .any, .any, .any, .any, .any, .any, .any, .any, .any, .any, .any, .any, .any, .any, .any, .any, .any, .any, .any],hp:=[Blk.vec El.int l0 false,Blk.vec El.aW l1 false, .raw [.int .i64 Q0, .int .i64 Q1, .int .i64 Q2, .sl 0 0 1 (List.length l0) none, .int .i64 Q4, .int .i64 Q5, .int .i64 Q6, .int .i64 Q7, .int .i64 Q8, .int .i64 Q9, .int .i64 Q10, .int .i64 Q11, .int .i64 Q12, .int .i64 Q13, .int .i64 Q14, .int .i64 Q15, .int .i64 Q16, .int .i64 Q17, .int .i64 Q18, .int .i64 Q19, .int .i64 Q20, .int .i64 Q21, .int .i64 Q22, .int .i64 Q23, .int .i64 Q24, .int .i64 Q25, .int .i64 Q26, .int .i64 Q27, .int .i64 Q28, .int .i64 Q29, .int .i64 Q30, .int .i64 Q31, .int .i64 Q32, .int .i64 Q33, .int .i64 Q34, .bool Q35, .sl 1 0 7 (List.length l1) none], .raw [.sl 10 0 4 (List.length l9) none], .raw [.int .i64 S0, .int .i64 S1, .int .i64 S2, .sl 0 0 1 (List.length l0) none, .int .i64 S4, .int .i64 S5, .int .i64 S6, .int .i64 S7, .int .i64 S8, .int .i64 S9, .int .i64 S10, .int .i64 S11, .int .i64 S12, .int .i64 S13, .int .i64 S14, .int .i64 S15, .int .i64 S16, .int .i64 S17, .int .i64 S18, .int .i64 S19, .int .i64 S20, .int .i64 S21, .int .i64 S22, .int .i64 S23, .int .i64 S24, .int .i64 S25, .int .i64 S26, .int .i64 S27, .int .i64 S28, .int .i64 S29, .int .i64 S30, .int .i64 S31, .int .i64 S32, .int .i64 S33, .int .i64 S34, .bool S35, .sl 1 0 7 (List.length l1) none], .raw [.int .i64 U0], .raw [.int .i64 W0],Blk.dfr,Blk.rcd RS.ready 1 [.any, .any, .any, .any, .any, .any, .any, .any, .any, .is (.ptr 3 0), .any, .any, .any, .any, .any, .any, .any, .any, .any, .any, .any, .any, .any, .any, .any, .any, .any, .any, .any, .any, .any, .any, .any, .any, .any, .any, .is (AV.fn 65 [] [.ptr 5 0, .ptr 6 0, .ptr 4 0]), .any, .any, .any, .any, .any, .any], .dead,Blk.vec El.span l9 true, .raw [.int .i64 (ag.kind (List.getD l1 (0+Int.toNat v20) {kind:=0,mode:=0,prio:=0,arg:=0,shift:=0,minute:=0,len:=0})), .int .i64 (ag.mode (List.getD l1 (0+Int.toNat v20) {kind:=0,mode:=0,prio:=0,arg:=0,shift:=0,minute:=0,len:=0})), .int .i64 (ag.prio (List.getD l1 (0+Int.toNat v20) {kind:=0,mode:=0,prio:=0,arg:=0,shift:=0,minute:=0,len:=0})), .int .i64 (ag.arg (List.getD l1 (0+Int.toNat v20) {kind:=0,mode:=0,prio:=0,arg:=0,shift:=0,minute:=0,len:=0})), .int .i64 (ag.shift (List.getD l1 (0+Int.toNat v20) {kind:=0,mode:=0,prio:=0,arg:=0,shift:=0,minute:=0,len:=0})), .int .i64 (ag.minute (List.getD l1 (0+Int.toNat v20) {kind:=0,mode:=0,prio:=0,arg:=0,shift:=0,minute:=0,len:=0})), .int .i64 (ag.len (List.getD l1 (0+Int.toNat v20) {kind:=0,mode:=0,prio:=0,arg:=0,shift:=0,minute:=0,len:=0}))], .raw [.int .i64 (Span.from_ (Prod.fst (bw C (List.getD l1 (0+Int.toNat v20) {kind:=0,mode:=0,prio:=0,arg:=0,shift:=0,minute:=0,len:=0}) v5))), .int .i64 (Span.to_ (Prod.fst (bw C (List.getD l1 (0+Int.toNat v20) {kind:=0,mode:=0,prio:=0,arg:=0,shift:=0,minute:=0,len:=0}) v5))), .int .i64 (Span.mode (Prod.fst (bw C (List.getD l1 (0+Int.toNat v20) {kind:=0,mode:=0,prio:=0,arg:=0,shift:=0,minute:=0,len:=0}) v5))), .int .i64 (Span.prio (Prod.fst (bw C (List.getD l1 (0+Int.toNat v20) {kind:=0,mode:=0,prio:=0,arg:=0,shift:=0,minute:=0,len:=0}) v5)))]]}:St (X:=els))) {bE:=S0,pB:=S1,qQ:=S2,stops:=l0,times:={kh:=S4,level:=S5,open_:=S6,ic:=S7,lead:=S8,close:=S9,hold:=S10},rest:=S11,jb:=S12,aK:={base:=S13,shift:=S14,on:={month:=S15,ck:=S16,weekday:=S17,minute:=S18},off:={month:=S19,ck:=S20,weekday:=S21,minute:=S22}},sun:={m0:=S23,m1:=S24,m2:=S25,m3:=S26,m4:=S27,m5:=S28,m6:=S29,m7:=S30,m8:=S31,m9:=S32,m10:=S33,m11:=S34},bt:=S35,ae:=l1}
def xu (l0:List (Int)) (l1:List (ag)) (l9:List (Span)) (Q0 Q1 Q2 Q4 Q5 Q6 Q7 Q8 Q9 Q10 Q11 Q12 Q13 Q14 Q15 Q16 Q17 Q18 Q19 Q20 Q21 Q22 Q23 Q24 Q25 Q26 Q27 Q28 Q29 Q30 Q31 Q32 Q33 Q34:Int) (Q35:Bool) (S0 S1 S2 S4 S5 S6 S7 S8 S9 S10 S11 S12 S13 S14 S15 S16 S17 S18 S19 S20 S21 S22 S23 S24 S25 S26 S27 S28 S29 S30 S31 S32 S33 S34:Int) (S35:Bool) (U0 W0 v5:Int):St (X:=els):=({tm:=[.is (AV.yld 8), .any, .is (.ptr 6 0), .is (.ptr 4 0), .any, .is (.int .i64 v5), .any, .any, .any, .any, .any, .any, .any, .any, .any, .any, .any, .any, .any, .any, .any, .any, .any, .any, .any, .any, .any, .any, .any, .any, .any, .any, .any, .any, .any, .any, .any, .any, .any, .any],hp:=[Blk.vec El.int l0 false,Blk.vec El.aW l1 false, .raw [.int .i64 Q0, .int .i64 Q1, .int .i64 Q2, .sl 0 0 1 (List.length l0) none, .int .i64 Q4, .int .i64 Q5, .int .i64 Q6, .int .i64 Q7, .int .i64 Q8, .int .i64 Q9, .int .i64 Q10, .int .i64 Q11, .int .i64 Q12, .int .i64 Q13, .int .i64 Q14, .int .i64 Q15, .int .i64 Q16, .int .i64 Q17, .int .i64 Q18, .int .i64 Q19, .int .i64 Q20, .int .i64 Q21, .int .i64 Q22, .int .i64 Q23, .int .i64 Q24, .int .i64 Q25, .int .i64 Q26, .int .i64 Q27, .int .i64 Q28, .int .i64 Q29, .int .i64 Q30, .int .i64 Q31, .int .i64 Q32, .int .i64 Q33, .int .i64 Q34, .bool Q35, .sl 1 0 7 (List.length l1) none], .raw [.sl 10 0 4 (List.length l9) none], .raw [.int .i64 S0, .int .i64 S1, .int .i64 S2, .sl 0 0 1 (List.length l0) none, .int .i64 S4, .int .i64 S5, .int .i64 S6, .int .i64 S7, .int .i64 S8, .int .i64 S9, .int .i64 S10, .int .i64 S11, .int .i64 S12, .int .i64 S13, .int .i64 S14, .int .i64 S15, .int .i64 S16, .int .i64 S17, .int .i64 S18, .int .i64 S19, .int .i64 S20, .int .i64 S21, .int .i64 S22, .int .i64 S23, .int .i64 S24, .int .i64 S25, .int .i64 S26, .int .i64 S27, .int .i64 S28, .int .i64 S29, .int .i64 S30, .int .i64 S31, .int .i64 S32, .int .i64 S33, .int .i64 S34, .bool S35, .sl 1 0 7 (List.length l1) none], .raw [.int .i64 U0], .raw [.int .i64 W0],Blk.dfr,Blk.rcd RS.ready 1 [.any, .any, .any, .any, .any, .any, .any, .any, .any, .is (.ptr 3 0), .any, .any, .any, .any, .any, .any, .any, .any, .any, .any, .any, .any, .any, .any, .any, .any, .any, .any, .any, .any, .any, .any, .any, .any, .any, .any, .is (AV.fn 65 [] [.ptr 5 0, .ptr 6 0, .ptr 4 0]), .any, .any, .any, .any, .any, .any], .dead,Blk.vec El.span l9 true]}:St (X:=els))
noncomputable def LK:Code:=((aM [false,true,false,false,true,false,false,true,true,false] (Tryz.f65.body.getD .skip)).getD .skip|>fun c=>match c with| .loop c=>c|c=>c)
noncomputable def CT (F d n:Nat) (s:St (X:=els)):Option (Ex×St (X:=els)):=iter none (fun s' K'=>exec k76 none (bU k76 none F d) F 65 2852 LK s' (aU none BR K')) n s (fun e s=>some (e,b8 Hk s))
noncomputable def HE:List LV→List (Blk (X:=els))→List SV→cb
 | [⟨El.int,l0⟩,⟨El.aW,l1⟩,⟨El.span,l9⟩],[],xs=>aa xs fun Q0 xs=>aa xs fun Q1 xs=>aa xs fun Q2 xs=>aa xs fun Q4 xs=>aa xs fun Q5 xs=>aa xs fun Q6 xs=>aa xs fun Q7 xs=>aa xs fun Q8 xs=>aa xs fun Q9 xs=>aa xs fun Q10 xs=>aa xs fun Q11 xs=>aa xs fun Q12 xs=>aa xs fun Q13 xs=>aa xs fun Q14 xs=>aa xs fun Q15 xs=>aa xs fun Q16 xs=>aa xs fun Q17 xs=>aa xs fun Q18 xs=>aa xs fun Q19 xs=>aa xs fun Q20 xs=>aa xs fun Q21 xs=>aa xs fun Q22 xs=>aa xs fun Q23 xs=>aa xs fun Q24 xs=>aa xs fun Q25 xs=>aa xs fun Q26 xs=>aa xs fun Q27 xs=>aa xs fun Q28 xs=>aa xs fun Q29 xs=>aa xs fun Q30 xs=>aa xs fun Q31 xs=>aa xs fun Q32 xs=>aa xs fun Q33 xs=>aa xs fun Q34 xs=>gP xs fun Q35 xs=>aa xs fun S0 xs=>aa xs fun S1 xs=>aa xs fun S2 xs=>aa xs fun S4 xs=>aa xs fun S5 xs=>aa xs fun S6 xs=>aa xs fun S7 xs=>aa xs fun S8 xs=>aa xs fun S9 xs=>aa xs fun S10 xs=>aa xs fun S11 xs=>aa xs fun S12 xs=>aa xs fun S13 xs=>aa xs fun S14 xs=>aa xs fun S15 xs=>aa xs fun S16 xs=>aa xs fun S17 xs=>aa xs fun S18 xs=>aa xs fun S19 xs=>aa xs fun S20 xs=>aa xs fun S21 xs=>aa xs fun S22 xs=>aa xs fun S23 xs=>aa xs fun S24 xs=>aa xs fun S25 xs=>aa xs fun S26 xs=>aa xs fun S27 xs=>aa xs fun S28 xs=>aa xs fun S29 xs=>aa xs fun S30 xs=>aa xs fun S31 xs=>aa xs fun S32 xs=>aa xs fun S33 xs=>aa xs fun S34 xs=>gP xs fun S35 xs=>aa xs fun U0 xs=>aa xs fun W0 xs=>aa xs fun v5 xs=>aa xs fun v19 xs=>aa xs fun v20 xs=>cp xs (some (decide (l0.length≤1048576)&&(decide (l1.length≤1000)&&(decide (l9.length≤100000)&&(v19==(l1.length:Int)&&v20==0))),[], .exit 2,(xu l0 l1 (l9++bo (⟨S0,S1,S2,l0,⟨S4,S5,S6,S7,S8,S9,S10⟩,S11,S12,⟨S13,S14,⟨S15,S16,S17,S18⟩,⟨S19,S20,S21,S22⟩⟩,⟨S23,S24,S25,S26,S27,S28,S29,S30,S31,S32,S33,S34⟩,S35,l1⟩:Config) v5 l1) Q0 Q1 Q2 Q4 Q5 Q6 Q7 Q8 Q9 Q10 Q11 Q12 Q13 Q14 Q15 Q16 Q17 Q18 Q19 Q20 Q21 Q22 Q23 Q24 Q25 Q26 Q27 Q28 Q29 Q30 Q31 Q32 Q33 Q34 Q35 S0 S1 S2 S4 S5 S6 S7 S8 S9 S10 S11 S12 S13 S14 S15 S16 S17 S18 S19 S20 S21 S22 S23 S24 S25 S26 S27 S28 S29 S30 S31 S32 S33 S34 S35 U0 W0 v5)))
 |_,_,_=>none
noncomputable def k77:Cfg (X:=els):={k76 with lp:=(65,1426,{keep:=ui,m:=10,mv:=BR.mv,ctx:=2,con:=some ((Ie).con HE)})::k76.lp}
def H6:Pat (X:=els):={tm:=[(.is (.lit (AV.yld 8))), .any,(.is (.lit (AV.ptr 6 0))),(.is (.lit (AV.ptr 4 0))), .any,(.is (.int .i64)), .any, .any, .any, .any, .any, .any, .any, .any, .any, .any, .any, .any, .any, .any, .any, .any, .any, .any, .any, .any, .any, .any, .any, .any, .any, .any, .any, .any, .any, .any, .any, .any, .any, .any],hp:=[(.vec (.int:El) false),(.vec (.aW:El) false),(.raw [(.int .i64),(.int .i64),(.int .i64),(.slW 0 1),(.int .i64),(.int .i64),(.int .i64),(.int .i64),(.int .i64),(.int .i64),(.int .i64),(.int .i64),(.int .i64),(.int .i64),(.int .i64),(.int .i64),(.int .i64),(.int .i64),(.int .i64),(.int .i64),(.int .i64),(.int .i64),(.int .i64),(.int .i64),(.int .i64),(.int .i64),(.int .i64),(.int .i64),(.int .i64),(.int .i64),(.int .i64),(.int .i64),(.int .i64),(.int .i64),(.int .i64), .bool,(.slW 1 7)]),(.raw [(.slW 9 4)]),(.raw [(.int .i64),(.int .i64),(.int .i64),(.slW 0 1),(.int .i64),(.int .i64),(.int .i64),(.int .i64),(.int .i64),(.int .i64),(.int .i64),(.int .i64),(.int .i64),(.int .i64),(.int .i64),(.int .i64),(.int .i64),(.int .i64),(.int .i64),(.int .i64),(.int .i64),(.int .i64),(.int .i64),(.int .i64),(.int .i64),(.int .i64),(.int .i64),(.int .i64),(.int .i64),(.int .i64),(.int .i64),(.int .i64),(.int .i64),(.int .i64),(.int .i64), .bool,(.slW 1 7)]),(.raw [(.int .i64)]),(.raw [(.int .i64)]), .dfr,(.rcd 1 [.any, .any, .any, .any, .any, .any, .any, .any, .any,(.is (.lit (AV.ptr 3 0))), .any, .any, .any, .any, .any, .any, .any, .any, .any, .any, .any, .any, .any, .any, .any, .any, .any, .any, .any, .any, .any, .any, .any, .any, .any, .any,(.is (.lit (AV.fn 65 [] [AV.ptr 5 0,AV.ptr 6 0,AV.ptr 4 0]))), .any, .any, .any, .any, .any, .any]),(.vec (.span:El) true)]}
def tf:List Nat:=[0,2,3,5]
def GG:List Nat:=[]
noncomputable def Bg:bA (X:=els):={keep:=tf,m:=9,mv:=[(.cell 3 0,(.span:El))]}
def DS (l0:List (Int)) (l1:List (ag)) (l9:List (Span)) (Q0 Q1 Q2 Q4 Q5 Q6 Q7 Q8 Q9 Q10 Q11 Q12 Q13 Q14 Q15 Q16 Q17 Q18 Q19 Q20 Q21 Q22 Q23 Q24 Q25 Q26 Q27 Q28 Q29 Q30 Q31 Q32 Q33 Q34:Int) (Q35:Bool) (S0 S1 S2 S4 S5 S6 S7 S8 S9 S10 S11 S12 S13 S14 S15 S16 S17 S18 S19 S20 S21 S22 S23 S24 S25 S26 S27 S28 S29 S30 S31 S32 S33 S34:Int) (S35:Bool) (U0 W0 v5:Int):St (X:=els):={tm:=[.is (AV.yld 8), .any, .is (.ptr 6 0), .is (.ptr 4 0), .any, .is (.int .i64 v5), .any, .any, .any, .any, .any, .any, .any, .any, .any, .any, .any, .any, .any, .any, .any, .any, .any, .any, .any, .any, .any, .any, .any, .any, .any, .any, .any, .any, .any, .any, .any, .any, .any, .any],hp:=[Blk.vec El.int l0 false,Blk.vec El.aW l1 false, .raw [.int .i64 Q0, .int .i64 Q1, .int .i64 Q2, .sl 0 0 1 (List.length l0) none, .int .i64 Q4, .int .i64 Q5, .int .i64 Q6, .int .i64 Q7, .int .i64 Q8, .int .i64 Q9, .int .i64 Q10, .int .i64 Q11, .int .i64 Q12, .int .i64 Q13, .int .i64 Q14, .int .i64 Q15, .int .i64 Q16, .int .i64 Q17, .int .i64 Q18, .int .i64 Q19, .int .i64 Q20, .int .i64 Q21, .int .i64 Q22, .int .i64 Q23, .int .i64 Q24, .int .i64 Q25, .int .i64 Q26, .int .i64 Q27, .int .i64 Q28, .int .i64 Q29, .int .i64 Q30, .int .i64 Q31, .int .i64 Q32, .int .i64 Q33, .int .i64 Q34, .bool Q35, .sl 1 0 7 (List.length l1) none], .raw [.sl 9 0 4 (List.length l9) none], .raw [.int .i64 S0, .int .i64 S1, .int .i64 S2, .sl 0 0 1 (List.length l0) none, .int .i64 S4, .int .i64 S5, .int .i64 S6, .int .i64 S7, .int .i64 S8, .int .i64 S9, .int .i64 S10, .int .i64 S11, .int .i64 S12, .int .i64 S13, .int .i64 S14, .int .i64 S15, .int .i64 S16, .int .i64 S17, .int .i64 S18, .int .i64 S19, .int .i64 S20, .int .i64 S21, .int .i64 S22, .int .i64 S23, .int .i64 S24, .int .i64 S25, .int .i64 S26, .int .i64 S27, .int .i64 S28, .int .i64 S29, .int .i64 S30, .int .i64 S31, .int .i64 S32, .int .i64 S33, .int .i64 S34, .bool S35, .sl 1 0 7 (List.length l1) none], .raw [.int .i64 U0], .raw [.int .i64 W0],Blk.dfr,Blk.rcd RS.ready 1 [.any, .any, .any, .any, .any, .any, .any, .any, .any, .is (.ptr 3 0), .any, .any, .any, .any, .any, .any, .any, .any, .any, .any, .any, .any, .any, .any, .any, .any, .any, .any, .any, .any, .any, .any, .any, .any, .any, .any, .is (AV.fn 65 [] [.ptr 5 0, .ptr 6 0, .ptr 4 0]), .any, .any, .any, .any, .any, .any],Blk.vec El.span l9 true]}
def yN (l0:List (Int)) (l1:List (ag)) (l9:List (Span)) (Q0 Q1 Q2 Q4 Q5 Q6 Q7 Q8 Q9 Q10 Q11 Q12 Q13 Q14 Q15 Q16 Q17 Q18 Q19 Q20 Q21 Q22 Q23 Q24 Q25 Q26 Q27 Q28 Q29 Q30 Q31 Q32 Q33 Q34:Int) (Q35:Bool) (S0 S1 S2 S4 S5 S6 S7 S8 S9 S10 S11 S12 S13 S14 S15 S16 S17 S18 S19 S20 S21 S22 S23 S24 S25 S26 S27 S28 S29 S30 S31 S32 S33 S34:Int) (S35:Bool) (U0 W0:Int):St (X:=els):=({tm:=[.any, .any, .any, .any, .any, .any, .any, .any, .any, .any, .any, .any, .any, .any, .any, .any, .any, .any, .any, .any, .any, .any, .any, .any, .any, .any, .any, .any, .any, .any, .any, .any, .any, .any, .any, .any, .any, .any, .any, .any],hp:=[Blk.vec El.int l0 false,Blk.vec El.aW l1 false, .raw [.int .i64 Q0, .int .i64 Q1, .int .i64 Q2, .sl 0 0 1 (List.length l0) none, .int .i64 Q4, .int .i64 Q5, .int .i64 Q6, .int .i64 Q7, .int .i64 Q8, .int .i64 Q9, .int .i64 Q10, .int .i64 Q11, .int .i64 Q12, .int .i64 Q13, .int .i64 Q14, .int .i64 Q15, .int .i64 Q16, .int .i64 Q17, .int .i64 Q18, .int .i64 Q19, .int .i64 Q20, .int .i64 Q21, .int .i64 Q22, .int .i64 Q23, .int .i64 Q24, .int .i64 Q25, .int .i64 Q26, .int .i64 Q27, .int .i64 Q28, .int .i64 Q29, .int .i64 Q30, .int .i64 Q31, .int .i64 Q32, .int .i64 Q33, .int .i64 Q34, .bool Q35, .sl 1 0 7 (List.length l1) none], .raw [.sl 9 0 4 (List.length l9) none], .raw [.int .i64 S0, .int .i64 S1, .int .i64 S2, .sl 0 0 1 (List.length l0) none, .int .i64 S4, .int .i64 S5, .int .i64 S6, .int .i64 S7, .int .i64 S8, .int .i64 S9, .int .i64 S10, .int .i64 S11, .int .i64 S12, .int .i64 S13, .int .i64 S14, .int .i64 S15, .int .i64 S16, .int .i64 S17, .int .i64 S18, .int .i64 S19, .int .i64 S20, .int .i64 S21, .int .i64 S22, .int .i64 S23, .int .i64 S24, .int .i64 S25, .int .i64 S26, .int .i64 S27, .int .i64 S28, .int .i64 S29, .int .i64 S30, .int .i64 S31, .int .i64 S32, .int .i64 S33, .int .i64 S34, .bool S35, .sl 1 0 7 (List.length l1) none], .raw [.int .i64 U0], .raw [.int .i64 W0],Blk.dfr,Blk.rcd RS.ready 1 [.any, .any, .any, .any, .any, .any, .any, .any, .any, .is (.ptr 3 0), .any, .any, .any, .any, .any, .any, .any, .any, .any, .any, .any, .any, .any, .any, .any, .any, .any, .any, .any, .any, .any, .any, .any, .any, .any, .any, .is (AV.fn 65 [] [.ptr 5 0, .ptr 6 0, .ptr 4 0]), .any, .any, .any, .any, .any, .any],Blk.vec El.span l9 true]}:St (X:=els))
noncomputable def Kh:Code:=((aM [false,true,true,false] (Tryz.f65.body.getD .skip)).getD .skip|>fun c=>match c with| .loop c=>c|c=>c)
noncomputable def FX (F d n:Nat) (s:St (X:=els)):Option (Ex×St (X:=els)):=iter none (fun s' K'=>exec k77 none (bU k77 none F d) F 65 44 Kh s' (aU none Bg K')) n s (fun e s=>some (e,b8 GG s))
noncomputable def F1:List LV→List (Blk (X:=els))→List SV→cb
 | [⟨El.int,l0⟩,⟨El.aW,l1⟩,⟨El.span,l9⟩],[],xs=>aa xs fun Q0 xs=>aa xs fun Q1 xs=>aa xs fun Q2 xs=>aa xs fun Q4 xs=>aa xs fun Q5 xs=>aa xs fun Q6 xs=>aa xs fun Q7 xs=>aa xs fun Q8 xs=>aa xs fun Q9 xs=>aa xs fun Q10 xs=>aa xs fun Q11 xs=>aa xs fun Q12 xs=>aa xs fun Q13 xs=>aa xs fun Q14 xs=>aa xs fun Q15 xs=>aa xs fun Q16 xs=>aa xs fun Q17 xs=>aa xs fun Q18 xs=>aa xs fun Q19 xs=>aa xs fun Q20 xs=>aa xs fun Q21 xs=>aa xs fun Q22 xs=>aa xs fun Q23 xs=>aa xs fun Q24 xs=>aa xs fun Q25 xs=>aa xs fun Q26 xs=>aa xs fun Q27 xs=>aa xs fun Q28 xs=>aa xs fun Q29 xs=>aa xs fun Q30 xs=>aa xs fun Q31 xs=>aa xs fun Q32 xs=>aa xs fun Q33 xs=>aa xs fun Q34 xs=>gP xs fun Q35 xs=>aa xs fun S0 xs=>aa xs fun S1 xs=>aa xs fun S2 xs=>aa xs fun S4 xs=>aa xs fun S5 xs=>aa xs fun S6 xs=>aa xs fun S7 xs=>aa xs fun S8 xs=>aa xs fun S9 xs=>aa xs fun S10 xs=>aa xs fun S11 xs=>aa xs fun S12 xs=>aa xs fun S13 xs=>aa xs fun S14 xs=>aa xs fun S15 xs=>aa xs fun S16 xs=>aa xs fun S17 xs=>aa xs fun S18 xs=>aa xs fun S19 xs=>aa xs fun S20 xs=>aa xs fun S21 xs=>aa xs fun S22 xs=>aa xs fun S23 xs=>aa xs fun S24 xs=>aa xs fun S25 xs=>aa xs fun S26 xs=>aa xs fun S27 xs=>aa xs fun S28 xs=>aa xs fun S29 xs=>aa xs fun S30 xs=>aa xs fun S31 xs=>aa xs fun S32 xs=>aa xs fun S33 xs=>aa xs fun S34 xs=>gP xs fun S35 xs=>aa xs fun U0 xs=>aa xs fun W0 xs=>aa xs fun v5 xs=>cp xs (some (decide (l0.length≤1048576)&&(decide (l1.length≤1000)&&(l9.length==0&&eu v5 W0)),[], .exit 0,(yN l0 l1 (dH (⟨S0,S1,S2,l0,⟨S4,S5,S6,S7,S8,S9,S10⟩,S11,S12,⟨S13,S14,⟨S15,S16,S17,S18⟩,⟨S19,S20,S21,S22⟩⟩,⟨S23,S24,S25,S26,S27,S28,S29,S30,S31,S32,S33,S34⟩,S35,l1⟩:Config) (W0-v5+1).toNat v5) Q0 Q1 Q2 Q4 Q5 Q6 Q7 Q8 Q9 Q10 Q11 Q12 Q13 Q14 Q15 Q16 Q17 Q18 Q19 Q20 Q21 Q22 Q23 Q24 Q25 Q26 Q27 Q28 Q29 Q30 Q31 Q32 Q33 Q34 Q35 S0 S1 S2 S4 S5 S6 S7 S8 S9 S10 S11 S12 S13 S14 S15 S16 S17 S18 S19 S20 S21 S22 S23 S24 S25 S26 S27 S28 S29 S30 S31 S32 S33 S34 S35 U0 W0)))
 |_,_,_=>none
noncomputable def k78:Cfg (X:=els):={k77 with lp:=(65,22,{keep:=tf,m:=9,mv:=Bg.mv,ctx:=2,con:=some ((H6).con F1)})::k77.lp}
noncomputable def nC:=(Sig.cons true bF (Sig.cons false (Dat.ah (Cel.int .i64)) (Sig.cons false (Dat.ah (Cel.int .i64)) Sig.nil)))
noncomputable def nz:=(Out.tup (uu.cons (Out.one (Own.sl (.span:El))) (uu.last (Out.one (Own.ah (Cel.int .i64))))))
noncomputable def k79:Cfg (X:=els):={k78 with H:=(13,(nC).fU nz (fun x=>(bh x.1 x.2.1 x.2.2.1)) (fun x=>tC x.1 x.2.1 x.2.2.1))::k78.H}
noncomputable def nF:=(Sig.cons true bF (Sig.cons false (Dat.ah (Cel.int .i64)) Sig.nil))
noncomputable def nL:=(Out.tup (uu.cons (Out.one (Own.sl (.span:El))) (uu.last (Out.one (Own.ah (Cel.int .i64))))))
noncomputable def k80:Cfg (X:=els):={k79 with H:=(28,(nF).fU nL (fun x=>(bP x.1 x.2.1)) (fun x=>ln x.1 x.2.1))::k79.H}
noncomputable def rl:=(Sig.cons true bF (Sig.cons false (Dat.ah (Cel.int .i64)) Sig.nil))
noncomputable def sV:=(Out.tup (uu.cons (Out.one (Own.sl (.span:El))) (uu.last (Out.one (Own.ah (Cel.int .i64))))))
noncomputable def k81:Cfg (X:=els):={k80 with H:=(11,(rl).fU sV (fun x=>(aY x.1 x.2.1)) (fun x=>tE x.1 x.2.1))::k80.H}
noncomputable def lU:=(Sig.cons true bF (Sig.cons false (Dat.ah (Cel.int .i64)) Sig.nil))
noncomputable def sE:=Res.bool
noncomputable def k82:Cfg (X:=els):={k81 with E:=(40,(lU).con sE (fun x=>(fX x.1 x.2.1)) (fun x=>iP x.1 x.2.1))::k81.E}
noncomputable def ph:=(Sig.cons true bF (Sig.cons false (Dat.ah (Cel.int .i64)) Sig.nil))
noncomputable def ya:=(Res.G4 (Res.int .i64) (Res.int .i64) (Res.int .i64))
noncomputable def k83:Cfg (X:=els):={k82 with E:=(19,(ph).con ya (fun x=>(Rs x.1 x.2.1)) (fun x=>tE x.1 x.2.1))::k82.E}
noncomputable def gC:=(Sig.cons true (Dat.ah dz) Sig.nil)
noncomputable def ga:=Res.bool
noncomputable def k84:Cfg (X:=els):={k83 with E:=(69,(gC).con ga (fun x=>(kC x.1)) (fun _=>true))::k83.E}
noncomputable def iQ:=(Sig.cons false (Dat.ah (Cel.int .i64)) Sig.nil)
noncomputable def iC:=Res.bool
noncomputable def k85:Cfg (X:=els):={k84 with E:=(67,(iQ).con iC (fun x=>(mc x.1)) (fun _=>true))::k84.E}
noncomputable def iB:=(Sig.cons true (Dat.ah EX) Sig.nil)
noncomputable def iw:=Res.bool
noncomputable def k86:Cfg (X:=els):={k85 with E:=(68,(iB).con iw (fun x=>(gS x.1)) (fun _=>true))::k85.E}
noncomputable def fE:=(Sig.cons true (Dat.ah dz) Sig.nil)
noncomputable def fI:=Res.bool
noncomputable def k87:Cfg (X:=els):={k86 with E:=(35,(fE).con fI (fun x=>(bl x.1)) (fun _=>true))::k86.E}
noncomputable def gn:=(Sig.cons true (Dat.ah ka) Sig.nil)
noncomputable def gu:=(Res.int .i64)
noncomputable def k88:Cfg (X:=els):={k87 with E:=(33,(gn).con gu (fun x=>(ao x.1)) (fun _=>true))::k87.E}
noncomputable def gh:=(Sig.cons true (Dat.ah Jj) Sig.nil)
noncomputable def gg:=(Res.int .i64)
noncomputable def k89:Cfg (X:=els):={k88 with E:=(34,(gh).con gg (fun x=>(ax x.1)) (fun _=>true))::k88.E}
noncomputable def gy:=(Sig.cons true bF Sig.nil)
noncomputable def gI:=Res.bool
noncomputable def k90:Cfg (X:=els):={k89 with E:=(32,(gy).con gI (fun x=>(w6 x.1)) (fun _=>true))::k89.E}
def yT:Pat (X:=els):={tm:=[.any,(.is (.lit (AV.ptr 2 0))), .any,(.is (.int .i64)), .any, .any, .any, .any, .any, .any, .any, .any, .any, .any, .any, .any, .any, .any, .any, .any, .any, .any, .any, .any, .any, .any, .any, .any, .any, .any, .any, .any, .any, .any, .any, .any, .any, .any, .any, .any, .any, .any, .any, .any, .any, .any, .any, .any, .any],hp:=[(.vec (.int:El) false),(.vec (.aW:El) false),(.raw [(.int .i64),(.int .i64),(.int .i64),(.slW 0 1),(.int .i64),(.int .i64),(.int .i64),(.int .i64),(.int .i64),(.int .i64),(.int .i64),(.int .i64),(.int .i64),(.int .i64),(.int .i64),(.int .i64),(.int .i64),(.int .i64),(.int .i64),(.int .i64),(.int .i64),(.int .i64),(.int .i64),(.int .i64),(.int .i64),(.int .i64),(.int .i64),(.int .i64),(.int .i64),(.int .i64),(.int .i64),(.int .i64),(.int .i64),(.int .i64),(.int .i64), .bool,(.slW 1 7)])]}
def nr:List Nat:=[1,3]
def zK:List Nat:=[1,2]
noncomputable def tX:bA (X:=els):={keep:=nr,m:=3,mv:=[]}
def ta (l0:List (Int)) (l1:List (ag)) (Q0 Q1 Q2 Q4 Q5 Q6 Q7 Q8 Q9 Q10 Q11 Q12 Q13 Q14 Q15 Q16 Q17 Q18 Q19 Q20 Q21 Q22 Q23 Q24 Q25 Q26 Q27 Q28 Q29 Q30 Q31 Q32 Q33 Q34:Int) (Q35:Bool) (v3:Int):St (X:=els):={tm:=[.any, .is (.ptr 2 0), .any, .is (.int .i64 v3), .any, .any, .any, .any, .any, .any, .any, .any, .any, .any, .any, .any, .any, .any, .any, .any, .any, .any, .any, .any, .any, .any, .any, .any, .any, .any, .any, .any, .any, .any, .any, .any, .any, .any, .any, .any, .any, .any, .any, .any, .any, .any, .any, .any, .any],hp:=[Blk.vec El.int l0 false,Blk.vec El.aW l1 false, .raw [.int .i64 Q0, .int .i64 Q1, .int .i64 Q2, .sl 0 0 1 (List.length l0) none, .int .i64 Q4, .int .i64 Q5, .int .i64 Q6, .int .i64 Q7, .int .i64 Q8, .int .i64 Q9, .int .i64 Q10, .int .i64 Q11, .int .i64 Q12, .int .i64 Q13, .int .i64 Q14, .int .i64 Q15, .int .i64 Q16, .int .i64 Q17, .int .i64 Q18, .int .i64 Q19, .int .i64 Q20, .int .i64 Q21, .int .i64 Q22, .int .i64 Q23, .int .i64 Q24, .int .i64 Q25, .int .i64 Q26, .int .i64 Q27, .int .i64 Q28, .int .i64 Q29, .int .i64 Q30, .int .i64 Q31, .int .i64 Q32, .int .i64 Q33, .int .i64 Q34, .bool Q35, .sl 1 0 7 (List.length l1) none]]}
def pL (l0:List (Int)) (l1:List (ag)) (Q0 Q1 Q2 Q4 Q5 Q6 Q7 Q8 Q9 Q10 Q11 Q12 Q13 Q14 Q15 Q16 Q17 Q18 Q19 Q20 Q21 Q22 Q23 Q24 Q25 Q26 Q27 Q28 Q29 Q30 Q31 Q32 Q33 Q34:Int) (Q35:Bool):St (X:=els):=({tm:=[.any, .is (.ptr 2 0), .is (.bool false), .any, .any, .any, .any, .any, .any, .any, .any, .any, .any, .any, .any, .any, .any, .any, .any, .any, .any, .any, .any, .any, .any, .any, .any, .any, .any, .any, .any, .any, .any, .any, .any, .any, .any, .any, .any, .any, .any, .any, .any, .any, .any, .any, .any, .any, .any],hp:=[Blk.vec El.int l0 false,Blk.vec El.aW l1 false, .raw [.int .i64 Q0, .int .i64 Q1, .int .i64 Q2, .sl 0 0 1 (List.length l0) none, .int .i64 Q4, .int .i64 Q5, .int .i64 Q6, .int .i64 Q7, .int .i64 Q8, .int .i64 Q9, .int .i64 Q10, .int .i64 Q11, .int .i64 Q12, .int .i64 Q13, .int .i64 Q14, .int .i64 Q15, .int .i64 Q16, .int .i64 Q17, .int .i64 Q18, .int .i64 Q19, .int .i64 Q20, .int .i64 Q21, .int .i64 Q22, .int .i64 Q23, .int .i64 Q24, .int .i64 Q25, .int .i64 Q26, .int .i64 Q27, .int .i64 Q28, .int .i64 Q29, .int .i64 Q30, .int .i64 Q31, .int .i64 Q32, .int .i64 Q33, .int .i64 Q34, .bool Q35, .sl 1 0 7 (List.length l1) none]]}:St (X:=els))
def qj (l0:List (Int)) (l1:List (ag)) (Q0 Q1 Q2 Q4 Q5 Q6 Q7 Q8 Q9 Q10 Q11 Q12 Q13 Q14 Q15 Q16 Q17 Q18 Q19 Q20 Q21 Q22 Q23 Q24 Q25 Q26 Q27 Q28 Q29 Q30 Q31 Q32 Q33 Q34:Int) (Q35:Bool):St (X:=els):=({tm:=[.any, .is (.ptr 2 0), .any, .any, .any, .any, .any, .any, .any, .any, .any, .any, .any, .any, .any, .any, .any, .any, .any, .any, .any, .any, .any, .any, .any, .any, .any, .any, .any, .any, .any, .any, .any, .any, .any, .any, .any, .any, .any, .any, .any, .any, .any, .any, .any, .any, .any, .any, .any],hp:=[Blk.vec El.int l0 false,Blk.vec El.aW l1 false, .raw [.int .i64 Q0, .int .i64 Q1, .int .i64 Q2, .sl 0 0 1 (List.length l0) none, .int .i64 Q4, .int .i64 Q5, .int .i64 Q6, .int .i64 Q7, .int .i64 Q8, .int .i64 Q9, .int .i64 Q10, .int .i64 Q11, .int .i64 Q12, .int .i64 Q13, .int .i64 Q14, .int .i64 Q15, .int .i64 Q16, .int .i64 Q17, .int .i64 Q18, .int .i64 Q19, .int .i64 Q20, .int .i64 Q21, .int .i64 Q22, .int .i64 Q23, .int .i64 Q24, .int .i64 Q25, .int .i64 Q26, .int .i64 Q27, .int .i64 Q28, .int .i64 Q29, .int .i64 Q30, .int .i64 Q31, .int .i64 Q32, .int .i64 Q33, .int .i64 Q34, .bool Q35, .sl 1 0 7 (List.length l1) none]]}:St (X:=els))
noncomputable def DO:Code:=((aM [false,true,false,true] (Tryz.f31.body.getD .skip)).getD .skip|>fun c=>match c with| .loop c=>c|c=>c)
noncomputable def yn (F d n:Nat) (s:St (X:=els)):Option (Ex×St (X:=els)):=iter none (fun s' K'=>exec k90 none (bU k90 none F d) F 31 52 DO s' (aU none tX K')) n s (fun e s=>some (e,b8 zK s))
noncomputable def y7:List LV→List (Blk (X:=els))→List SV→cb
 | [⟨El.int,l0⟩,⟨El.aW,l1⟩],[],xs=>aa xs fun Q0 xs=>aa xs fun Q1 xs=>aa xs fun Q2 xs=>aa xs fun Q4 xs=>aa xs fun Q5 xs=>aa xs fun Q6 xs=>aa xs fun Q7 xs=>aa xs fun Q8 xs=>aa xs fun Q9 xs=>aa xs fun Q10 xs=>aa xs fun Q11 xs=>aa xs fun Q12 xs=>aa xs fun Q13 xs=>aa xs fun Q14 xs=>aa xs fun Q15 xs=>aa xs fun Q16 xs=>aa xs fun Q17 xs=>aa xs fun Q18 xs=>aa xs fun Q19 xs=>aa xs fun Q20 xs=>aa xs fun Q21 xs=>aa xs fun Q22 xs=>aa xs fun Q23 xs=>aa xs fun Q24 xs=>aa xs fun Q25 xs=>aa xs fun Q26 xs=>aa xs fun Q27 xs=>aa xs fun Q28 xs=>aa xs fun Q29 xs=>aa xs fun Q30 xs=>aa xs fun Q31 xs=>aa xs fun Q32 xs=>aa xs fun Q33 xs=>aa xs fun Q34 xs=>gP xs fun Q35 xs=>aa xs fun v3 xs=>cp xs (some (decide (l0.length≤1048576)&&v3==0,[(Ba Q0 none l0, .exit 0,(qj l0 l1 Q0 Q1 Q2 Q4 Q5 Q6 Q7 Q8 Q9 Q10 Q11 Q12 Q13 Q14 Q15 Q16 Q17 Q18 Q19 Q20 Q21 Q22 Q23 Q24 Q25 Q26 Q27 Q28 Q29 Q30 Q31 Q32 Q33 Q34 Q35))], .ret,(pL l0 l1 Q0 Q1 Q2 Q4 Q5 Q6 Q7 Q8 Q9 Q10 Q11 Q12 Q13 Q14 Q15 Q16 Q17 Q18 Q19 Q20 Q21 Q22 Q23 Q24 Q25 Q26 Q27 Q28 Q29 Q30 Q31 Q32 Q33 Q34 Q35)))
 |_,_,_=>none
noncomputable def k91:Cfg (X:=els):={k90 with lp:=(31,26,{keep:=nr,m:=3,mv:=tX.mv,ctx:=0,con:=some ((yT).con y7)})::k90.lp}
noncomputable def gm:=(Sig.cons true bF Sig.nil)
noncomputable def gz:=Res.bool
noncomputable def k92:Cfg (X:=els):={k91 with E:=(31,(gm).con gz (fun x=>(gN x.1)) (fun x=>aX x.1))::k91.E}
def Bp:Pat (X:=els):={tm:=[.any,(.is (.lit (AV.ptr 2 0))), .any, .any, .any, .any, .any,(.is (.int .i64)), .any, .any, .any, .any, .any, .any, .any, .any, .any, .any, .any, .any, .any, .any, .any, .any, .any, .any, .any, .any, .any, .any, .any, .any, .any, .any, .any, .any, .any, .any, .any, .any, .any, .any, .any, .any, .any, .any, .any, .any, .any, .any, .any, .any, .any, .any, .any, .any, .any, .any, .any, .any, .any, .any, .any, .any, .any, .any, .any, .any, .any, .any, .any, .any, .any, .any, .any, .any, .any, .any],hp:=[(.vec (.int:El) false),(.vec (.aW:El) false),(.raw [(.int .i64),(.int .i64),(.int .i64),(.slW 0 1),(.int .i64),(.int .i64),(.int .i64),(.int .i64),(.int .i64),(.int .i64),(.int .i64),(.int .i64),(.int .i64),(.int .i64),(.int .i64),(.int .i64),(.int .i64),(.int .i64),(.int .i64),(.int .i64),(.int .i64),(.int .i64),(.int .i64),(.int .i64),(.int .i64),(.int .i64),(.int .i64),(.int .i64),(.int .i64),(.int .i64),(.int .i64),(.int .i64),(.int .i64),(.int .i64),(.int .i64), .bool,(.slW 1 7)])]}
def oM:List Nat:=[1,7]
def C9:List Nat:=[2]
noncomputable def xQ:bA (X:=els):={keep:=oM,m:=3,mv:=[]}
def yL (l0:List (Int)) (l1:List (ag)) (Q0 Q1 Q2 Q4 Q5 Q6 Q7 Q8 Q9 Q10 Q11 Q12 Q13 Q14 Q15 Q16 Q17 Q18 Q19 Q20 Q21 Q22 Q23 Q24 Q25 Q26 Q27 Q28 Q29 Q30 Q31 Q32 Q33 Q34:Int) (Q35:Bool) (v7:Int):St (X:=els):={tm:=[.any, .is (.ptr 2 0), .any, .any, .any, .any, .any, .is (.int .i64 v7), .any, .any, .any, .any, .any, .any, .any, .any, .any, .any, .any, .any, .any, .any, .any, .any, .any, .any, .any, .any, .any, .any, .any, .any, .any, .any, .any, .any, .any, .any, .any, .any, .any, .any, .any, .any, .any, .any, .any, .any, .any, .any, .any, .any, .any, .any, .any, .any, .any, .any, .any, .any, .any, .any, .any, .any, .any, .any, .any, .any, .any, .any, .any, .any, .any, .any, .any, .any, .any, .any],hp:=[Blk.vec El.int l0 false,Blk.vec El.aW l1 false, .raw [.int .i64 Q0, .int .i64 Q1, .int .i64 Q2, .sl 0 0 1 (List.length l0) none, .int .i64 Q4, .int .i64 Q5, .int .i64 Q6, .int .i64 Q7, .int .i64 Q8, .int .i64 Q9, .int .i64 Q10, .int .i64 Q11, .int .i64 Q12, .int .i64 Q13, .int .i64 Q14, .int .i64 Q15, .int .i64 Q16, .int .i64 Q17, .int .i64 Q18, .int .i64 Q19, .int .i64 Q20, .int .i64 Q21, .int .i64 Q22, .int .i64 Q23, .int .i64 Q24, .int .i64 Q25, .int .i64 Q26, .int .i64 Q27, .int .i64 Q28, .int .i64 Q29, .int .i64 Q30, .int .i64 Q31, .int .i64 Q32, .int .i64 Q33, .int .i64 Q34, .bool Q35, .sl 1 0 7 (List.length l1) none]]}
def ue (l0:List (Int)) (l1:List (ag)) (Q0 Q1 Q2 Q4 Q5 Q6 Q7 Q8 Q9 Q10 Q11 Q12 Q13 Q14 Q15 Q16 Q17 Q18 Q19 Q20 Q21 Q22 Q23 Q24 Q25 Q26 Q27 Q28 Q29 Q30 Q31 Q32 Q33 Q34:Int) (Q35:Bool):St (X:=els):=({tm:=[.any, .any, .is (.int .i64 104), .any, .any, .any, .any, .any, .any, .any, .any, .any, .any, .any, .any, .any, .any, .any, .any, .any, .any, .any, .any, .any, .any, .any, .any, .any, .any, .any, .any, .any, .any, .any, .any, .any, .any, .any, .any, .any, .any, .any, .any, .any, .any, .any, .any, .any, .any, .any, .any, .any, .any, .any, .any, .any, .any, .any, .any, .any, .any, .any, .any, .any, .any, .any, .any, .any, .any, .any, .any, .any, .any, .any, .any, .any, .any, .any],hp:=[Blk.vec El.int l0 false,Blk.vec El.aW l1 false, .raw [.int .i64 Q0, .int .i64 Q1, .int .i64 Q2, .sl 0 0 1 (List.length l0) none, .int .i64 Q4, .int .i64 Q5, .int .i64 Q6, .int .i64 Q7, .int .i64 Q8, .int .i64 Q9, .int .i64 Q10, .int .i64 Q11, .int .i64 Q12, .int .i64 Q13, .int .i64 Q14, .int .i64 Q15, .int .i64 Q16, .int .i64 Q17, .int .i64 Q18, .int .i64 Q19, .int .i64 Q20, .int .i64 Q21, .int .i64 Q22, .int .i64 Q23, .int .i64 Q24, .int .i64 Q25, .int .i64 Q26, .int .i64 Q27, .int .i64 Q28, .int .i64 Q29, .int .i64 Q30, .int .i64 Q31, .int .i64 Q32, .int .i64 Q33, .int .i64 Q34, .bool Q35, .sl 1 0 7 (List.length l1) none]]}:St (X:=els))
def tY (l0:List (Int)) (l1:List (ag)) (Q0 Q1 Q2 Q4 Q5 Q6 Q7 Q8 Q9 Q10 Q11 Q12 Q13 Q14 Q15 Q16 Q17 Q18 Q19 Q20 Q21 Q22 Q23 Q24 Q25 Q26 Q27 Q28 Q29 Q30 Q31 Q32 Q33 Q34:Int) (Q35:Bool):St (X:=els):=({tm:=[.any, .any, .any, .any, .any, .any, .any, .any, .any, .any, .any, .any, .any, .any, .any, .any, .any, .any, .any, .any, .any, .any, .any, .any, .any, .any, .any, .any, .any, .any, .any, .any, .any, .any, .any, .any, .any, .any, .any, .any, .any, .any, .any, .any, .any, .any, .any, .any, .any, .any, .any, .any, .any, .any, .any, .any, .any, .any, .any, .any, .any, .any, .any, .any, .any, .any, .any, .any, .any, .any, .any, .any, .any, .any, .any, .any, .any, .any],hp:=[Blk.vec El.int l0 false,Blk.vec El.aW l1 false, .raw [.int .i64 Q0, .int .i64 Q1, .int .i64 Q2, .sl 0 0 1 (List.length l0) none, .int .i64 Q4, .int .i64 Q5, .int .i64 Q6, .int .i64 Q7, .int .i64 Q8, .int .i64 Q9, .int .i64 Q10, .int .i64 Q11, .int .i64 Q12, .int .i64 Q13, .int .i64 Q14, .int .i64 Q15, .int .i64 Q16, .int .i64 Q17, .int .i64 Q18, .int .i64 Q19, .int .i64 Q20, .int .i64 Q21, .int .i64 Q22, .int .i64 Q23, .int .i64 Q24, .int .i64 Q25, .int .i64 Q26, .int .i64 Q27, .int .i64 Q28, .int .i64 Q29, .int .i64 Q30, .int .i64 Q31, .int .i64 Q32, .int .i64 Q33, .int .i64 Q34, .bool Q35, .sl 1 0 7 (List.length l1) none]]}:St (X:=els))
noncomputable def Gt:Code:=((aM [false,true,false,true,true,true,true,true,true,true,true,true,true,true] (Tryz.f14.body.getD .skip)).getD .skip|>fun c=>match c with| .loop c=>c|c=>c)
noncomputable def BB (F d n:Nat) (s:St (X:=els)):Option (Ex×St (X:=els)):=iter none (fun s' K'=>exec k92 none (bU k92 none F d) F 14 65524 Gt s' (aU none xQ K')) n s (fun e s=>some (e,b8 C9 s))
noncomputable def Ca:List LV→List (Blk (X:=els))→List SV→cb
 | [⟨El.int,l0⟩,⟨El.aW,l1⟩],[],xs=>aa xs fun Q0 xs=>aa xs fun Q1 xs=>aa xs fun Q2 xs=>aa xs fun Q4 xs=>aa xs fun Q5 xs=>aa xs fun Q6 xs=>aa xs fun Q7 xs=>aa xs fun Q8 xs=>aa xs fun Q9 xs=>aa xs fun Q10 xs=>aa xs fun Q11 xs=>aa xs fun Q12 xs=>aa xs fun Q13 xs=>aa xs fun Q14 xs=>aa xs fun Q15 xs=>aa xs fun Q16 xs=>aa xs fun Q17 xs=>aa xs fun Q18 xs=>aa xs fun Q19 xs=>aa xs fun Q20 xs=>aa xs fun Q21 xs=>aa xs fun Q22 xs=>aa xs fun Q23 xs=>aa xs fun Q24 xs=>aa xs fun Q25 xs=>aa xs fun Q26 xs=>aa xs fun Q27 xs=>aa xs fun Q28 xs=>aa xs fun Q29 xs=>aa xs fun Q30 xs=>aa xs fun Q31 xs=>aa xs fun Q32 xs=>aa xs fun Q33 xs=>aa xs fun Q34 xs=>gP xs fun Q35 xs=>aa xs fun v7 xs=>cp xs (some (decide (l1.length≤1048576)&&v7==0,[(l1.all bl, .exit 0,(tY l0 l1 Q0 Q1 Q2 Q4 Q5 Q6 Q7 Q8 Q9 Q10 Q11 Q12 Q13 Q14 Q15 Q16 Q17 Q18 Q19 Q20 Q21 Q22 Q23 Q24 Q25 Q26 Q27 Q28 Q29 Q30 Q31 Q32 Q33 Q34 Q35))], .ret,(ue l0 l1 Q0 Q1 Q2 Q4 Q5 Q6 Q7 Q8 Q9 Q10 Q11 Q12 Q13 Q14 Q15 Q16 Q17 Q18 Q19 Q20 Q21 Q22 Q23 Q24 Q25 Q26 Q27 Q28 Q29 Q30 Q31 Q32 Q33 Q34 Q35)))
 |_,_,_=>none
noncomputable def k93:Cfg (X:=els):={k92 with lp:=(14,32762,{keep:=oM,m:=3,mv:=xQ.mv,ctx:=0,con:=some ((Bp).con Ca)})::k92.lp}
noncomputable def gF:=(Sig.cons true bF Sig.nil)
noncomputable def gw:=(Res.int .i64)
noncomputable def k94:Cfg (X:=els):={k93 with E:=(14,(gF).con gw (fun x=>(gR x.1)) (fun x=>aX x.1))::k93.E}
noncomputable def l5:=Sig.nil
noncomputable def lG:=Res.bool
noncomputable def k95:Cfg (X:=els):={k94 with E:=(10,(l5).con lG (fun _=>true) (fun _=>true))::k94.E}
noncomputable def jJ:=(Sig.cons false (Dat.ah (Cel.int .i64)) (Sig.cons false (Dat.ah (Cel.int .i64)) Sig.nil))
noncomputable def oD:=(Res.int .i64)
noncomputable def k96:Cfg (X:=els):={k95 with E:=(45,(jJ).con oD (fun x=>(qC x.1 x.2.1)) (fun x=>bD x.1 x.2.1))::k95.E}
noncomputable def ir:=(Sig.cons false (Dat.ah (Cel.int .i64)) Sig.nil)
noncomputable def iz:=Res.bool
noncomputable def k97:Cfg (X:=els):={k96 with E:=(105,(ir).con iz (fun x=>(dU x.1)) (fun _=>true))::k96.E}
noncomputable def iA:=(Sig.cons false (Dat.ah (Cel.int .i64)) Sig.nil)
noncomputable def iL:=(Res.int .i64)
noncomputable def k98:Cfg (X:=els):={k97 with E:=(81,(iA).con iL (fun x=>(eR x.1)) (fun _=>true))::k97.E}
noncomputable def hJ:=(Sig.cons false (Dat.ah (Cel.int .i64)) (Sig.cons false (Dat.ah (Cel.int .i64)) Sig.nil))
noncomputable def hO:=(Res.int .i64)
noncomputable def k99:Cfg (X:=els):={k98 with E:=(82,(hJ).con hO (fun x=>(ai x.1 x.2.1)) (fun _=>true))::k98.E}
def Mk:Pat (X:=els):={tm:=[(.is (.int .i64)), .any,(.is (.lit (AV.ptr 0 0))),(.is (.int .i64)), .any, .any, .any, .any, .any, .any, .any, .any, .any, .any, .any, .any, .any, .any, .any, .any, .any, .any, .any, .any, .any, .any, .any, .any, .any, .any, .any],hp:=[(.raw [(.int .i64),(.int .i64),(.int .i64)])]}
def xD:List Nat:=[0,2,3]
def Lw:List Nat:=[0,2,3]
noncomputable def H5:bA (X:=els):={keep:=xD,m:=1,mv:=[]}
def Ix (O0 O1 O2 v0 v3:Int):St (X:=els):={tm:=[.is (.int .i64 v0), .any, .is (.ptr 0 0), .is (.int .i64 v3), .any, .any, .any, .any, .any, .any, .any, .any, .any, .any, .any, .any, .any, .any, .any, .any, .any, .any, .any, .any, .any, .any, .any, .any, .any, .any, .any],hp:=[.raw [.int .i64 O0, .int .i64 O1, .int .i64 O2]]}
def BQ (O0 O1 O2 v0 v3:Int):St (X:=els):=({tm:=[.is (.int .i64 v0), .any, .is (.ptr 0 0), .is (.int .i64 v3), .any, .any, .any, .any, .any, .any, .any, .any, .any, .any, .any, .any, .any, .any, .any, .any, .any, .any, .any, .any, .any, .any, .any, .any, .any, .any, .any],hp:=[.raw [.int .i64 O0, .int .i64 O1, .int .i64 O2]]}:St (X:=els))
noncomputable def RC:Code:=((aM [false,false,true,true] (Tryz.f44.body.getD .skip)).getD .skip|>fun c=>match c with| .loop c=>c|c=>c)
noncomputable def Ml (F d n:Nat) (s:St (X:=els)):Option (Ex×St (X:=els)):=iter none (fun s' K'=>exec k99 none (bU k99 none F d) F 44 56 RC s' (aU none H5 K')) n s (fun e s=>some (e,b8 Lw s))
noncomputable def MA:List LV→List (Blk (X:=els))→List SV→cb
 | [],[],xs=>aa xs fun O0 xs=>aa xs fun O1 xs=>aa xs fun O2 xs=>aa xs fun v0 xs=>aa xs fun v3 xs=>cp xs (some (v3==1&&dt v0,[], .exit 0,(BQ O0 O1 O2 (v0-aF (yrG v0)) (yrG v0))))
 |_,_,_=>none
noncomputable def KX:Cfg (X:=els):={k99 with lp:=(44,28,{keep:=xD,m:=1,mv:=H5.mv,ctx:=0,con:=some ((Mk).con MA)})::k99.lp}
def Hq:Pat (X:=els):={tm:=[(.is (.int .i64)), .any,(.is (.lit (AV.ptr 0 0))),(.is (.int .i64)),(.is (.int .i64)), .any, .any, .any, .any, .any, .any, .any, .any, .any, .any, .any, .any, .any, .any, .any, .any, .any, .any, .any, .any, .any, .any, .any, .any, .any, .any],hp:=[(.raw [(.int .i64),(.int .i64),(.int .i64)])]}
def tR:List Nat:=[0,2,3,4]
def HX:List Nat:=[0,2,3,4]
noncomputable def BL:bA (X:=els):={keep:=tR,m:=1,mv:=[]}
def Ea (O0 O1 O2 v0 v3 v4:Int):St (X:=els):={tm:=[.is (.int .i64 v0), .any, .is (.ptr 0 0), .is (.int .i64 v3), .is (.int .i64 v4), .any, .any, .any, .any, .any, .any, .any, .any, .any, .any, .any, .any, .any, .any, .any, .any, .any, .any, .any, .any, .any, .any, .any, .any, .any, .any],hp:=[.raw [.int .i64 O0, .int .i64 O1, .int .i64 O2]]}
def x7 (O0 O1 O2 v0 v3 v4:Int):St (X:=els):=({tm:=[.is (.int .i64 v0), .any, .is (.ptr 0 0), .is (.int .i64 v3), .is (.int .i64 v4), .any, .any, .any, .any, .any, .any, .any, .any, .any, .any, .any, .any, .any, .any, .any, .any, .any, .any, .any, .any, .any, .any, .any, .any, .any, .any],hp:=[.raw [.int .i64 O0, .int .i64 O1, .int .i64 O2]]}:St (X:=els))
noncomputable def Kd:Code:=((aM [false,false,true,true,true,true] (Tryz.f44.body.getD .skip)).getD .skip|>fun c=>match c with| .loop c=>c|c=>c)
noncomputable def GO (F d n:Nat) (s:St (X:=els)):Option (Ex×St (X:=els)):=iter none (fun s' K'=>exec KX none (bU KX none F d) F 44 248 Kd s' (aU none BL K')) n s (fun e s=>some (e,b8 HX s))
noncomputable def G1:List LV→List (Blk (X:=els))→List SV→cb
 | [],[],xs=>aa xs fun O0 xs=>aa xs fun O1 xs=>aa xs fun O2 xs=>aa xs fun v0 xs=>aa xs fun v3 xs=>aa xs fun v4 xs=>cp xs (some (v4==1&&(decide (1≤v3)&&(decide (v3≤9999)&&(decide (1≤v0)&&decide (v0≤eR v3)))),[], .exit 2,(x7 O0 O1 O2 (v0-aE v3 (IC v3 v0-1)) v3 ((IC v3 v0:Nat):Int))))
 |_,_,_=>none
noncomputable def Pm:Cfg (X:=els):={KX with lp:=(44,124,{keep:=tR,m:=1,mv:=BL.mv,ctx:=0,con:=some ((Hq).con G1)})::KX.lp}
noncomputable def kp:=(Sig.cons false (Dat.ah (Cel.int .i64)) Sig.nil)
noncomputable def kg:=(Res.agg Jz)
noncomputable def QO:Cfg (X:=els):={Pm with E:=(44,(kp).con kg (fun x=>(rOf x.1)) (fun x=>dt x.1))::Pm.E}
noncomputable def gY:=(Sig.cons false (Dat.ah (Cel.int .i64)) Sig.nil)
noncomputable def mQ:=Res.bool
noncomputable def OJ:Cfg (X:=els):={QO with E:=(43,(gY).con mQ (fun x=>(IV x.1)) (fun _=>true))::QO.E}
noncomputable def fH:=(Sig.cons true bF (Sig.cons false (Dat.ah (Cel.int .i64)) Sig.nil))
noncomputable def kW:=Res.bool
noncomputable def QK:Cfg (X:=els):={OJ with E:=(21,(fH).con kW (fun x=>(fX x.1 x.2.1)) (fun x=>iP x.1 x.2.1))::OJ.E}
noncomputable def jg:=(Sig.cons false (Dat.ah (Cel.int .i64)) (Sig.cons false (Dat.ah (Cel.int .i64)) Sig.nil))
noncomputable def oh:=(Res.int .i64)
noncomputable def KS:Cfg (X:=els):={QK with E:=(113,(jg).con oh (fun x=>(Lb x.1 x.2.1)) (fun x=>bD x.1 x.2.1))::QK.E}
def F9:Pat (X:=els):={tm:=[.any,(.is (.lit (AV.ptr 0 0))), .any,(.is (.int .i64)),(.is (.int .i64)), .any, .any, .any, .any, .any, .any, .any, .any, .any, .any, .any, .any, .any, .any, .any, .any, .any, .any, .any, .any, .any, .any, .any, .any, .any, .any],hp:=[(.raw [(.int .i64),(.int .i64),(.int .i64)])]}
def tP:List Nat:=[1,3,4]
def F3:List Nat:=[1,2,3]
noncomputable def Bw:bA (X:=els):={keep:=tP,m:=1,mv:=[]}
def Ef (O0 O1 O2 v3 v4:Int):St (X:=els):={tm:=[.any, .is (.ptr 0 0), .any, .is (.int .i64 v3), .is (.int .i64 v4), .any, .any, .any, .any, .any, .any, .any, .any, .any, .any, .any, .any, .any, .any, .any, .any, .any, .any, .any, .any, .any, .any, .any, .any, .any, .any],hp:=[.raw [.int .i64 O0, .int .i64 O1, .int .i64 O2]]}
def yo (O0 O1 O2 v3:Int):St (X:=els):=({tm:=[.any, .is (.ptr 0 0), .any, .is (.int .i64 v3), .any, .any, .any, .any, .any, .any, .any, .any, .any, .any, .any, .any, .any, .any, .any, .any, .any, .any, .any, .any, .any, .any, .any, .any, .any, .any, .any],hp:=[.raw [.int .i64 O0, .int .i64 O1, .int .i64 O2]]}:St (X:=els))
noncomputable def Kz:Code:=((aM [false,true,false,true,true] (Tryz.f127.body.getD .skip)).getD .skip|>fun c=>match c with| .loop c=>c|c=>c)
noncomputable def FW (F d n:Nat) (s:St (X:=els)):Option (Ex×St (X:=els)):=iter none (fun s' K'=>exec KS none (bU KS none F d) F 127 116 Kz s' (aU none Bw K')) n s (fun e s=>some (e,b8 F3 s))
noncomputable def HI:List LV→List (Blk (X:=els))→List SV→cb
 | [],[],xs=>aa xs fun O0 xs=>aa xs fun O1 xs=>aa xs fun O2 xs=>aa xs fun v3 xs=>aa xs fun v4 xs=>cp xs (some (v4==1&&(lit v3&&qx O0),[], .exit 0,(yo O0 O1 O2 (v3+aF O0))))
 |_,_,_=>none
noncomputable def J1:Cfg (X:=els):={KS with lp:=(127,58,{keep:=tP,m:=1,mv:=Bw.mv,ctx:=0,con:=some ((F9).con HI)})::KS.lp}
def G3:Pat (X:=els):={tm:=[.any,(.is (.lit (AV.ptr 0 0))), .any,(.is (.int .i64)), .any,(.is (.int .i64)), .any, .any, .any, .any, .any, .any, .any, .any, .any, .any, .any, .any, .any, .any, .any, .any, .any, .any, .any, .any, .any, .any, .any, .any, .any],hp:=[(.raw [(.int .i64),(.int .i64),(.int .i64)])]}
def tp:List Nat:=[1,3,5]
def Gz:List Nat:=[2,3]
noncomputable def Bs:bA (X:=els):={keep:=tp,m:=1,mv:=[]}
def DB (O0 O1 O2 v3 v5:Int):St (X:=els):={tm:=[.any, .is (.ptr 0 0), .any, .is (.int .i64 v3), .any, .is (.int .i64 v5), .any, .any, .any, .any, .any, .any, .any, .any, .any, .any, .any, .any, .any, .any, .any, .any, .any, .any, .any, .any, .any, .any, .any, .any, .any],hp:=[.raw [.int .i64 O0, .int .i64 O1, .int .i64 O2]]}
def xz (O0 O1 O2 v3:Int):St (X:=els):=({tm:=[.any, .any, .any, .is (.int .i64 v3), .any, .any, .any, .any, .any, .any, .any, .any, .any, .any, .any, .any, .any, .any, .any, .any, .any, .any, .any, .any, .any, .any, .any, .any, .any, .any, .any],hp:=[.raw [.int .i64 O0, .int .i64 O1, .int .i64 O2]]}:St (X:=els))
noncomputable def LB:Code:=((aM [false,true,false,true,true,true] (Tryz.f127.body.getD .skip)).getD .skip|>fun c=>match c with| .loop c=>c|c=>c)
noncomputable def HV (F d n:Nat) (s:St (X:=els)):Option (Ex×St (X:=els)):=iter none (fun s' K'=>exec J1 none (bU J1 none F d) F 127 244 LB s' (aU none Bs K')) n s (fun e s=>some (e,b8 Gz s))
noncomputable def H8:List LV→List (Blk (X:=els))→List SV→cb
 | [],[],xs=>aa xs fun O0 xs=>aa xs fun O1 xs=>aa xs fun O2 xs=>aa xs fun v3 xs=>aa xs fun v5 xs=>cp xs (some (v5==1&&(big v3&&(decide (1≤O1)&&decide (O1≤12))),[], .exit 2,(xz O0 O1 O2 (v3+aE O0 (O1-1).toNat))))
 |_,_,_=>none
noncomputable def OL:Cfg (X:=els):={J1 with lp:=(127,122,{keep:=tp,m:=1,mv:=Bs.mv,ctx:=0,con:=some ((G3).con H8)})::J1.lp}
noncomputable def jC:=(Sig.cons true (Dat.ah Jz) Sig.nil)
noncomputable def ov:=(Res.int .i64)
noncomputable def QQ:Cfg (X:=els):={OL with E:=(127,(jC).con ov (fun x=>(J7 x.1)) (fun x=>z7 x.1))::OL.E}
noncomputable def eM:=(Sig.cons false (Dat.ah (Cel.int .i64)) Sig.nil)
noncomputable def j6:=(Res.int .i64)
noncomputable def LJ:Cfg (X:=els):={QQ with E:=(99,(eM).con j6 (fun x=>(av x.1)) (fun x=>cS x.1))::QQ.E}
def F7:Pat (X:=els):={tm:=[(.is (.int .i64)),(.is (.int .i64)),(.is (.int .i64)),(.is (.int .i64)), .any, .any, .any, .any, .any, .any,(.is (.int .i64)),(.is (.int .i64)),(.is (.int .i64)),(.is (.int .i64)), .any, .any, .any, .any, .any, .any, .any, .any, .any, .any, .any, .any, .any, .any, .any, .any, .any, .any, .any, .any, .any, .any, .any, .any, .any, .any, .any, .any, .any, .any, .any, .any, .any, .any, .any, .any, .any, .any, .any, .any, .any, .any, .any, .any, .any, .any, .any, .any, .any, .any, .any],hp:=[]}
def uf:List Nat:=[0,1,2,3,10,11,12,13]
def Ht:List Nat:=[3,8,9,12]
noncomputable def BG:bA (X:=els):={keep:=uf,m:=0,mv:=[]}
def vQ (v0 v1 v2 v3 v10 v11 v12 v13:Int):St (X:=els):={tm:=[.is (.int .i64 v0), .is (.int .i64 v1), .is (.int .i64 v2), .is (.int .i64 v3), .any, .any, .any, .any, .any, .any, .is (.int .i64 v10), .is (.int .i64 v11), .is (.int .i64 v12), .is (.int .i64 v13), .any, .any, .any, .any, .any, .any, .any, .any, .any, .any, .any, .any, .any, .any, .any, .any, .any, .any, .any, .any, .any, .any, .any, .any, .any, .any, .any, .any, .any, .any, .any, .any, .any, .any, .any, .any, .any, .any, .any, .any, .any, .any, .any, .any, .any, .any, .any, .any, .any, .any, .any],hp:=[]}
def xy (v3 v10 v13:Int):St (X:=els):=({tm:=[.any, .any, .any, .is (.int .i64 v3), .any, .any, .any, .any, .is (.int .i64 (IntKind.wrap IntKind.i64 (v10+v13))), .is (.int .i64 0), .any, .any, .is (.int .i64 (IntKind.wrap IntKind.i64 (v10+v13))), .any, .any, .any, .any, .any, .any, .any, .any, .any, .any, .any, .any, .any, .any, .any, .any, .any, .any, .any, .any, .any, .any, .any, .any, .any, .any, .any, .any, .any, .any, .any, .any, .any, .any, .any, .any, .any, .any, .any, .any, .any, .any, .any, .any, .any, .any, .any, .any, .any, .any, .any, .any],hp:=[]}:St (X:=els))
def xB (v3 v12:Int):St (X:=els):=({tm:=[.any, .any, .any, .is (.int .i64 v3), .any, .any, .any, .any, .any, .any, .any, .any, .is (.int .i64 v12), .any, .any, .any, .any, .any, .any, .any, .any, .any, .any, .any, .any, .any, .any, .any, .any, .any, .any, .any, .any, .any, .any, .any, .any, .any, .any, .any, .any, .any, .any, .any, .any, .any, .any, .any, .any, .any, .any, .any, .any, .any, .any, .any, .any, .any, .any, .any, .any, .any, .any, .any, .any],hp:=[]}:St (X:=els))
noncomputable def JW:Code:=((aM [false,true,false,true,true,true,true,true,true] (Tryz.f118.body.getD .skip)).getD .skip|>fun c=>match c with| .loop c=>c|c=>c)
noncomputable def za (F d n:Nat) (s:St (X:=els)):Option (Ex×St (X:=els)):=iter none (fun s' K'=>exec LJ none (bU LJ none F d) F 118 2036 JW s' (aU none BG K')) n s (fun e s=>some (e,b8 Ht s))
noncomputable def FF:List LV→List (Blk (X:=els))→List SV→cb
 | [],[],xs=>aa xs fun v0 xs=>aa xs fun v1 xs=>aa xs fun v2 xs=>aa xs fun v3 xs=>aa xs fun v10 xs=>aa xs fun v11 xs=>aa xs fun v12 xs=>aa xs fun v13 xs=>cp xs (some (v10==aN v0 v1&&(bm v0 v1&&(!dO v2 v3&&(v11==0&&(v12==0&&v13==0)))),[(GR v3 (n6 v0 v1 v2), .exit 0,(xB v3 (cz v0 v1 v2+7*(n6 v0 v1 v2-1))))], .ret,(xy v3 v10 (cz v0 v1 v2+7*(v3-1)-v10))))
 |_,_,_=>none
noncomputable def RR:Cfg (X:=els):={LJ with lp:=(118,1018,{keep:=uf,m:=0,mv:=BG.mv,ctx:=0,con:=some ((F7).con FF)})::LJ.lp}
noncomputable def ji:=(Sig.cons false (Dat.ah (Cel.int .i64)) (Sig.cons false (Dat.ah (Cel.int .i64)) (Sig.cons false (Dat.ah (Cel.int .i64)) (Sig.cons false (Dat.ah (Cel.int .i64)) Sig.nil))))
noncomputable def oA:=(Res.qV (Res.int .i64) (Res.int .i64))
noncomputable def QY:Cfg (X:=els):={RR with E:=(118,(ji).con oA (fun x=>(kE x.1 x.2.1 x.2.2.1 x.2.2.2.1)) (fun _=>true))::RR.E}
noncomputable def iK:=(Sig.cons true (Dat.ah ka) (Sig.cons true (Dat.ah EX) (Sig.cons false (Dat.ah (Cel.int .i64)) Sig.nil)))
noncomputable def hP:=(Res.int .i64)
noncomputable def Rp:Cfg (X:=els):={QY with E:=(104,(iK).con hP (fun x=>(bW x.1 x.2.1 x.2.2.1)) (fun x=>er x.1 x.2.1 x.2.2.1))::QY.E}
noncomputable def ft:=(Sig.cons true (Dat.ah ka) (Sig.cons false (Dat.ah (Cel.int .i64)) Sig.nil))
noncomputable def fF:=Res.bool
noncomputable def P5:Cfg (X:=els):={Rp with E:=(80,(ft).con fF (fun x=>(mA x.1 x.2.1)) (fun x=>dq x.1 x.2.1))::Rp.E}
noncomputable def iE:=(Sig.cons true (Dat.ah ka) (Sig.cons false (Dat.ah (Cel.int .i64)) Sig.nil))
noncomputable def ig:=(Res.int .i64)
noncomputable def RG:Cfg (X:=els):={P5 with E:=(41,(iE).con ig (fun x=>(kP x.1 x.2.1)) (fun x=>dq x.1 x.2.1))::P5.E}
noncomputable def ee:=(Sig.cons true (Dat.ah ka) (Sig.cons false (Dat.ah (Cel.int .i64)) (Sig.cons false (Dat.ah (Cel.int .i64)) Sig.nil)))
noncomputable def ek:=(Out.one (Own.sl (.int:El)))
noncomputable def Ky:Cfg (X:=els):={RG with H:=(77,(ee).fU ek (fun x=>(kN x.1 x.2.1 x.2.2.1)) (fun x=>ll x.1 x.2.1 x.2.2.1))::RG.H}
def Gh:Pat (X:=els):={tm:=[.any, .any, .any,(.is (.lit (AV.ptr 0 0))), .any, .any, .any,(.is (.int .i64)),(.is (.slW 2 1)), .any, .any, .any, .any, .any, .any, .any, .any, .any, .any, .any, .any, .any, .any, .any, .any, .any, .any, .any, .any, .any, .any, .any, .any],hp:=[(.raw [(.int .i64),(.int .i64),(.int .i64),(.int .i64),(.int .i64),(.int .i64),(.int .i64),(.int .i64),(.int .i64),(.int .i64)]), .dead,(.vec (.int:El) true)]}
def tz:List Nat:=[3,7,8]
def HO:List Nat:=[6,8]
noncomputable def Bt:bA (X:=els):={keep:=tz,m:=2,mv:=[(.slot 8,(.int:El))]}
def wq (l2:List (Int)) (O0 O1 O2 O3 O4 O5 O6 O7 O8 O9 v7:Int):St (X:=els):={tm:=[.any, .any, .any, .is (.ptr 0 0), .any, .any, .any, .is (.int .i64 v7), .is (.sl 2 0 1 (List.length l2) none), .any, .any, .any, .any, .any, .any, .any, .any, .any, .any, .any, .any, .any, .any, .any, .any, .any, .any, .any, .any, .any, .any, .any, .any],hp:=[.raw [.int .i64 O0, .int .i64 O1, .int .i64 O2, .int .i64 O3, .int .i64 O4, .int .i64 O5, .int .i64 O6, .int .i64 O7, .int .i64 O8, .int .i64 O9], .dead,Blk.vec El.int l2 true]}
def ri (l2:List (Int)) (O0 O1 O2 O3 O4 O5 O6 O7 O8 O9:Int):St (X:=els):=({tm:=[.any, .any, .any, .any, .any, .any, .any, .any, .is (.sl 2 0 1 (List.length l2) none), .any, .any, .any, .any, .any, .any, .any, .any, .any, .any, .any, .any, .any, .any, .any, .any, .any, .any, .any, .any, .any, .any, .any, .any],hp:=[.raw [.int .i64 O0, .int .i64 O1, .int .i64 O2, .int .i64 O3, .int .i64 O4, .int .i64 O5, .int .i64 O6, .int .i64 O7, .int .i64 O8, .int .i64 O9], .dead,Blk.vec El.int l2 true]}:St (X:=els))
noncomputable def LN:Code:=((aM [false,false,true,true,true] (Tryz.f39.body.getD .skip)).getD .skip|>fun c=>match c with| .loop c=>c|c=>c)
noncomputable def Ae (F d n:Nat) (s:St (X:=els)):Option (Ex×St (X:=els)):=iter none (fun s' K'=>exec Ky none (bU Ky none F d) F 39 120 LN s' (aU none Bt K')) n s (fun e s=>some (e,b8 HO s))
noncomputable def Hh:List LV→List (Blk (X:=els))→List SV→cb
 | [⟨El.int,l2⟩],[],xs=>aa xs fun O0 xs=>aa xs fun O1 xs=>aa xs fun O2 xs=>aa xs fun O3 xs=>aa xs fun O4 xs=>aa xs fun O5 xs=>aa xs fun O6 xs=>aa xs fun O7 xs=>aa xs fun O8 xs=>aa xs fun O9 xs=>aa xs fun v7 xs=>cp xs (some (ao (⟨O0,O1,⟨O2,O3,O4,O5⟩,⟨O6,O7,O8,O9⟩⟩:bc)==0&&(fJ v7&&(JT l2 (dG (⟨O0,O1,⟨O2,O3,O4,O5⟩,⟨O6,O7,O8,O9⟩⟩:bc) v7)&&bY (dG (⟨O0,O1,⟨O2,O3,O4,O5⟩,⟨O6,O7,O8,O9⟩⟩:bc)) 200 v7)),[], .exit 0,(ri (dG (⟨O0,O1,⟨O2,O3,O4,O5⟩,⟨O6,O7,O8,O9⟩⟩:bc) (br (dG (⟨O0,O1,⟨O2,O3,O4,O5⟩,⟨O6,O7,O8,O9⟩⟩:bc)) 200 v7)) O0 O1 O2 O3 O4 O5 O6 O7 O8 O9)))
 |_,_,_=>none
noncomputable def Ra:Cfg (X:=els):={Ky with lp:=(39,60,{keep:=tz,m:=2,mv:=Bt.mv,ctx:=0,con:=some ((Gh).con Hh)})::Ky.lp}
noncomputable def fq:=(Sig.cons true (Dat.ah ka) (Sig.cons false (Dat.ah (Cel.int .i64)) (Sig.cons false (Dat.ah (Cel.int .i64)) Sig.nil)))
noncomputable def kS:=(Res.int .i64)
noncomputable def QL:Cfg (X:=els):={Ra with E:=(39,(fq).con kS (fun x=>(oJ x.1 x.2.1 x.2.2.1)) (fun x=>kH x.1 x.2.1 x.2.2.1))::Ra.E}
noncomputable def km:=(Sig.cons true (Dat.ah Jj) (Sig.cons false (Dat.ah (Cel.int .i64)) Sig.nil))
noncomputable def kD:=(Res.int .i64)
noncomputable def RJ:Cfg (X:=els):={QL with E:=(102,(km).con kD (fun x=>(I3 x.1 x.2.1)) (fun x=>zB x.1 x.2.1))::QL.E}
noncomputable def fB:=(Sig.cons true (Dat.ah ka) (Sig.cons true (Dat.ah Jj) (Sig.cons false (Dat.ah (Cel.int .i64)) Sig.nil)))
noncomputable def kR:=(Res.qV (Res.int .i64) (Res.int .i64))
noncomputable def OO:Cfg (X:=els):={RJ with E:=(73,(fB).con kR (fun x=>(iM x.1 x.2.1 x.2.2.1)) (fun _=>true))::RJ.E}
noncomputable def iS:=(Sig.cons false (Dat.ah (Cel.int .i64)) Sig.nil)
noncomputable def mX:=Res.bool
noncomputable def PL:Cfg (X:=els):={OO with E:=(143,(iS).con mX (fun x=>(dd x.1)) (fun x=>cS x.1))::OO.E}
noncomputable def jx:=(Sig.cons false (Dat.ah (Cel.int .i64)) Sig.nil)
noncomputable def n5:=Res.bool
noncomputable def J0:Cfg (X:=els):={PL with E:=(142,(jx).con n5 (fun x=>(fM x.1)) (fun _=>true))::PL.E}
def HD:Pat (X:=els):={tm:=[(.is (.int .i64)), .any, .any, .any,(.is (.int .i64)),(.is (.int .i64)), .any, .any, .any, .any, .any, .any, .any, .any, .any, .any, .any, .any, .any, .any, .any, .any, .any, .any, .any, .any, .any, .any],hp:=[]}
def tD:List Nat:=[0,4,5]
def HT:List Nat:=[2,4]
noncomputable def BT:bA (X:=els):={keep:=tD,m:=0,mv:=[]}
def zh (v0 v4 v5:Int):St (X:=els):={tm:=[.is (.int .i64 v0), .any, .any, .any, .is (.int .i64 v4), .is (.int .i64 v5), .any, .any, .any, .any, .any, .any, .any, .any, .any, .any, .any, .any, .any, .any, .any, .any, .any, .any, .any, .any, .any, .any],hp:=[]}
def yf (v4:Int):St (X:=els):=({tm:=[.any, .any, .any, .any, .is (.int .i64 v4), .any, .any, .any, .any, .any, .any, .any, .any, .any, .any, .any, .any, .any, .any, .any, .any, .any, .any, .any, .any, .any, .any, .any],hp:=[]}:St (X:=els))
noncomputable def KQ:Code:=((aM [false,true,false,true,true,true] (Tryz.f150.body.getD .skip)).getD .skip|>fun c=>match c with| .loop c=>c|c=>c)
noncomputable def Dz (F d n:Nat) (s:St (X:=els)):Option (Ex×St (X:=els)):=iter none (fun s' K'=>exec J0 none (bU J0 none F d) F 150 244 KQ s' (aU none BT K')) n s (fun e s=>some (e,b8 HT s))
noncomputable def HH:List LV→List (Blk (X:=els))→List SV→cb
 | [],[],xs=>aa xs fun v0 xs=>aa xs fun v4 xs=>aa xs fun v5 xs=>cp xs (some (bO v0&&(decide (1≤v5)&&(decide (v5≤v0)&&(decide (v0-v5≤20)&&v4==bg v5))),[], .exit 0,(yf (bg v0))))
 |_,_,_=>none
noncomputable def RI:Cfg (X:=els):={J0 with lp:=(150,122,{keep:=tD,m:=0,mv:=BT.mv,ctx:=0,con:=some ((HD).con HH)})::J0.lp}
noncomputable def fz:=(Sig.cons false (Dat.ah (Cel.int .i64)) Sig.nil)
noncomputable def kQ:=(Res.int .i64)
noncomputable def OR:Cfg (X:=els):={RI with E:=(150,(fz).con kQ (fun x=>(bg x.1)) (fun x=>bO x.1))::RI.E}
noncomputable def gA:=(Sig.cons false (Dat.ah (Cel.int .i64)) Sig.nil)
noncomputable def lX:=(Res.agg Ur)
noncomputable def Ri:Cfg (X:=els):={OR with E:=(140,(gA).con lX (fun x=>(UJ x.1)) (fun x=>bO x.1))::OR.E}
noncomputable def jF:=(Sig.cons false (Dat.ah (Cel.int .i64)) (Sig.cons true (Dat.ah Ur) Sig.nil))
noncomputable def nY:=(Res.int .i64)
noncomputable def OP:Cfg (X:=els):={Ri with E:=(151,(jF).con nY (fun x=>(EE x.1 x.2.1)) (fun x=>FB x.1 x.2.1))::Ri.E}
noncomputable def gj:=(Sig.cons false (Dat.ah (Cel.int .i64)) Sig.nil)
noncomputable def gL:=(Res.int .i64)
noncomputable def Pk:Cfg (X:=els):={OP with E:=(141,(gj).con gL (fun x=>(fv x.1)) (fun x=>bO x.1))::OP.E}
noncomputable def eU:=(Sig.cons false (Dat.ah (Cel.int .i64)) Sig.nil)
noncomputable def j9:=(Res.int .i64)
noncomputable def QS:Cfg (X:=els):={Pk with E:=(124,(eU).con j9 (fun x=>(aP x.1)) (fun x=>bO x.1))::Pk.E}
noncomputable def jq:=(Sig.cons false (Dat.ah (Cel.int .i64)) Sig.nil)
noncomputable def oj:=(Res.int .i64)
noncomputable def Ru:Cfg (X:=els):={QS with E:=(126,(jq).con oj (fun x=>(bu x.1)) (fun x=>kv x.1))::QS.E}
noncomputable def iV:=(Sig.cons false (Dat.ah (Cel.int .i64)) (Sig.cons false (Dat.ah (Cel.int .i64)) Sig.nil))
noncomputable def nd:=(Res.int .i64)
noncomputable def Sm:Cfg (X:=els):={Ru with E:=(125,(iV).con nd (fun x=>(dI x.1 x.2.1)) (fun _=>true))::Ru.E}
noncomputable def gi:=Sig.nil
noncomputable def mb:=(Res.int .i64)
noncomputable def Rz:Cfg (X:=els):={Sm with E:=(116,(gi).con mb (fun _=>FU) (fun _=>true))::Sm.E}
noncomputable def ik:=Sig.nil
noncomputable def nq:=(Res.int .i64)
noncomputable def Kr:Cfg (X:=els):={Rz with E:=(117,(ik).con nq (fun _=>Fw) (fun _=>true))::Rz.E}
def HQ:Pat (X:=els):={tm:=[(.is (.int .i64)), .any, .any,(.is (.int .i64)),(.is (.int .i64)), .any, .any, .any, .any, .any, .any, .any, .any, .any, .any, .any, .any, .any, .any, .any, .any],hp:=[]}
def tI:List Nat:=[0,3,4]
def GI:List Nat:=[2,3]
noncomputable def BI:bA (X:=els):={keep:=tI,m:=0,mv:=[]}
def zp (v0 v3 v4:Int):St (X:=els):={tm:=[.is (.int .i64 v0), .any, .any, .is (.int .i64 v3), .is (.int .i64 v4), .any, .any, .any, .any, .any, .any, .any, .any, .any, .any, .any, .any, .any, .any, .any, .any],hp:=[]}
def xN (v3:Int):St (X:=els):=({tm:=[.any, .any, .any, .is (.int .i64 v3), .any, .any, .any, .any, .any, .any, .any, .any, .any, .any, .any, .any, .any, .any, .any, .any, .any],hp:=[]}:St (X:=els))
noncomputable def KY:Code:=((aM [false,false,true,true,true] (Tryz.f123.body.getD .skip)).getD .skip|>fun c=>match c with| .loop c=>c|c=>c)
noncomputable def Dg (F d n:Nat) (s:St (X:=els)):Option (Ex×St (X:=els)):=iter none (fun s' K'=>exec Kr none (bU Kr none F d) F 123 120 KY s' (aU none BI K')) n s (fun e s=>some (e,b8 GI s))
noncomputable def HA:List LV→List (Blk (X:=els))→List SV→cb
 | [],[],xs=>aa xs fun v0 xs=>aa xs fun v3 xs=>aa xs fun v4 xs=>cp xs (some (zk v0 v3 v4,[], .exit 0,(xN (aZ v0))))
 |_,_,_=>none
noncomputable def QH:Cfg (X:=els):={Kr with lp:=(123,60,{keep:=tI,m:=0,mv:=BI.mv,ctx:=0,con:=some ((HQ).con HA)})::Kr.lp}
noncomputable def iG:=(Sig.cons false (Dat.ah (Cel.int .i64)) Sig.nil)
noncomputable def nf:=(Res.int .i64)
noncomputable def LR:Cfg (X:=els):={QH with E:=(123,(iG).con nf (fun x=>(aZ x.1)) (fun x=>inH x.1))::QH.E}
def Hb:Pat (X:=els):={tm:=[.any, .any,(.is (.lit (AV.ptr 0 0))),(.is (.int .i64)),(.is (.int .i64)),(.is (.int .i64)), .any, .any, .any, .any, .any, .any, .any, .any, .any, .any, .any, .any, .any, .any, .any, .any, .any, .any, .any, .any, .any, .any, .any],hp:=[(.raw [(.int .i64),(.int .i64),(.int .i64)])]}
def tn:List Nat:=[2,3,4,5]
def G5:List Nat:=[2,3,4,5]
noncomputable def BH:bA (X:=els):={keep:=tn,m:=1,mv:=[]}
def D9 (O0 O1 O2 v3 v4 v5:Int):St (X:=els):={tm:=[.any, .any, .is (.ptr 0 0), .is (.int .i64 v3), .is (.int .i64 v4), .is (.int .i64 v5), .any, .any, .any, .any, .any, .any, .any, .any, .any, .any, .any, .any, .any, .any, .any, .any, .any, .any, .any, .any, .any, .any, .any],hp:=[.raw [.int .i64 O0, .int .i64 O1, .int .i64 O2]]}
def xW (O0 O1 O2 v3 v4 v5:Int):St (X:=els):=({tm:=[.any, .any, .is (.ptr 0 0), .is (.int .i64 v3), .is (.int .i64 v4), .is (.int .i64 v5), .any, .any, .any, .any, .any, .any, .any, .any, .any, .any, .any, .any, .any, .any, .any, .any, .any, .any, .any, .any, .any, .any, .any],hp:=[.raw [.int .i64 O0, .int .i64 O1, .int .i64 O2]]}:St (X:=els))
noncomputable def LL:Code:=((aM [false,false,true,true,true,true] (Tryz.f115.body.getD .skip)).getD .skip|>fun c=>match c with| .loop c=>c|c=>c)
noncomputable def Gi (F d n:Nat) (s:St (X:=els)):Option (Ex×St (X:=els)):=iter none (fun s' K'=>exec LR none (bU LR none F d) F 115 248 LL s' (aU none BH K')) n s (fun e s=>some (e,b8 G5 s))
noncomputable def Gw:List LV→List (Blk (X:=els))→List SV→cb
 | [],[],xs=>aa xs fun O0 xs=>aa xs fun O1 xs=>aa xs fun O2 xs=>aa xs fun v3 xs=>aa xs fun v4 xs=>aa xs fun v5 xs=>cp xs (some (Fy v3 v5 v4,[], .exit 0,(xW O0 O1 O2 v3 (iY (bu v3) 13 1 v4).2 (iY (bu v3) 13 1 v4).1)))
 |_,_,_=>none
noncomputable def QU:Cfg (X:=els):={LR with lp:=(115,124,{keep:=tn,m:=1,mv:=BH.mv,ctx:=0,con:=some ((Hb).con Gw)})::LR.lp}
noncomputable def kI:=(Sig.cons false (Dat.ah (Cel.int .i64)) Sig.nil)
noncomputable def qw:=(Res.agg He)
noncomputable def Po:Cfg (X:=els):={QU with E:=(115,(kI).con qw (fun x=>(ez x.1)) (fun x=>inH x.1))::QU.E}
noncomputable def fx:=(Sig.cons false (Dat.ah (Cel.int .i64)) (Sig.cons false (Dat.ah Cel.bool) Sig.nil))
noncomputable def kT:=(Res.int .i64)
noncomputable def PW:Cfg (X:=els):={Po with E:=(122,(fx).con kT (fun x=>(tx x.1 x.2.1)) (fun _=>true))::Po.E}
noncomputable def kr:=(Sig.cons true (Dat.ah He) (Sig.cons false (Dat.ah Cel.bool) Sig.nil))
noncomputable def qv:=(Res.int .i64)
noncomputable def P8:Cfg (X:=els):={PW with E:=(114,(kr).con qv (fun x=>(E6 x.1 x.2.1)) (fun _=>true))::PW.E}
noncomputable def jz:=(Sig.cons false (Dat.ah (Cel.int .i64)) Sig.nil)
noncomputable def oB:=Res.bool
noncomputable def Pd:Cfg (X:=els):={P8 with E:=(101,(jz).con oB (fun x=>(inH x.1)) (fun _=>true))::P8.E}
noncomputable def iF:=(Sig.cons false (Dat.ah (Cel.int .i64)) (Sig.cons false (Dat.ah Cel.bool) Sig.nil))
noncomputable def mF:=(Res.int .i64)
noncomputable def Pa:Cfg (X:=els):={Pd with E:=(100,(iF).con mF (fun x=>(e9 x.1 x.2.1)) (fun _=>true))::Pd.E}
noncomputable def iD:=(Sig.cons false (Dat.ah (Cel.int .i64)) (Sig.cons false (Dat.ah Cel.bool) Sig.nil))
noncomputable def nm:=Res.bool
noncomputable def Ku:Cfg (X:=els):={Pa with E:=(71,(iD).con nm (fun x=>(bb x.1 x.2.1)) (fun _=>true))::Pa.E}
def Cb:Pat (X:=els):={tm:=[.any,(.is .bool), .any, .any,(.is (.lit (AV.ptr 0 0))),(.is (.int .i64)),(.is (.int .i64)),(.is .bool), .any, .any, .any, .any, .any, .any, .any, .any, .any, .any, .any, .any, .any, .any, .any, .any, .any, .any, .any, .any, .any, .any, .any, .any, .any, .any, .any],hp:=[(.raw [(.int .i64),(.int .i64)])]}
def pZ:List Nat:=[1,4,5,6,7]
def Cn:List Nat:=[1,4,5,6]
noncomputable def yD:bA (X:=els):={keep:=pZ,m:=1,mv:=[]}
def xO (O0 O1:Int) (v1:Bool) (v5 v6:Int) (v7:Bool):St (X:=els):={tm:=[.any, .is (.bool v1), .any, .any, .is (.ptr 0 0), .is (.int .i64 v5), .is (.int .i64 v6), .is (.bool v7), .any, .any, .any, .any, .any, .any, .any, .any, .any, .any, .any, .any, .any, .any, .any, .any, .any, .any, .any, .any, .any, .any, .any, .any, .any, .any, .any],hp:=[.raw [.int .i64 O0, .int .i64 O1]]}
def tr (O0 O1:Int) (v1:Bool) (v5 v6:Int):St (X:=els):=({tm:=[.any, .is (.bool v1), .any, .any, .is (.ptr 0 0), .is (.int .i64 v5), .is (.int .i64 v6), .any, .any, .any, .any, .any, .any, .any, .any, .any, .any, .any, .any, .any, .any, .any, .any, .any, .any, .any, .any, .any, .any, .any, .any, .any, .any, .any, .any],hp:=[.raw [.int .i64 O0, .int .i64 O1]]}:St (X:=els))
noncomputable def G7:Code:=((aM [false,false,true,true,true,true] (Tryz.f72.body.getD .skip)).getD .skip|>fun c=>match c with| .loop c=>c|c=>c)
noncomputable def BP (F d n:Nat) (s:St (X:=els)):Option (Ex×St (X:=els)):=iter none (fun s' K'=>exec Ku none (bU Ku none F d) F 72 248 G7 s' (aU none yD K')) n s (fun e s=>some (e,b8 Cn s))
noncomputable def Bx:List LV→List (Blk (X:=els))→List SV→cb
 | [],[],xs=>aa xs fun O0 xs=>aa xs fun O1 xs=>gP xs fun v1 xs=>aa xs fun v5 xs=>aa xs fun v6 xs=>gP xs fun v7 xs=>cp xs (some (kY (-1) v1 v5&&v7==bb (v5-1) v1,[], .exit 0,(tr O0 O1 v1 (bJ (-1) v1 10 v5) v6)))
 |_,_,_=>none
noncomputable def Lv:Cfg (X:=els):={Ku with lp:=(72,124,{keep:=pZ,m:=1,mv:=yD.mv,ctx:=0,con:=some ((Cb).con Bx)})::Ku.lp}
def yp:Pat (X:=els):={tm:=[.any,(.is .bool), .any, .any,(.is (.lit (AV.ptr 0 0))),(.is (.int .i64)),(.is (.int .i64)),(.is .bool), .any, .any, .any, .any, .any, .any, .any, .any, .any, .any, .any, .any, .any, .any, .any, .any, .any, .any, .any, .any, .any, .any, .any, .any, .any, .any, .any],hp:=[(.raw [(.int .i64),(.int .i64)])]}
def nk:List Nat:=[1,4,5,6,7]
def zO:List Nat:=[4,5,6]
noncomputable def tS:bA (X:=els):={keep:=nk,m:=1,mv:=[]}
def rv (O0 O1:Int) (v1:Bool) (v5 v6:Int) (v7:Bool):St (X:=els):={tm:=[.any, .is (.bool v1), .any, .any, .is (.ptr 0 0), .is (.int .i64 v5), .is (.int .i64 v6), .is (.bool v7), .any, .any, .any, .any, .any, .any, .any, .any, .any, .any, .any, .any, .any, .any, .any, .any, .any, .any, .any, .any, .any, .any, .any, .any, .any, .any, .any],hp:=[.raw [.int .i64 O0, .int .i64 O1]]}
def oO (O0 O1 v5 v6:Int):St (X:=els):=({tm:=[.any, .any, .any, .any, .is (.ptr 0 0), .is (.int .i64 v5), .is (.int .i64 v6), .any, .any, .any, .any, .any, .any, .any, .any, .any, .any, .any, .any, .any, .any, .any, .any, .any, .any, .any, .any, .any, .any, .any, .any, .any, .any, .any, .any],hp:=[.raw [.int .i64 O0, .int .i64 O1]]}:St (X:=els))
noncomputable def C8:Code:=((aM [false,false,true,true,true,true,true,true] (Tryz.f72.body.getD .skip)).getD .skip|>fun c=>match c with| .loop c=>c|c=>c)
noncomputable def yt (F d n:Nat) (s:St (X:=els)):Option (Ex×St (X:=els)):=iter none (fun s' K'=>exec Lv none (bU Lv none F d) F 72 1016 C8 s' (aU none tS K')) n s (fun e s=>some (e,b8 zO s))
noncomputable def yZ:List LV→List (Blk (X:=els))→List SV→cb
 | [],[],xs=>aa xs fun O0 xs=>aa xs fun O1 xs=>gP xs fun v1 xs=>aa xs fun v5 xs=>aa xs fun v6 xs=>gP xs fun v7 xs=>cp xs (some (kY 1 v1 v6&&v7==bb (v6+1) v1,[], .exit 2,(oO O0 O1 v5 (bJ 1 v1 10 v6))))
 |_,_,_=>none
noncomputable def RY:Cfg (X:=els):={Lv with lp:=(72,508,{keep:=nk,m:=1,mv:=tS.mv,ctx:=0,con:=some ((yp).con yZ)})::Lv.lp}
noncomputable def jK:=(Sig.cons false (Dat.ah (Cel.int .i64)) (Sig.cons false (Dat.ah Cel.bool) Sig.nil))
noncomputable def nT:=(Res.agg V1)
noncomputable def QC:Cfg (X:=els):={RY with E:=(72,(jK).con nT (fun x=>(VU x.1 x.2.1)) (fun x=>bb x.1 x.2.1))::RY.E}
noncomputable def fy:=(Sig.cons true bF (Sig.cons true (Dat.ah dz) (Sig.cons false (Dat.ah (Cel.int .i64)) Sig.nil)))
noncomputable def kM:=Res.bool
noncomputable def Rm:Cfg (X:=els):={QC with E:=(70,(fy).con kM (fun x=>(yV x.1 x.2.1 x.2.2.1)) (fun x=>nX x.1 x.2.1 x.2.2.1))::QC.E}
noncomputable def kz:=(Sig.cons true bF (Sig.cons true (Dat.ah dz) (Sig.cons false (Dat.ah (Cel.int .i64)) Sig.nil)))
noncomputable def qy:=(Res.agg Vy)
noncomputable def Kg:Cfg (X:=els):={Rm with E:=(36,(kz).con qy (fun x=>(qk x.1 x.2.1 x.2.2.1)) (fun x=>Bo x.1 x.2.1 x.2.2.1))::Rm.E}
def L4:Pat (X:=els):={tm:=[(.is (.slW 0 4)),(.is (.int .i64)), .any, .any,(.is (.lit (AV.ptr 1 0))), .any,(.is (.int .i64)), .any, .any, .any, .any, .any, .any, .any, .any, .any, .any, .any, .any, .any, .any, .any, .any, .any, .any, .any, .any, .any, .any, .any, .any, .any, .any, .any],hp:=[(.vec (.span:El) false),(.raw [(.int .i64),(.int .i64),(.int .i64),(.int .i64)])]}
def xL:List Nat:=[0,1,4,6]
def J8:List Nat:=[4,5]
noncomputable def Hi:bA (X:=els):={keep:=xL,m:=2,mv:=[]}
def IJ (l0:List (Span)) (P0 P1 P2 P3 v1 v6:Int):St (X:=els):={tm:=[.is (.sl 0 0 4 (List.length l0) none), .is (.int .i64 v1), .any, .any, .is (.ptr 1 0), .any, .is (.int .i64 v6), .any, .any, .any, .any, .any, .any, .any, .any, .any, .any, .any, .any, .any, .any, .any, .any, .any, .any, .any, .any, .any, .any, .any, .any, .any, .any, .any],hp:=[Blk.vec El.span l0 false, .raw [.int .i64 P0, .int .i64 P1, .int .i64 P2, .int .i64 P3]]}
def BS (l0:List (Span)) (v6:Int):St (X:=els):=({tm:=[.any, .any, .any, .any, .is (.ptr 1 0), .is (.bool true), .any, .any, .any, .any, .any, .any, .any, .any, .any, .any, .any, .any, .any, .any, .any, .any, .any, .any, .any, .any, .any, .any, .any, .any, .any, .any, .any, .any],hp:=[Blk.vec El.span l0 false, .raw [.int .i64 (Span.from_ (List.getD l0 (0+Int.toNat v6) {from_:=0,to_:=0,mode:=0,prio:=0})), .int .i64 (Span.to_ (List.getD l0 (0+Int.toNat v6) {from_:=0,to_:=0,mode:=0,prio:=0})), .int .i64 (Span.mode (List.getD l0 (0+Int.toNat v6) {from_:=0,to_:=0,mode:=0,prio:=0})), .int .i64 (Span.prio (List.getD l0 (0+Int.toNat v6) {from_:=0,to_:=0,mode:=0,prio:=0}))]]}:St (X:=els))
def Bj (l0:List (Span)) (P0 P1 P2 P3:Int):St (X:=els):=({tm:=[.any, .any, .any, .any, .is (.ptr 1 0), .any, .any, .any, .any, .any, .any, .any, .any, .any, .any, .any, .any, .any, .any, .any, .any, .any, .any, .any, .any, .any, .any, .any, .any, .any, .any, .any, .any, .any],hp:=[Blk.vec El.span l0 false, .raw [.int .i64 P0, .int .i64 P1, .int .i64 P2, .int .i64 P3]]}:St (X:=els))
noncomputable def Rt:Code:=((aM [false,true,false,true] (Tryz.f42.body.getD .skip)).getD .skip|>fun c=>match c with| .loop c=>c|c=>c)
noncomputable def MD (F d n:Nat) (s:St (X:=els)):Option (Ex×St (X:=els)):=iter none (fun s' K'=>exec Kg none (bU Kg none F d) F 42 52 Rt s' (aU none Hi K')) n s (fun e s=>some (e,b8 J8 s))
noncomputable def Mh:List LV→List (Blk (X:=els))→List SV→cb
 | [⟨El.span,l0⟩],[],xs=>aa xs fun P0 xs=>aa xs fun P1 xs=>aa xs fun P2 xs=>aa xs fun P3 xs=>aa xs fun v1 xs=>aa xs fun v6 xs=>cp xs (some (decide (l0.length≤1048576)&&v6==0,[(!gX l0 v1, .exit 0,(Bj l0 P0 P1 P2 P3))], .ret,(BS l0 (atIdx l0 v1))))
 |_,_,_=>none
noncomputable def R4:Cfg (X:=els):={Kg with lp:=(42,26,{keep:=xL,m:=2,mv:=Hi.mv,ctx:=0,con:=some ((L4).con Mh)})::Kg.lp}
noncomputable def kB:=(Sig.cons false (Dat.sl jc (.span:El)) (Sig.cons false (Dat.ah (Cel.int .i64)) Sig.nil))
noncomputable def qt:=(Res.qV (Res.agg vf) Res.bool)
noncomputable def Sf:Cfg (X:=els):={R4 with E:=(42,(kB).con qt (fun x=>(ja x.1 x.2.1)) (fun x=>bz x.1 x.2.1))::R4.E}
noncomputable def iH:=(Sig.cons true (Dat.ah vf) (Sig.cons true (Dat.ah vf) Sig.nil))
noncomputable def ni:=Res.bool
noncomputable def Kq:Cfg (X:=els):={Sf with E:=(103,(iH).con ni (fun x=>(Co x.1 x.2.1)) (fun _=>true))::Sf.E}
def TF:Pat (X:=els):={tm:=[(.is (.slW 0 4)),(.is (.int .i64)), .any, .any, .any,(.is (.int .i64)),(.is (.int .i64)), .any, .any, .any, .any, .any, .any, .any, .any, .any, .any, .any, .any, .any, .any, .any, .any, .any, .any, .any, .any, .any, .any, .any, .any, .any, .any, .any, .any, .any, .any, .any, .any, .any, .any, .any, .any, .any, .any],hp:=[(.vec (.span:El) false)]}
def B3:List Nat:=[0,1,5,6]
def Rw:List Nat:=[4,5]
noncomputable def Mg:bA (X:=els):={keep:=B3,m:=1,mv:=[]}
def IQ (l0:List (Span)) (v1 v5 v6:Int):St (X:=els):={tm:=[.is (.sl 0 0 4 (List.length l0) none), .is (.int .i64 v1), .any, .any, .any, .is (.int .i64 v5), .is (.int .i64 v6), .any, .any, .any, .any, .any, .any, .any, .any, .any, .any, .any, .any, .any, .any, .any, .any, .any, .any, .any, .any, .any, .any, .any, .any, .any, .any, .any, .any, .any, .any, .any, .any, .any, .any, .any, .any, .any, .any],hp:=[Blk.vec El.span l0 false]}
def Gb (l0:List (Span)) (v5:Int):St (X:=els):=({tm:=[.any, .any, .any, .any, .any, .is (.int .i64 v5), .any, .any, .any, .any, .any, .any, .any, .any, .any, .any, .any, .any, .any, .any, .any, .any, .any, .any, .any, .any, .any, .any, .any, .any, .any, .any, .any, .any, .any, .any, .any, .any, .any, .any, .any, .any, .any, .any, .any],hp:=[Blk.vec El.span l0 false]}:St (X:=els))
noncomputable def Vl:Code:=((aM [false,true,false,true,true] (Tryz.f76.body.getD .skip)).getD .skip|>fun c=>match c with| .loop c=>c|c=>c)
noncomputable def LU (F d n:Nat) (s:St (X:=els)):Option (Ex×St (X:=els)):=iter none (fun s' K'=>exec Kq none (bU Kq none F d) F 76 116 Vl s' (aU none Mg K')) n s (fun e s=>some (e,b8 Rw s))
noncomputable def T6:List LV→List (Blk (X:=els))→List SV→cb
 | [⟨El.span,l0⟩],[],xs=>aa xs fun v1 xs=>aa xs fun v5 xs=>aa xs fun v6 xs=>cp xs (some (decide (l0.length≤1048576)&&(v5== -1&&v6==0),[], .exit 0,(Gb l0 (az l0 v1))))
 |_,_,_=>none
noncomputable def OM:Cfg (X:=els):={Kq with lp:=(76,58,{keep:=B3,m:=1,mv:=Mg.mv,ctx:=0,con:=some ((TF).con T6)})::Kq.lp}
noncomputable def dD:=(Sig.cons false (Dat.sl jc (.span:El)) (Sig.cons false (Dat.ah (Cel.int .i64)) Sig.nil))
noncomputable def gU:=(Res.int .i64)
noncomputable def Lz:Cfg (X:=els):={OM with E:=(76,(dD).con gU (fun x=>(az x.1 x.2.1)) (fun x=>bz x.1 x.2.1))::OM.E}
def Mn:Pat (X:=els):={tm:=[(.is (.slW 0 4)),(.is (.int .i64)), .any, .any, .any, .any,(.is (.int .i64)),(.is .bool),(.is (.int .i64)), .any, .any, .any, .any, .any, .any, .any, .any, .any, .any, .any, .any, .any, .any, .any, .any, .any, .any, .any, .any, .any, .any, .any, .any, .any, .any, .any, .any, .any, .any, .any, .any, .any, .any, .any, .any, .any, .any, .any, .any, .any, .any, .any, .any, .any, .any, .any, .any, .any, .any, .any, .any, .any, .any, .any, .any, .any, .any],hp:=[(.vec (.span:El) false)]}
def yw:List Nat:=[0,1,6,7,8]
def Lr:List Nat:=[4,5,6,7]
noncomputable def GF:bA (X:=els):={keep:=yw,m:=1,mv:=[]}
def Ax (l0:List (Span)) (v1 v6:Int) (v7:Bool) (v8:Int):St (X:=els):={tm:=[.is (.sl 0 0 4 (List.length l0) none), .is (.int .i64 v1), .any, .any, .any, .any, .is (.int .i64 v6), .is (.bool v7), .is (.int .i64 v8), .any, .any, .any, .any, .any, .any, .any, .any, .any, .any, .any, .any, .any, .any, .any, .any, .any, .any, .any, .any, .any, .any, .any, .any, .any, .any, .any, .any, .any, .any, .any, .any, .any, .any, .any, .any, .any, .any, .any, .any, .any, .any, .any, .any, .any, .any, .any, .any, .any, .any, .any, .any, .any, .any, .any, .any, .any, .any],hp:=[Blk.vec El.span l0 false]}
def BC (l0:List (Span)) (v6:Int) (v7:Bool):St (X:=els):=({tm:=[.any, .any, .any, .any, .any, .any, .is (.int .i64 v6), .is (.bool v7), .any, .any, .any, .any, .any, .any, .any, .any, .any, .any, .any, .any, .any, .any, .any, .any, .any, .any, .any, .any, .any, .any, .any, .any, .any, .any, .any, .any, .any, .any, .any, .any, .any, .any, .any, .any, .any, .any, .any, .any, .any, .any, .any, .any, .any, .any, .any, .any, .any, .any, .any, .any, .any, .any, .any, .any, .any, .any, .any],hp:=[Blk.vec El.span l0 false]}:St (X:=els))
noncomputable def QM:Code:=((aM [false,true,false,true,true,true] (Tryz.f75.body.getD .skip)).getD .skip|>fun c=>match c with| .loop c=>c|c=>c)
noncomputable def Cv (F d n:Nat) (s:St (X:=els)):Option (Ex×St (X:=els)):=iter none (fun s' K'=>exec Lz none (bU Lz none F d) F 75 244 QM s' (aU none GF K')) n s (fun e s=>some (e,b8 Lr s))
noncomputable def Md:List LV→List (Blk (X:=els))→List SV→cb
 | [⟨El.span,l0⟩],[],xs=>aa xs fun v1 xs=>aa xs fun v6 xs=>gP xs fun v7 xs=>aa xs fun v8 xs=>cp xs (some (decide (l0.length≤1048576)&&(v6==0&&(v7==false&&v8==0)),[], .exit 0,(BC l0 (bp l0 v1).1 (bp l0 v1).2)))
 |_,_,_=>none
noncomputable def Sp:Cfg (X:=els):={Lz with lp:=(75,122,{keep:=yw,m:=1,mv:=GF.mv,ctx:=0,con:=some ((Mn).con Md)})::Lz.lp}
noncomputable def hU:=(Sig.cons false (Dat.sl jc (.span:El)) (Sig.cons false (Dat.ah (Cel.int .i64)) Sig.nil))
noncomputable def np:=(Res.qV (Res.int .i64) Res.bool)
noncomputable def K8:Cfg (X:=els):={Sp with E:=(75,(hU).con np (fun x=>(bp x.1 x.2.1)) (fun x=>bz x.1 x.2.1))::Sp.E}
def Mz:Pat (X:=els):={tm:=[(.is (.slW 0 4)), .any, .any,(.is (.int .i64)),(.is (.int .i64)), .any, .any, .any, .any, .any, .any, .any, .any, .any, .any, .any, .any, .any, .any, .any, .any, .any, .any, .any, .any, .any, .any, .any],hp:=[(.vec (.span:El) false)]}
def xR:List Nat:=[0,3,4]
def LG:List Nat:=[2,3]
noncomputable def Hu:bA (X:=els):={keep:=xR,m:=1,mv:=[]}
def E7 (l0:List (Span)) (v3 v4:Int):St (X:=els):={tm:=[.is (.sl 0 0 4 (List.length l0) none), .any, .any, .is (.int .i64 v3), .is (.int .i64 v4), .any, .any, .any, .any, .any, .any, .any, .any, .any, .any, .any, .any, .any, .any, .any, .any, .any, .any, .any, .any, .any, .any, .any],hp:=[Blk.vec El.span l0 false]}
def BF (l0:List (Span)) (v3:Int):St (X:=els):=({tm:=[.any, .any, .any, .is (.int .i64 v3), .any, .any, .any, .any, .any, .any, .any, .any, .any, .any, .any, .any, .any, .any, .any, .any, .any, .any, .any, .any, .any, .any, .any, .any],hp:=[Blk.vec El.span l0 false]}:St (X:=els))
noncomputable def Sh:Code:=((aM [false,true,false,true,true] (Tryz.f74.body.getD .skip)).getD .skip|>fun c=>match c with| .loop c=>c|c=>c)
noncomputable def JK (F d n:Nat) (s:St (X:=els)):Option (Ex×St (X:=els)):=iter none (fun s' K'=>exec K8 none (bU K8 none F d) F 74 116 Sh s' (aU none Hu K')) n s (fun e s=>some (e,b8 LG s))
noncomputable def MN:List LV→List (Blk (X:=els))→List SV→cb
 | [⟨El.span,l0⟩],[],xs=>aa xs fun v3 xs=>aa xs fun v4 xs=>cp xs (some (decide (l0.length≤1048576)&&v4==0,[], .exit 0,(BF l0 (lGo l0 v3))))
 |_,_,_=>none
noncomputable def Qg:Cfg (X:=els):={K8 with lp:=(74,58,{keep:=xR,m:=1,mv:=Hu.mv,ctx:=0,con:=some ((Mz).con MN)})::K8.lp}
noncomputable def gr:=(Sig.cons false (Dat.sl jc (.span:El)) Sig.nil)
noncomputable def mg:=(Res.int .i64)
noncomputable def Ln:Cfg (X:=els):={Qg with E:=(74,(gr).con mg (fun x=>(dh x.1)) (fun x=>Ff x.1))::Qg.E}
def HS:Pat (X:=els):={tm:=[(.is (.slW 0 4)), .any, .any,(.is (.slW 1 4)),(.is (.int .i64)),(.is (.int .i64)),(.is .bool), .any, .any, .any, .any, .any, .any, .any, .any, .any, .any, .any, .any, .any, .any, .any, .any, .any, .any, .any, .any, .any, .any, .any, .any, .any, .any, .any, .any, .any, .any, .any, .any, .any, .any, .any, .any, .any, .any, .any, .any, .any, .any, .any, .any, .any, .any, .any, .any, .any, .any, .any, .any, .any, .any, .any, .any, .any, .any, .any, .any, .any, .any, .any, .any, .any, .any, .any, .any, .any, .any, .any, .any, .any, .any, .any],hp:=[(.vec (.span:El) false),(.vec (.span:El) true)]}
def tq:List Nat:=[0,3,4,5,6]
def HY:List Nat:=[2,3]
noncomputable def Bf:bA (X:=els):={keep:=tq,m:=1,mv:=[(.slot 3,(.span:El))]}
def wL (l0 l1:List (Span)) (v4 v5:Int) (v6:Bool):St (X:=els):={tm:=[.is (.sl 0 0 4 (List.length l0) none), .any, .any, .is (.sl 1 0 4 (List.length l1) none), .is (.int .i64 v4), .is (.int .i64 v5), .is (.bool v6), .any, .any, .any, .any, .any, .any, .any, .any, .any, .any, .any, .any, .any, .any, .any, .any, .any, .any, .any, .any, .any, .any, .any, .any, .any, .any, .any, .any, .any, .any, .any, .any, .any, .any, .any, .any, .any, .any, .any, .any, .any, .any, .any, .any, .any, .any, .any, .any, .any, .any, .any, .any, .any, .any, .any, .any, .any, .any, .any, .any, .any, .any, .any, .any, .any, .any, .any, .any, .any, .any, .any, .any, .any, .any, .any],hp:=[Blk.vec El.span l0 false,Blk.vec El.span l1 true]}
def x6 (l0 l1:List (Span)):St (X:=els):=({tm:=[.any, .any, .any, .is (.sl 1 0 4 (List.length l1) none), .any, .any, .any, .any, .any, .any, .any, .any, .any, .any, .any, .any, .any, .any, .any, .any, .any, .any, .any, .any, .any, .any, .any, .any, .any, .any, .any, .any, .any, .any, .any, .any, .any, .any, .any, .any, .any, .any, .any, .any, .any, .any, .any, .any, .any, .any, .any, .any, .any, .any, .any, .any, .any, .any, .any, .any, .any, .any, .any, .any, .any, .any, .any, .any, .any, .any, .any, .any, .any, .any, .any, .any, .any, .any, .any, .any, .any, .any],hp:=[Blk.vec El.span l0 false,Blk.vec El.span l1 true]}:St (X:=els))
noncomputable def Ka:Code:=((aM [false,false,true,true,true,true,true] (Tryz.f37.body.getD .skip)).getD .skip|>fun c=>match c with| .loop c=>c|c=>c)
noncomputable def zN (F d n:Nat) (s:St (X:=els)):Option (Ex×St (X:=els)):=iter none (fun s' K'=>exec Ln none (bU Ln none F d) F 37 504 Ka s' (aU none Bf K')) n s (fun e s=>some (e,b8 HY s))
noncomputable def F0:List LV→List (Blk (X:=els))→List SV→cb
 | [⟨El.span,l0⟩,⟨El.span,l1⟩],[],xs=>aa xs fun v4 xs=>aa xs fun v5 xs=>gP xs fun v6 xs=>cp xs (some (decide (l0.length≤500)&&(l1.length==0&&(v5==(bp l0 v4).1&&v6==(bp l0 v4).2)),[], .exit 0,(x6 l0 (rp l0 (aS l0) v4 v5 v6 []))))
 |_,_,_=>none
noncomputable def P6:Cfg (X:=els):={Ln with lp:=(37,252,{keep:=tq,m:=1,mv:=Bf.mv,ctx:=0,con:=some ((HS).con F0)})::Ln.lp}
noncomputable def eV:=(Sig.cons false (Dat.sl jc (.span:El)) Sig.nil)
noncomputable def eP:=(Out.one (Own.sl (.span:El)))
noncomputable def KP:Cfg (X:=els):={P6 with H:=(37,(eV).fU eP (fun x=>(uB x.1)) (fun x=>zx x.1))::P6.H}
def HC:Pat (X:=els):={tm:=[.any, .any,(.is (.int .i64)),(.is (.lit (AV.ptr 2 0))), .any, .any, .any,(.is (.slW 4 4)),(.is (.int .i64)),(.is (.int .i64)), .any, .any, .any, .any, .any, .any, .any, .any, .any, .any, .any, .any, .any, .any, .any, .any, .any, .any, .any, .any, .any, .any, .any, .any, .any, .any, .any, .any, .any, .any],hp:=[(.vec (.int:El) false),(.vec (.aW:El) false),(.raw [(.int .i64),(.int .i64),(.int .i64),(.slW 0 1),(.int .i64),(.int .i64),(.int .i64),(.int .i64),(.int .i64),(.int .i64),(.int .i64),(.int .i64),(.int .i64),(.int .i64),(.int .i64),(.int .i64),(.int .i64),(.int .i64),(.int .i64),(.int .i64),(.int .i64),(.int .i64),(.int .i64),(.int .i64),(.int .i64),(.int .i64),(.int .i64),(.int .i64),(.int .i64),(.int .i64),(.int .i64),(.int .i64),(.int .i64),(.int .i64),(.int .i64), .bool,(.slW 1 7)]), .dead,(.vec (.span:El) true)]}
def tJ:List Nat:=[2,3,7,8,9]
def GW:List Nat:=[2,3,6,7,8]
noncomputable def Bv:bA (X:=els):={keep:=tJ,m:=4,mv:=[(.slot 7,(.span:El))]}
def zg (l0:List (Int)) (l1:List (ag)) (l3:List (Span)) (Q0 Q1 Q2 Q4 Q5 Q6 Q7 Q8 Q9 Q10 Q11 Q12 Q13 Q14 Q15 Q16 Q17 Q18 Q19 Q20 Q21 Q22 Q23 Q24 Q25 Q26 Q27 Q28 Q29 Q30 Q31 Q32 Q33 Q34:Int) (Q35:Bool) (v2 v8 v9:Int):St (X:=els):={tm:=[.any, .any, .is (.int .i64 v2), .is (.ptr 2 0), .any, .any, .any, .is (.sl 4 0 4 (List.length l3) none), .is (.int .i64 v8), .is (.int .i64 v9), .any, .any, .any, .any, .any, .any, .any, .any, .any, .any, .any, .any, .any, .any, .any, .any, .any, .any, .any, .any, .any, .any, .any, .any, .any, .any, .any, .any, .any, .any],hp:=[Blk.vec El.int l0 false,Blk.vec El.aW l1 false, .raw [.int .i64 Q0, .int .i64 Q1, .int .i64 Q2, .sl 0 0 1 (List.length l0) none, .int .i64 Q4, .int .i64 Q5, .int .i64 Q6, .int .i64 Q7, .int .i64 Q8, .int .i64 Q9, .int .i64 Q10, .int .i64 Q11, .int .i64 Q12, .int .i64 Q13, .int .i64 Q14, .int .i64 Q15, .int .i64 Q16, .int .i64 Q17, .int .i64 Q18, .int .i64 Q19, .int .i64 Q20, .int .i64 Q21, .int .i64 Q22, .int .i64 Q23, .int .i64 Q24, .int .i64 Q25, .int .i64 Q26, .int .i64 Q27, .int .i64 Q28, .int .i64 Q29, .int .i64 Q30, .int .i64 Q31, .int .i64 Q32, .int .i64 Q33, .int .i64 Q34, .bool Q35, .sl 1 0 7 (List.length l1) none], .dead,Blk.vec El.span l3 true]}
def yl (l0:List (Int)) (l1:List (ag)) (l3:List (Span)) (Q0 Q1 Q2 Q4 Q5 Q6 Q7 Q8 Q9 Q10 Q11 Q12 Q13 Q14 Q15 Q16 Q17 Q18 Q19 Q20 Q21 Q22 Q23 Q24 Q25 Q26 Q27 Q28 Q29 Q30 Q31 Q32 Q33 Q34:Int) (Q35:Bool) (v2 v8:Int):St (X:=els):=({tm:=[.any, .any, .is (.int .i64 v2), .is (.ptr 2 0), .any, .any, .any, .is (.sl 4 0 4 (List.length l3) none), .is (.int .i64 v8), .any, .any, .any, .any, .any, .any, .any, .any, .any, .any, .any, .any, .any, .any, .any, .any, .any, .any, .any, .any, .any, .any, .any, .any, .any, .any, .any, .any, .any, .any, .any],hp:=[Blk.vec El.int l0 false,Blk.vec El.aW l1 false, .raw [.int .i64 Q0, .int .i64 Q1, .int .i64 Q2, .sl 0 0 1 (List.length l0) none, .int .i64 Q4, .int .i64 Q5, .int .i64 Q6, .int .i64 Q7, .int .i64 Q8, .int .i64 Q9, .int .i64 Q10, .int .i64 Q11, .int .i64 Q12, .int .i64 Q13, .int .i64 Q14, .int .i64 Q15, .int .i64 Q16, .int .i64 Q17, .int .i64 Q18, .int .i64 Q19, .int .i64 Q20, .int .i64 Q21, .int .i64 Q22, .int .i64 Q23, .int .i64 Q24, .int .i64 Q25, .int .i64 Q26, .int .i64 Q27, .int .i64 Q28, .int .i64 Q29, .int .i64 Q30, .int .i64 Q31, .int .i64 Q32, .int .i64 Q33, .int .i64 Q34, .bool Q35, .sl 1 0 7 (List.length l1) none], .dead,Blk.vec El.span l3 true]}:St (X:=els))
noncomputable def KN:Code:=((aM [false,true,false,false,true,false,false,true,false,true,true] (Tryz.f17.body.getD .skip)).getD .skip|>fun c=>match c with| .loop c=>c|c=>c)
noncomputable def CG (F d n:Nat) (s:St (X:=els)):Option (Ex×St (X:=els)):=iter none (fun s' K'=>exec KP none (bU KP none F d) F 17 7460 KN s' (aU none Bv K')) n s (fun e s=>some (e,b8 GW s))
noncomputable def H9:List LV→List (Blk (X:=els))→List SV→cb
 | [⟨El.int,l0⟩,⟨El.aW,l1⟩,⟨El.span,l3⟩],[],xs=>aa xs fun Q0 xs=>aa xs fun Q1 xs=>aa xs fun Q2 xs=>aa xs fun Q4 xs=>aa xs fun Q5 xs=>aa xs fun Q6 xs=>aa xs fun Q7 xs=>aa xs fun Q8 xs=>aa xs fun Q9 xs=>aa xs fun Q10 xs=>aa xs fun Q11 xs=>aa xs fun Q12 xs=>aa xs fun Q13 xs=>aa xs fun Q14 xs=>aa xs fun Q15 xs=>aa xs fun Q16 xs=>aa xs fun Q17 xs=>aa xs fun Q18 xs=>aa xs fun Q19 xs=>aa xs fun Q20 xs=>aa xs fun Q21 xs=>aa xs fun Q22 xs=>aa xs fun Q23 xs=>aa xs fun Q24 xs=>aa xs fun Q25 xs=>aa xs fun Q26 xs=>aa xs fun Q27 xs=>aa xs fun Q28 xs=>aa xs fun Q29 xs=>aa xs fun Q30 xs=>aa xs fun Q31 xs=>aa xs fun Q32 xs=>aa xs fun Q33 xs=>aa xs fun Q34 xs=>gP xs fun Q35 xs=>aa xs fun v2 xs=>aa xs fun v8 xs=>aa xs fun v9 xs=>cp xs (some (decide (l0.length≤1048576)&&(decide (l1.length≤1000)&&(decide (l3.length≤100000)&&(v9==0&&(af (⟨Q0,Q1,Q2,l0,⟨Q4,Q5,Q6,Q7,Q8,Q9,Q10⟩,Q11,Q12,⟨Q13,Q14,⟨Q15,Q16,Q17,Q18⟩,⟨Q19,Q20,Q21,Q22⟩⟩,⟨Q23,Q24,Q25,Q26,Q27,Q28,Q29,Q30,Q31,Q32,Q33,Q34⟩,Q35,l1⟩:Config)==0&&dw v8)))),[], .exit 2,(yl l0 l1 (l3++bo (⟨Q0,Q1,Q2,l0,⟨Q4,Q5,Q6,Q7,Q8,Q9,Q10⟩,Q11,Q12,⟨Q13,Q14,⟨Q15,Q16,Q17,Q18⟩,⟨Q19,Q20,Q21,Q22⟩⟩,⟨Q23,Q24,Q25,Q26,Q27,Q28,Q29,Q30,Q31,Q32,Q33,Q34⟩,Q35,l1⟩:Config) v8 l1) Q0 Q1 Q2 Q4 Q5 Q6 Q7 Q8 Q9 Q10 Q11 Q12 Q13 Q14 Q15 Q16 Q17 Q18 Q19 Q20 Q21 Q22 Q23 Q24 Q25 Q26 Q27 Q28 Q29 Q30 Q31 Q32 Q33 Q34 Q35 v2 v8)))
 |_,_,_=>none
noncomputable def J9:Cfg (X:=els):={KP with lp:=(17,3730,{keep:=tJ,m:=4,mv:=Bv.mv,ctx:=0,con:=some ((HC).con H9)})::KP.lp}
def F8:Pat (X:=els):={tm:=[.any, .any,(.is (.int .i64)),(.is (.lit (AV.ptr 2 0))), .any, .any, .any,(.is (.slW 3 4)),(.is (.int .i64)), .any, .any, .any, .any, .any, .any, .any, .any, .any, .any, .any, .any, .any, .any, .any, .any, .any, .any, .any, .any, .any, .any, .any, .any, .any, .any, .any, .any, .any, .any, .any],hp:=[(.vec (.int:El) false),(.vec (.aW:El) false),(.raw [(.int .i64),(.int .i64),(.int .i64),(.slW 0 1),(.int .i64),(.int .i64),(.int .i64),(.int .i64),(.int .i64),(.int .i64),(.int .i64),(.int .i64),(.int .i64),(.int .i64),(.int .i64),(.int .i64),(.int .i64),(.int .i64),(.int .i64),(.int .i64),(.int .i64),(.int .i64),(.int .i64),(.int .i64),(.int .i64),(.int .i64),(.int .i64),(.int .i64),(.int .i64),(.int .i64),(.int .i64),(.int .i64),(.int .i64),(.int .i64),(.int .i64), .bool,(.slW 1 7)]),(.vec (.span:El) true)]}
def tH:List Nat:=[2,3,7,8]
def Gu:List Nat:=[6,7]
noncomputable def BM:bA (X:=els):={keep:=tH,m:=3,mv:=[(.slot 7,(.span:El))]}
def C5 (l0:List (Int)) (l1:List (ag)) (l3:List (Span)) (Q0 Q1 Q2 Q4 Q5 Q6 Q7 Q8 Q9 Q10 Q11 Q12 Q13 Q14 Q15 Q16 Q17 Q18 Q19 Q20 Q21 Q22 Q23 Q24 Q25 Q26 Q27 Q28 Q29 Q30 Q31 Q32 Q33 Q34:Int) (Q35:Bool) (v2 v8:Int):St (X:=els):={tm:=[.any, .any, .is (.int .i64 v2), .is (.ptr 2 0), .any, .any, .any, .is (.sl 3 0 4 (List.length l3) none), .is (.int .i64 v8), .any, .any, .any, .any, .any, .any, .any, .any, .any, .any, .any, .any, .any, .any, .any, .any, .any, .any, .any, .any, .any, .any, .any, .any, .any, .any, .any, .any, .any, .any, .any],hp:=[Blk.vec El.int l0 false,Blk.vec El.aW l1 false, .raw [.int .i64 Q0, .int .i64 Q1, .int .i64 Q2, .sl 0 0 1 (List.length l0) none, .int .i64 Q4, .int .i64 Q5, .int .i64 Q6, .int .i64 Q7, .int .i64 Q8, .int .i64 Q9, .int .i64 Q10, .int .i64 Q11, .int .i64 Q12, .int .i64 Q13, .int .i64 Q14, .int .i64 Q15, .int .i64 Q16, .int .i64 Q17, .int .i64 Q18, .int .i64 Q19, .int .i64 Q20, .int .i64 Q21, .int .i64 Q22, .int .i64 Q23, .int .i64 Q24, .int .i64 Q25, .int .i64 Q26, .int .i64 Q27, .int .i64 Q28, .int .i64 Q29, .int .i64 Q30, .int .i64 Q31, .int .i64 Q32, .int .i64 Q33, .int .i64 Q34, .bool Q35, .sl 1 0 7 (List.length l1) none],Blk.vec El.span l3 true]}
def xf (l0:List (Int)) (l1:List (ag)) (l3:List (Span)) (Q0 Q1 Q2 Q4 Q5 Q6 Q7 Q8 Q9 Q10 Q11 Q12 Q13 Q14 Q15 Q16 Q17 Q18 Q19 Q20 Q21 Q22 Q23 Q24 Q25 Q26 Q27 Q28 Q29 Q30 Q31 Q32 Q33 Q34:Int) (Q35:Bool):St (X:=els):=({tm:=[.any, .any, .any, .any, .any, .any, .any, .is (.sl 3 0 4 (List.length l3) none), .any, .any, .any, .any, .any, .any, .any, .any, .any, .any, .any, .any, .any, .any, .any, .any, .any, .any, .any, .any, .any, .any, .any, .any, .any, .any, .any, .any, .any, .any, .any, .any],hp:=[Blk.vec El.int l0 false,Blk.vec El.aW l1 false, .raw [.int .i64 Q0, .int .i64 Q1, .int .i64 Q2, .sl 0 0 1 (List.length l0) none, .int .i64 Q4, .int .i64 Q5, .int .i64 Q6, .int .i64 Q7, .int .i64 Q8, .int .i64 Q9, .int .i64 Q10, .int .i64 Q11, .int .i64 Q12, .int .i64 Q13, .int .i64 Q14, .int .i64 Q15, .int .i64 Q16, .int .i64 Q17, .int .i64 Q18, .int .i64 Q19, .int .i64 Q20, .int .i64 Q21, .int .i64 Q22, .int .i64 Q23, .int .i64 Q24, .int .i64 Q25, .int .i64 Q26, .int .i64 Q27, .int .i64 Q28, .int .i64 Q29, .int .i64 Q30, .int .i64 Q31, .int .i64 Q32, .int .i64 Q33, .int .i64 Q34, .bool Q35, .sl 1 0 7 (List.length l1) none],Blk.vec El.span l3 true]}:St (X:=els))
noncomputable def LP:Code:=((aM [false,true,false,true,true] (Tryz.f17.body.getD .skip)).getD .skip|>fun c=>match c with| .loop c=>c|c=>c)
noncomputable def FH (F d n:Nat) (s:St (X:=els)):Option (Ex×St (X:=els)):=iter none (fun s' K'=>exec J9 none (bU J9 none F d) F 17 116 LP s' (aU none BM K')) n s (fun e s=>some (e,b8 Gu s))
noncomputable def H7:List LV→List (Blk (X:=els))→List SV→cb
 | [⟨El.int,l0⟩,⟨El.aW,l1⟩,⟨El.span,l3⟩],[],xs=>aa xs fun Q0 xs=>aa xs fun Q1 xs=>aa xs fun Q2 xs=>aa xs fun Q4 xs=>aa xs fun Q5 xs=>aa xs fun Q6 xs=>aa xs fun Q7 xs=>aa xs fun Q8 xs=>aa xs fun Q9 xs=>aa xs fun Q10 xs=>aa xs fun Q11 xs=>aa xs fun Q12 xs=>aa xs fun Q13 xs=>aa xs fun Q14 xs=>aa xs fun Q15 xs=>aa xs fun Q16 xs=>aa xs fun Q17 xs=>aa xs fun Q18 xs=>aa xs fun Q19 xs=>aa xs fun Q20 xs=>aa xs fun Q21 xs=>aa xs fun Q22 xs=>aa xs fun Q23 xs=>aa xs fun Q24 xs=>aa xs fun Q25 xs=>aa xs fun Q26 xs=>aa xs fun Q27 xs=>aa xs fun Q28 xs=>aa xs fun Q29 xs=>aa xs fun Q30 xs=>aa xs fun Q31 xs=>aa xs fun Q32 xs=>aa xs fun Q33 xs=>aa xs fun Q34 xs=>gP xs fun Q35 xs=>aa xs fun v2 xs=>aa xs fun v8 xs=>cp xs (some (decide (l0.length≤1048576)&&(decide (l1.length≤1000)&&(l3.length==0&&(eu v8 v2&&af (⟨Q0,Q1,Q2,l0,⟨Q4,Q5,Q6,Q7,Q8,Q9,Q10⟩,Q11,Q12,⟨Q13,Q14,⟨Q15,Q16,Q17,Q18⟩,⟨Q19,Q20,Q21,Q22⟩⟩,⟨Q23,Q24,Q25,Q26,Q27,Q28,Q29,Q30,Q31,Q32,Q33,Q34⟩,Q35,l1⟩:Config)==0))),[], .exit 0,(xf l0 l1 (dH (⟨Q0,Q1,Q2,l0,⟨Q4,Q5,Q6,Q7,Q8,Q9,Q10⟩,Q11,Q12,⟨Q13,Q14,⟨Q15,Q16,Q17,Q18⟩,⟨Q19,Q20,Q21,Q22⟩⟩,⟨Q23,Q24,Q25,Q26,Q27,Q28,Q29,Q30,Q31,Q32,Q33,Q34⟩,Q35,l1⟩:Config) (v2-v8+1).toNat v8) Q0 Q1 Q2 Q4 Q5 Q6 Q7 Q8 Q9 Q10 Q11 Q12 Q13 Q14 Q15 Q16 Q17 Q18 Q19 Q20 Q21 Q22 Q23 Q24 Q25 Q26 Q27 Q28 Q29 Q30 Q31 Q32 Q33 Q34 Q35)))
 |_,_,_=>none
noncomputable def Pw:Cfg (X:=els):={J9 with lp:=(17,58,{keep:=tH,m:=3,mv:=BM.mv,ctx:=0,con:=some ((F8).con H7)})::J9.lp}
noncomputable def gG:=(Sig.cons true bF (Sig.cons false (Dat.ah (Cel.int .i64)) (Sig.cons false (Dat.ah (Cel.int .i64)) Sig.nil)))
noncomputable def gJ:=(Out.one (Own.sl (.span:El)))
noncomputable def Kc:Cfg (X:=els):={Pw with H:=(17,(gG).fU gJ (fun x=>(cH x.1 x.2.1 x.2.2.1)) (fun x=>oL x.1 x.2.1 x.2.2.1))::Pw.H}
def GN:Pat (X:=els):={tm:=[(.is (.slW 0 4)),(.is (.slW 1 4)), .any, .any, .any,(.is (.int .i64)), .any, .any, .any, .any, .any, .any, .any, .any, .any, .any, .any, .any, .any, .any, .any, .any, .any, .any, .any, .any],hp:=[(.vec (.span:El) false),(.vec (.span:El) false)]}
def ug:List Nat:=[0,1,5]
def Gl:List Nat:=[4]
noncomputable def BU:bA (X:=els):={keep:=ug,m:=2,mv:=[]}
def Cy (l0 l1:List (Span)) (v5:Int):St (X:=els):={tm:=[.is (.sl 0 0 4 (List.length l0) none), .is (.sl 1 0 4 (List.length l1) none), .any, .any, .any, .is (.int .i64 v5), .any, .any, .any, .any, .any, .any, .any, .any, .any, .any, .any, .any, .any, .any, .any, .any, .any, .any, .any, .any],hp:=[Blk.vec El.span l0 false,Blk.vec El.span l1 false]}
def xn (l0 l1:List (Span)):St (X:=els):=({tm:=[.any, .any, .any, .any, .is (.bool false), .any, .any, .any, .any, .any, .any, .any, .any, .any, .any, .any, .any, .any, .any, .any, .any, .any, .any, .any, .any, .any],hp:=[Blk.vec El.span l0 false,Blk.vec El.span l1 false]}:St (X:=els))
def xY (l0 l1:List (Span)):St (X:=els):=({tm:=[.any, .any, .any, .any, .any, .any, .any, .any, .any, .any, .any, .any, .any, .any, .any, .any, .any, .any, .any, .any, .any, .any, .any, .any, .any, .any],hp:=[Blk.vec El.span l0 false,Blk.vec El.span l1 false]}:St (X:=els))
noncomputable def KI:Code:=((aM [false,true,false,true,true] (Tryz.f16.body.getD .skip)).getD .skip|>fun c=>match c with| .loop c=>c|c=>c)
noncomputable def FQ (F d n:Nat) (s:St (X:=els)):Option (Ex×St (X:=els)):=iter none (fun s' K'=>exec Kc none (bU Kc none F d) F 16 116 KI s' (aU none BU K')) n s (fun e s=>some (e,b8 Gl s))
noncomputable def Gp:List LV→List (Blk (X:=els))→List SV→cb
 | [⟨El.span,l0⟩,⟨El.span,l1⟩],[],xs=>aa xs fun v5 xs=>cp xs (some (decide (l0.length≤1048576)&&(l0.length==l1.length&&v5==0),[(dB l0 l1, .exit 0,(xY l0 l1))], .ret,(xn l0 l1)))
 |_,_,_=>none
noncomputable def P7:Cfg (X:=els):={Kc with lp:=(16,58,{keep:=ug,m:=2,mv:=BU.mv,ctx:=0,con:=some ((GN).con Gp)})::Kc.lp}
noncomputable def iU:=(Sig.cons false (Dat.sl jc (.span:El)) (Sig.cons false (Dat.sl jc (.span:El)) Sig.nil))
noncomputable def iu:=Res.bool
noncomputable def KT:Cfg (X:=els):={P7 with E:=(16,(iU).con iu (fun x=>(dB x.1 x.2.1)) (fun x=>eY x.1 x.2.1))::P7.E}
def GA:Pat (X:=els):={tm:=[(.is (.slW 0 4)),(.is (.int .i64)),(.is (.int .i64)), .any, .any, .any, .any,(.is (.slW 1 4)),(.is (.int .i64)), .any, .any, .any, .any, .any, .any, .any, .any, .any, .any, .any, .any, .any, .any, .any, .any, .any, .any, .any, .any, .any, .any, .any, .any, .any, .any, .any, .any, .any, .any, .any, .any, .any],hp:=[(.vec (.span:El) false),(.vec (.span:El) true)]}
def tM:List Nat:=[0,1,2,7,8]
def Gs:List Nat:=[6,7]
noncomputable def BW:bA (X:=els):={keep:=tM,m:=1,mv:=[(.slot 7,(.span:El))]}
def kJ (l0 l1:List (Span)) (v1 v2 v8:Int):St (X:=els):={tm:=[.is (.sl 0 0 4 (List.length l0) none), .is (.int .i64 v1), .is (.int .i64 v2), .any, .any, .any, .any, .is (.sl 1 0 4 (List.length l1) none), .is (.int .i64 v8), .any, .any, .any, .any, .any, .any, .any, .any, .any, .any, .any, .any, .any, .any, .any, .any, .any, .any, .any, .any, .any, .any, .any, .any, .any, .any, .any, .any, .any, .any, .any, .any, .any],hp:=[Blk.vec El.span l0 false,Blk.vec El.span l1 true]}
def yu (l0 l1:List (Span)):St (X:=els):=({tm:=[.any, .any, .any, .any, .any, .any, .any, .is (.sl 1 0 4 (List.length l1) none), .any, .any, .any, .any, .any, .any, .any, .any, .any, .any, .any, .any, .any, .any, .any, .any, .any, .any, .any, .any, .any, .any, .any, .any, .any, .any, .any, .any, .any, .any, .any, .any, .any, .any],hp:=[Blk.vec El.span l0 false,Blk.vec El.span l1 true]}:St (X:=els))
noncomputable def K5:Code:=((aM [false,true,false,true,true] (Tryz.f38.body.getD .skip)).getD .skip|>fun c=>match c with| .loop c=>c|c=>c)
noncomputable def mj (F d n:Nat) (s:St (X:=els)):Option (Ex×St (X:=els)):=iter none (fun s' K'=>exec KT none (bU KT none F d) F 38 116 K5 s' (aU none BW K')) n s (fun e s=>some (e,b8 Gs s))
noncomputable def GX:List LV→List (Blk (X:=els))→List SV→cb
 | [⟨El.span,l0⟩,⟨El.span,l1⟩],[],xs=>aa xs fun v1 xs=>aa xs fun v2 xs=>aa xs fun v8 xs=>cp xs (some (decide (l0.length≤1048576)&&(v8==0&&l1.length==0),[], .exit 0,(yu l0 (dY l0 v1 v2))))
 |_,_,_=>none
noncomputable def R8:Cfg (X:=els):={KT with lp:=(38,58,{keep:=tM,m:=1,mv:=BW.mv,ctx:=0,con:=some ((GA).con GX)})::KT.lp}
noncomputable def jy:=(Sig.cons false (Dat.sl jc (.span:El)) (Sig.cons false (Dat.ah (Cel.int .i64)) (Sig.cons false (Dat.ah (Cel.int .i64)) Sig.nil)))
noncomputable def jo:=(Out.one (Own.sl (.span:El)))
noncomputable def PI:Cfg (X:=els):={R8 with H:=(38,(jy).fU jo (fun x=>(dY x.1 x.2.1 x.2.2.1)) (fun x=>dS x.1 x.2.1 x.2.2.1))::R8.H}
noncomputable def hZ:=(Sig.cons false (Dat.ah (Cel.int .i64)) (Sig.cons false (Dat.ah (Cel.int .i64)) Sig.nil))
noncomputable def mI:=Res.bool
noncomputable def PD:Cfg (X:=els):={PI with E:=(15,(hZ).con mI (fun x=>(fG x.1 x.2.1)) (fun _=>true))::PI.E}
noncomputable def jE:=(Sig.cons true bF (Sig.cons false (Dat.ah (Cel.int .i64)) Sig.nil))
noncomputable def jB:=(Out.one (Own.sl (.span:El)))
noncomputable def S3:Cfg (X:=els):={PD with H:=(18,(jE).fU jB (fun x=>(iX x.1 x.2.1)) (fun x=>sw x.1 x.2.1))::PD.H}
noncomputable def cj:=(Sig.cons true bF (Sig.cons false (Dat.ah (Cel.int .i64)) (Sig.cons false (Dat.ah (Cel.int .i64)) Sig.nil)))
end Go.Proofs.YtfhepbbkggdlcaaGreatDoor.Px.PxT
