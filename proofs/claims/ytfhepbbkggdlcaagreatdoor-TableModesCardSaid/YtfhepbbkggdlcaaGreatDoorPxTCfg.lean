/- The contracts of a seat's functions. -/
import Derived.Test.YtfhepbbkggdlcaaGreatDoorPxTTypes
import Derived.Test.YtfhepbbkggdlcaaGreatDoorPxSpecConfig
import Derived.Test.YtfhepbbkggdlcaaGreatDoorPxSpecGreg
import Derived.Test.YtfhepbbkggdlcaaGreatDoorPxSpecSpan
set_option linter.unusedVariables false
set_option linter.unusedSimpArgs false
namespace Go.Proofs.YtfhepbbkggdlcaaGreatDoor.Px.PxT
open Go Go.Proofs
noncomputable def uZ:=(Sig.cons false (Dat.ah (Cel.int .i64)) (Sig.cons false (Dat.ah (Cel.int .i64)) (Sig.cons false (Dat.ah (Cel.int .i64)) Sig.nil)))
noncomputable def uP:=Res.bool
noncomputable def k1:Cfg (X:=els):={k0 with E:=(83,(uZ).con uP (fun x=>(inB x.1 x.2.1 x.2.2.1)) (fun _=>true))::k0.E}
noncomputable def qf:=(Sig.cons false (Dat.ah (Cel.int .i64)) (Sig.cons false (Dat.ah (Cel.int .i64)) (Sig.cons false (Dat.ah (Cel.int .i64)) Sig.nil)))
noncomputable def pU:=Res.bool
noncomputable def k2:Cfg (X:=els):={k1 with E:=(89,(qf).con pU (fun x=>(inB x.1 x.2.1 x.2.2.1)) (fun _=>true))::k1.E}
noncomputable def wi:=(Sig.cons false (Dat.ah (Cel.int .i64)) (Sig.cons false (Dat.ah (Cel.int .i64)) Sig.nil))
noncomputable def DH:=(Res.qw (Res.int .i64) (Res.int .i64))
noncomputable def k3:Cfg (X:=els):={k2 with E:=(78,(wi).con DH (fun x=>(LK x.1 x.2.1)) (fun x=>bz x.1 x.2.1))::k2.E}
noncomputable def wg:=(Sig.cons false (Dat.ah (Cel.int .i64)) (Sig.cons false (Dat.ah (Cel.int .i64)) Sig.nil))
noncomputable def BS:=(Res.qw (Res.int .i64) (Res.int .i64))
noncomputable def k4:Cfg (X:=els):={k3 with E:=(128,(wg).con BS (fun x=>(Lz x.1 x.2.1)) (fun x=>bz x.1 x.2.1))::k3.E}
noncomputable def sI:=(Sig.cons false (Dat.ah (Cel.int .i64)) (Sig.cons false (Dat.ah (Cel.int .i64)) (Sig.cons false (Dat.ah (Cel.int .i64)) Sig.nil)))
noncomputable def zP:=(Res.qw (Res.int .i64) (Res.int .i64))
noncomputable def k5:Cfg (X:=els):={k4 with E:=(119,(sI).con zP (fun x=>(Ja x.1 x.2.1 x.2.2.1)) (fun x=>yW x.1 x.2.1 x.2.2.1))::k4.E}
noncomputable def rY:=(Sig.cons false (Dat.ah (Cel.int .i64)) Sig.nil)
noncomputable def rT:=Res.bool
noncomputable def k6:Cfg (X:=els):={k5 with E:=(87,(rY).con rT (fun x=>(dR x.1)) (fun _=>true))::k5.E}
noncomputable def sn:=(Sig.cons false (Dat.ah (Cel.int .i64)) (Sig.cons false (Dat.ah (Cel.int .i64)) Sig.nil))
noncomputable def sm:=(Res.int .i64)
noncomputable def k7:Cfg (X:=els):={k6 with E:=(54,(sn).con sm (fun x=>(ai x.1 x.2.1)) (fun _=>true))::k6.E}
noncomputable def pr:=(Sig.cons false (Dat.ah (Cel.int .i64)) Sig.nil)
noncomputable def xF:=(Res.agg UZ)
noncomputable def k8:Cfg (X:=els):={k7 with E:=(56,(pr).con xF (fun x=>(Rg x.1)) (fun _=>true))::k7.E}
noncomputable def nC:=(Sig.cons false (Dat.ah (Cel.int .i64)) Sig.nil)
noncomputable def nE:=(Res.int .i64)
noncomputable def k9:Cfg (X:=els):={k8 with E:=(55,(nC).con nE (fun x=>(aG x.1)) (fun x=>pV x.1))::k8.E}
noncomputable def vM:=(Sig.cons true (Dat.ah Ij) Sig.nil)
noncomputable def CE:=(Res.qw (Res.int .i64) (Res.int .i64))
noncomputable def k10:Cfg (X:=els):={k9 with E:=(25,(vM).con CE (fun x=>(tU x.1)) (fun _=>true))::k9.E}
noncomputable def zp:=(Sig.cons false (Dat.ah (Cel.int .i64)) Sig.nil)
noncomputable def EM:=(Res.qw (Res.agg Ij) (Res.int .i64))
noncomputable def k11:Cfg (X:=els):={k10 with E:=(79,(zp).con EM (fun x=>(ofG x.1)) (fun _=>true))::k10.E}
noncomputable def vd:=(Sig.cons false (Dat.ah (Cel.int .i64)) (Sig.cons false (Dat.ah (Cel.int .i64)) (Sig.cons false (Dat.ah (Cel.int .i64)) (Sig.cons false (Dat.ah (Cel.int .i64)) Sig.nil))))
noncomputable def B3:=(Res.qw (Res.int .i64) (Res.int .i64))
noncomputable def k12:Cfg (X:=els):={k11 with E:=(106,(vd).con B3 (fun x=>(kd x.1 x.2.1 x.2.2.1 x.2.2.2.1)) (fun _=>true))::k11.E}
noncomputable def pt:=(Sig.cons true (Dat.ah jE) Sig.nil)
noncomputable def oT:=(Res.int .i64)
noncomputable def k13:Cfg (X:=els):={k12 with E:=(51,(pt).con oT (fun x=>(ao x.1)) (fun _=>true))::k12.E}
noncomputable def sc:=(Sig.cons true (Dat.ah jE) (Sig.cons true (Dat.ah EN) (Sig.cons false (Dat.ah (Cel.int .i64)) Sig.nil)))
noncomputable def rZ:=(Res.int .i64)
noncomputable def k14:Cfg (X:=els):={k13 with E:=(84,(sc).con rZ (fun x=>(bU x.1 x.2.1 x.2.2.1)) (fun x=>dX x.1 x.2.1 x.2.2.1))::k13.E}
noncomputable def oW:=(Sig.cons true (Dat.ah jE) (Sig.cons false (Dat.ah (Cel.int .i64)) Sig.nil))
noncomputable def o7:=(Res.int .i64)
noncomputable def k15:Cfg (X:=els):={k14 with E:=(47,(oW).con o7 (fun x=>(bD x.1 x.2.1)) (fun x=>cP x.1 x.2.1))::k14.E}
noncomputable def j6:=(Sig.cons true (Dat.ah jE) (Sig.cons false (Dat.ah (Cel.int .i64)) (Sig.cons false (Dat.ah (Cel.int .i64)) Sig.nil)))
noncomputable def kf:=(Out.tup (tW.cons (Out.one (Own.sl (.int:El))) (tW.last (Out.one (Own.ah (Cel.int .i64))))))
noncomputable def k16:Cfg (X:=els):={k15 with H:=(53,(j6).gS kf (fun x=>(qd x.1 x.2.1 x.2.2.1)) (fun _=>true))::k15.H}
noncomputable def mn:=(Sig.cons false (Dat.ah (Cel.int .i64)) Sig.nil)
noncomputable def mj:=Res.bool
noncomputable def k17:Cfg (X:=els):={k16 with E:=(52,(mn).con mj (fun x=>(du x.1)) (fun _=>true))::k16.E}
def Ft:Pat (X:=els):={tm:=[.any, .any, .any,(.is (.lit (AV.ptr 0 0))), .any, .any, .any, .any, .any,(.is (.int .i64)), .any, .any, .any, .any, .any, .any, .any, .any, .any, .any, .any, .any, .any, .any, .any, .any, .any, .any, .any, .any, .any, .any, .any, .any, .any, .any, .any, .any, .any, .any, .any, .any, .any, .any, .any, .any, .any, .any, .any],hp:=[(.raw [(.int .i64),(.int .i64),(.int .i64),(.int .i64),(.int .i64),(.int .i64),(.int .i64),(.int .i64),(.int .i64),(.int .i64)])]}
def tO:List Nat:=[3,9]
def G7:List Nat:=[6,7]
noncomputable def AW:bJ (X:=els):={keep:=tO,m:=1,mv:=[]}
def vL (O0 O1 O2 O3 O4 O5 O6 O7 O8 O9 v9:Int):St (X:=els):={tm:=[.any, .any, .any, .is (.ptr 0 0), .any, .any, .any, .any, .any, .is (.int .i64 v9), .any, .any, .any, .any, .any, .any, .any, .any, .any, .any, .any, .any, .any, .any, .any, .any, .any, .any, .any, .any, .any, .any, .any, .any, .any, .any, .any, .any, .any, .any, .any, .any, .any, .any, .any, .any, .any, .any, .any],hp:=[.raw [.int .i64 O0, .int .i64 O1, .int .i64 O2, .int .i64 O3, .int .i64 O4, .int .i64 O5, .int .i64 O6, .int .i64 O7, .int .i64 O8, .int .i64 O9]]}
def qO (O0 O1 O2 O3 O4 O5 O6 O7 O8 O9 v9:Int):St (X:=els):=({tm:=[.any, .any, .any, .any, .any, .any, .is (.int .i64 (List.getD (Prod.fst (qd {base:=O0,shift:=O1,on:={month:=O2,ck:=O3,weekday:=O4,minute:=O5},off:={month:=O6,ck:=O7,weekday:=O8,minute:=O9}} (IntKind.wrap IntKind.i64 (Int.tdiv v9 1440)) (Int.tmod v9 1440))) 0 0)), .is (.int .i64 0), .any, .any, .any, .any, .any, .any, .any, .any, .any, .any, .any, .any, .any, .any, .any, .any, .any, .any, .any, .any, .any, .any, .any, .any, .any, .any, .any, .any, .any, .any, .any, .any, .any, .any, .any, .any, .any, .any, .any, .any, .any],hp:=[.raw [.int .i64 O0, .int .i64 O1, .int .i64 O2, .int .i64 O3, .int .i64 O4, .int .i64 O5, .int .i64 O6, .int .i64 O7, .int .i64 O8, .int .i64 O9],Blk.vec El.int (Prod.fst (qd {base:=O0,shift:=O1,on:={month:=O2,ck:=O3,weekday:=O4,minute:=O5},off:={month:=O6,ck:=O7,weekday:=O8,minute:=O9}} (IntKind.wrap IntKind.i64 (Int.tdiv v9 1440)) (Int.tmod v9 1440))) true]}:St (X:=els))
noncomputable def JR:Code:=((aN [false,true,true,true,true] (Tryz.f24.body.getD .skip)).getD .skip|>fun c=>match c with| .loop c=>c|c=>c)
noncomputable def zA (F d n:Nat) (s:St (X:=els)):Option (Ex×St (X:=els)):=iter none (fun s' K'=>exec k17 none (bY k17 none F d) F 24 124 JR s' (aX none AW K')) n s (fun e s=>some (e,cf G7 s))
noncomputable def Ff:List LV→List (Blk (X:=els))→List SV→cm
 | [],[],xs=>aa xs fun O0 xs=>aa xs fun O1 xs=>aa xs fun O2 xs=>aa xs fun O3 xs=>aa xs fun O4 xs=>aa xs fun O5 xs=>aa xs fun O6 xs=>aa xs fun O7 xs=>aa xs fun O8 xs=>aa xs fun O9 xs=>aa xs fun v9 xs=>cy xs (some (ao (⟨O0,O1,⟨O2,O3,O4,O5⟩,⟨O6,O7,O8,O9⟩⟩:a8)==0&&(fp v9&&bX (gy (⟨O0,O1,⟨O2,O3,O4,O5⟩,⟨O6,O7,O8,O9⟩⟩:a8)) 200 v9),[], .ret,(qO O0 O1 O2 O3 O4 O5 O6 O7 O8 O9 (bp (gy (⟨O0,O1,⟨O2,O3,O4,O5⟩,⟨O6,O7,O8,O9⟩⟩:a8)) 200 v9))))
 |_,_,_=>none
noncomputable def k18:Cfg (X:=els):={k17 with lp:=(24,62,{keep:=tO,m:=1,mv:=AW.mv,ctx:=0,con:=some ((Ft).con Ff)})::k17.lp}
noncomputable def j9:=(Sig.cons true (Dat.ah jE) (Sig.cons false (Dat.ah (Cel.int .i64)) (Sig.cons false (Dat.ah (Cel.int .i64)) Sig.nil)))
noncomputable def pY:=(Res.qw (Res.int .i64) (Res.int .i64))
noncomputable def k19:Cfg (X:=els):={k18 with E:=(24,(j9).con pY (fun x=>(cL x.1 x.2.1 x.2.2.1)) (fun _=>true))::k18.E}
noncomputable def lr:=(Sig.cons false (Dat.ah (Cel.int .i64)) Sig.nil)
noncomputable def qV:=(Res.int .i64)
noncomputable def k20:Cfg (X:=els):={k19 with E:=(171,(lr).con qV (fun x=>(av x.1)) (fun x=>cR x.1))::k19.E}
noncomputable def ry:=(Sig.cons true bG (Sig.cons true (Dat.ah dw) (Sig.cons false (Dat.ah (Cel.int .i64)) (Sig.cons false (Dat.ah Cel.bool) Sig.nil))))
noncomputable def rC:=(Res.Fg (Res.int .i64) (Res.int .i64) Res.bool)
noncomputable def k21:Cfg (X:=els):={k20 with E:=(170,(ry).con rC (fun x=>(vF x.1 x.2.1 x.2.2.1 x.2.2.2.1)) (fun _=>true))::k20.E}
noncomputable def nd:=(Sig.cons false (Dat.ah Cel.bool) (Sig.cons false (Dat.ah (Cel.int .i64)) Sig.nil))
noncomputable def uT:=(Res.int .i64)
noncomputable def k22:Cfg (X:=els):={k21 with E:=(88,(nd).con uT (fun x=>(dD x.1 x.2.1)) (fun _=>true))::k21.E}
noncomputable def j7:=(Sig.cons true (Dat.ah dw) Sig.nil)
noncomputable def kp:=(Res.int .i64)
noncomputable def k23:Cfg (X:=els):={k22 with E:=(92,(j7).con kp (fun x=>(ak x.1)) (fun _=>true))::k22.E}
noncomputable def nu:=(Sig.cons true bG Sig.nil)
noncomputable def nB:=(Res.int .i64)
noncomputable def k24:Cfg (X:=els):={k23 with E:=(57,(nu).con nB (fun x=>(cC x.1)) (fun _=>true))::k23.E}
def BE:Pat (X:=els):={tm:=[.any,(.is (.lit (AV.ptr 2 0))), .any,(.is .bool), .any, .any, .any, .any, .any, .any, .any,(.is (.slW 0 1)),(.is (.int .i64)),(.is (.int .i64)), .any, .any, .any, .any, .any, .any, .any, .any, .any, .any, .any, .any, .any, .any, .any, .any, .any, .any, .any, .any, .any, .any, .any, .any, .any, .any, .any, .any, .any],hp:=[(.vec (.int:El) false),(.vec (.aV:El) false),(.raw [(.int .i64),(.int .i64),(.int .i64),(.slW 0 1),(.int .i64),(.int .i64),(.int .i64),(.int .i64),(.int .i64),(.int .i64),(.int .i64),(.int .i64),(.int .i64),(.int .i64),(.int .i64),(.int .i64),(.int .i64),(.int .i64),(.int .i64),(.int .i64),(.int .i64),(.int .i64),(.int .i64),(.int .i64),(.int .i64),(.int .i64),(.int .i64),(.int .i64),(.int .i64),(.int .i64),(.int .i64),(.int .i64),(.int .i64),(.int .i64),(.int .i64), .bool,(.slW 1 7)])]}
def oG:List Nat:=[1,3,11,12,13]
def Cd:List Nat:=[2,3]
noncomputable def xV:bJ (X:=els):={keep:=oG,m:=3,mv:=[]}
def w8 (l0:List (Int)) (l1:List (ag)) (Q0 Q1 Q2 Q4 Q5 Q6 Q7 Q8 Q9 Q10 Q11 Q12 Q13 Q14 Q15 Q16 Q17 Q18 Q19 Q20 Q21 Q22 Q23 Q24 Q25 Q26 Q27 Q28 Q29 Q30 Q31 Q32 Q33 Q34:Int) (Q35 v3:Bool) (v12 v13:Int):St (X:=els):={tm:=[.any, .is (.ptr 2 0), .any, .is (.bool v3), .any, .any, .any, .any, .any, .any, .any, .is (.sl 0 0 1 (List.length l0) none), .is (.int .i64 v12), .is (.int .i64 v13), .any, .any, .any, .any, .any, .any, .any, .any, .any, .any, .any, .any, .any, .any, .any, .any, .any, .any, .any, .any, .any, .any, .any, .any, .any, .any, .any, .any, .any],hp:=[Blk.vec El.int l0 false,Blk.vec El.aV l1 false, .raw [.int .i64 Q0, .int .i64 Q1, .int .i64 Q2, .sl 0 0 1 (List.length l0) none, .int .i64 Q4, .int .i64 Q5, .int .i64 Q6, .int .i64 Q7, .int .i64 Q8, .int .i64 Q9, .int .i64 Q10, .int .i64 Q11, .int .i64 Q12, .int .i64 Q13, .int .i64 Q14, .int .i64 Q15, .int .i64 Q16, .int .i64 Q17, .int .i64 Q18, .int .i64 Q19, .int .i64 Q20, .int .i64 Q21, .int .i64 Q22, .int .i64 Q23, .int .i64 Q24, .int .i64 Q25, .int .i64 Q26, .int .i64 Q27, .int .i64 Q28, .int .i64 Q29, .int .i64 Q30, .int .i64 Q31, .int .i64 Q32, .int .i64 Q33, .int .i64 Q34, .bool Q35, .sl 1 0 7 (List.length l1) none]]}
def sS (l0:List (Int)) (l1:List (ag)) (Q0 Q1 Q2 Q4 Q5 Q6 Q7 Q8 Q9 Q10 Q11 Q12 Q13 Q14 Q15 Q16 Q17 Q18 Q19 Q20 Q21 Q22 Q23 Q24 Q25 Q26 Q27 Q28 Q29 Q30 Q31 Q32 Q33 Q34:Int) (Q35 v3:Bool):St (X:=els):=({tm:=[.any, .any, .any, .is (.bool v3), .any, .any, .any, .any, .any, .any, .any, .any, .any, .any, .any, .any, .any, .any, .any, .any, .any, .any, .any, .any, .any, .any, .any, .any, .any, .any, .any, .any, .any, .any, .any, .any, .any, .any, .any, .any, .any, .any, .any],hp:=[Blk.vec El.int l0 false,Blk.vec El.aV l1 false, .raw [.int .i64 Q0, .int .i64 Q1, .int .i64 Q2, .sl 0 0 1 (List.length l0) none, .int .i64 Q4, .int .i64 Q5, .int .i64 Q6, .int .i64 Q7, .int .i64 Q8, .int .i64 Q9, .int .i64 Q10, .int .i64 Q11, .int .i64 Q12, .int .i64 Q13, .int .i64 Q14, .int .i64 Q15, .int .i64 Q16, .int .i64 Q17, .int .i64 Q18, .int .i64 Q19, .int .i64 Q20, .int .i64 Q21, .int .i64 Q22, .int .i64 Q23, .int .i64 Q24, .int .i64 Q25, .int .i64 Q26, .int .i64 Q27, .int .i64 Q28, .int .i64 Q29, .int .i64 Q30, .int .i64 Q31, .int .i64 Q32, .int .i64 Q33, .int .i64 Q34, .bool Q35, .sl 1 0 7 (List.length l1) none]]}:St (X:=els))
noncomputable def FJ:Code:=((aN [false,true,false,true,true] (Tryz.f58.body.getD .skip)).getD .skip|>fun c=>match c with| .loop c=>c|c=>c)
noncomputable def BD (F d n:Nat) (s:St (X:=els)):Option (Ex×St (X:=els)):=iter none (fun s' K'=>exec k24 none (bY k24 none F d) F 58 116 FJ s' (aX none xV K')) n s (fun e s=>some (e,cf Cd s))
noncomputable def Bu:List LV→List (Blk (X:=els))→List SV→cm
 | [⟨El.int,l0⟩,⟨El.aV,l1⟩],[],xs=>aa xs fun Q0 xs=>aa xs fun Q1 xs=>aa xs fun Q2 xs=>aa xs fun Q4 xs=>aa xs fun Q5 xs=>aa xs fun Q6 xs=>aa xs fun Q7 xs=>aa xs fun Q8 xs=>aa xs fun Q9 xs=>aa xs fun Q10 xs=>aa xs fun Q11 xs=>aa xs fun Q12 xs=>aa xs fun Q13 xs=>aa xs fun Q14 xs=>aa xs fun Q15 xs=>aa xs fun Q16 xs=>aa xs fun Q17 xs=>aa xs fun Q18 xs=>aa xs fun Q19 xs=>aa xs fun Q20 xs=>aa xs fun Q21 xs=>aa xs fun Q22 xs=>aa xs fun Q23 xs=>aa xs fun Q24 xs=>aa xs fun Q25 xs=>aa xs fun Q26 xs=>aa xs fun Q27 xs=>aa xs fun Q28 xs=>aa xs fun Q29 xs=>aa xs fun Q30 xs=>aa xs fun Q31 xs=>aa xs fun Q32 xs=>aa xs fun Q33 xs=>aa xs fun Q34 xs=>gJ xs fun Q35 xs=>gJ xs fun v3 xs=>aa xs fun v12 xs=>aa xs fun v13 xs=>cy xs (some (decide (l0.length≤1048576)&&(v12==(l0.length:Int)&&v13==0),[], .exit 0,(sS l0 l1 Q0 Q1 Q2 Q4 Q5 Q6 Q7 Q8 Q9 Q10 Q11 Q12 Q13 Q14 Q15 Q16 Q17 Q18 Q19 Q20 Q21 Q22 Q23 Q24 Q25 Q26 Q27 Q28 Q29 Q30 Q31 Q32 Q33 Q34 Q35 (v3&&GZ (IntKind.i64.wrap (Q0-1)) none l0))))
 |_,_,_=>none
noncomputable def k25:Cfg (X:=els):={k24 with lp:=(58,58,{keep:=oG,m:=3,mv:=xV.mv,ctx:=0,con:=some ((BE).con Bu)})::k24.lp}
noncomputable def lU:=(Sig.cons true bG Sig.nil)
noncomputable def lM:=(Res.int .i64)
noncomputable def k26:Cfg (X:=els):={k25 with E:=(58,(lU).con lM (fun x=>(cA x.1)) (fun x=>aY x.1))::k25.E}
noncomputable def lB:=(Sig.cons true bG Sig.nil)
noncomputable def lH:=(Res.int .i64)
noncomputable def k27:Cfg (X:=els):={k26 with E:=(59,(lB).con lH (fun x=>(bW x.1)) (fun _=>true))::k26.E}
noncomputable def lY:=(Sig.cons true (Dat.ah H7) Sig.nil)
noncomputable def lI:=(Res.int .i64)
noncomputable def k28:Cfg (X:=els):={k27 with E:=(62,(lY).con lI (fun x=>(ax x.1)) (fun _=>true))::k27.E}
def Hz:Pat (X:=els):={tm:=[(.is (.slW 1 7)),(.is (.lit (AV.fn 91 [] []))), .any, .any, .any, .any, .any,(.is (.int .i64)),(.is (.int .i64)), .any, .any, .any, .any, .any, .any, .any, .any, .any, .any],hp:=[(.vec (.int:El) false),(.vec (.aV:El) false),(.raw [(.int .i64),(.int .i64),(.int .i64),(.slW 0 1),(.int .i64),(.int .i64),(.int .i64),(.int .i64),(.int .i64),(.int .i64),(.int .i64),(.int .i64),(.int .i64),(.int .i64),(.int .i64),(.int .i64),(.int .i64),(.int .i64),(.int .i64),(.int .i64),(.int .i64),(.int .i64),(.int .i64),(.int .i64),(.int .i64),(.int .i64),(.int .i64),(.int .i64),(.int .i64),(.int .i64),(.int .i64),(.int .i64),(.int .i64),(.int .i64),(.int .i64), .bool,(.slW 1 7)])]}
def tH:List Nat:=[0,1,7,8]
def Ho:List Nat:=[4]
noncomputable def Bm:bJ (X:=els):={keep:=tH,m:=3,mv:=[]}
def Dj (l0:List (Int)) (l1:List (ag)) (Q0 Q1 Q2 Q4 Q5 Q6 Q7 Q8 Q9 Q10 Q11 Q12 Q13 Q14 Q15 Q16 Q17 Q18 Q19 Q20 Q21 Q22 Q23 Q24 Q25 Q26 Q27 Q28 Q29 Q30 Q31 Q32 Q33 Q34:Int) (Q35:Bool) (v7 v8:Int):St (X:=els):={tm:=[.is (.sl 1 0 7 (List.length l1) none), .is (AV.fn 91 [] []), .any, .any, .any, .any, .any, .is (.int .i64 v7), .is (.int .i64 v8), .any, .any, .any, .any, .any, .any, .any, .any, .any, .any],hp:=[Blk.vec El.int l0 false,Blk.vec El.aV l1 false, .raw [.int .i64 Q0, .int .i64 Q1, .int .i64 Q2, .sl 0 0 1 (List.length l0) none, .int .i64 Q4, .int .i64 Q5, .int .i64 Q6, .int .i64 Q7, .int .i64 Q8, .int .i64 Q9, .int .i64 Q10, .int .i64 Q11, .int .i64 Q12, .int .i64 Q13, .int .i64 Q14, .int .i64 Q15, .int .i64 Q16, .int .i64 Q17, .int .i64 Q18, .int .i64 Q19, .int .i64 Q20, .int .i64 Q21, .int .i64 Q22, .int .i64 Q23, .int .i64 Q24, .int .i64 Q25, .int .i64 Q26, .int .i64 Q27, .int .i64 Q28, .int .i64 Q29, .int .i64 Q30, .int .i64 Q31, .int .i64 Q32, .int .i64 Q33, .int .i64 Q34, .bool Q35, .sl 1 0 7 (List.length l1) none]]}
def ym (l0:List (Int)) (l1:List (ag)) (Q0 Q1 Q2 Q4 Q5 Q6 Q7 Q8 Q9 Q10 Q11 Q12 Q13 Q14 Q15 Q16 Q17 Q18 Q19 Q20 Q21 Q22 Q23 Q24 Q25 Q26 Q27 Q28 Q29 Q30 Q31 Q32 Q33 Q34:Int) (Q35:Bool) (v8:Int):St (X:=els):=({tm:=[.any, .any, .any, .any, .is (.int .i64 v8), .any, .any, .any, .any, .any, .any, .any, .any, .any, .any, .any, .any, .any, .any],hp:=[Blk.vec El.int l0 false,Blk.vec El.aV l1 false, .raw [.int .i64 Q0, .int .i64 Q1, .int .i64 Q2, .sl 0 0 1 (List.length l0) none, .int .i64 Q4, .int .i64 Q5, .int .i64 Q6, .int .i64 Q7, .int .i64 Q8, .int .i64 Q9, .int .i64 Q10, .int .i64 Q11, .int .i64 Q12, .int .i64 Q13, .int .i64 Q14, .int .i64 Q15, .int .i64 Q16, .int .i64 Q17, .int .i64 Q18, .int .i64 Q19, .int .i64 Q20, .int .i64 Q21, .int .i64 Q22, .int .i64 Q23, .int .i64 Q24, .int .i64 Q25, .int .i64 Q26, .int .i64 Q27, .int .i64 Q28, .int .i64 Q29, .int .i64 Q30, .int .i64 Q31, .int .i64 Q32, .int .i64 Q33, .int .i64 Q34, .bool Q35, .sl 1 0 7 (List.length l1) none], .raw [.int .i64 (ag.kind (List.getD l1 (0+Int.toNat v8) {kind:=0,mode:=0,prio:=0,arg:=0,shift:=0,minute:=0,len:=0})), .int .i64 (ag.mode (List.getD l1 (0+Int.toNat v8) {kind:=0,mode:=0,prio:=0,arg:=0,shift:=0,minute:=0,len:=0})), .int .i64 (ag.prio (List.getD l1 (0+Int.toNat v8) {kind:=0,mode:=0,prio:=0,arg:=0,shift:=0,minute:=0,len:=0})), .int .i64 (ag.arg (List.getD l1 (0+Int.toNat v8) {kind:=0,mode:=0,prio:=0,arg:=0,shift:=0,minute:=0,len:=0})), .int .i64 (ag.shift (List.getD l1 (0+Int.toNat v8) {kind:=0,mode:=0,prio:=0,arg:=0,shift:=0,minute:=0,len:=0})), .int .i64 (ag.minute (List.getD l1 (0+Int.toNat v8) {kind:=0,mode:=0,prio:=0,arg:=0,shift:=0,minute:=0,len:=0})), .int .i64 (ag.len (List.getD l1 (0+Int.toNat v8) {kind:=0,mode:=0,prio:=0,arg:=0,shift:=0,minute:=0,len:=0}))]]}:St (X:=els))
def xe (l0:List (Int)) (l1:List (ag)) (Q0 Q1 Q2 Q4 Q5 Q6 Q7 Q8 Q9 Q10 Q11 Q12 Q13 Q14 Q15 Q16 Q17 Q18 Q19 Q20 Q21 Q22 Q23 Q24 Q25 Q26 Q27 Q28 Q29 Q30 Q31 Q32 Q33 Q34:Int) (Q35:Bool):St (X:=els):=({tm:=[.any, .any, .any, .any, .any, .any, .any, .any, .any, .any, .any, .any, .any, .any, .any, .any, .any, .any, .any],hp:=[Blk.vec El.int l0 false,Blk.vec El.aV l1 false, .raw [.int .i64 Q0, .int .i64 Q1, .int .i64 Q2, .sl 0 0 1 (List.length l0) none, .int .i64 Q4, .int .i64 Q5, .int .i64 Q6, .int .i64 Q7, .int .i64 Q8, .int .i64 Q9, .int .i64 Q10, .int .i64 Q11, .int .i64 Q12, .int .i64 Q13, .int .i64 Q14, .int .i64 Q15, .int .i64 Q16, .int .i64 Q17, .int .i64 Q18, .int .i64 Q19, .int .i64 Q20, .int .i64 Q21, .int .i64 Q22, .int .i64 Q23, .int .i64 Q24, .int .i64 Q25, .int .i64 Q26, .int .i64 Q27, .int .i64 Q28, .int .i64 Q29, .int .i64 Q30, .int .i64 Q31, .int .i64 Q32, .int .i64 Q33, .int .i64 Q34, .bool Q35, .sl 1 0 7 (List.length l1) none]]}:St (X:=els))
noncomputable def Ju:Code:=((aN [false,true,false,true] (Tryz.f108.body.getD .skip)).getD .skip|>fun c=>match c with| .loop c=>c|c=>c)
noncomputable def Hx (F d n:Nat) (s:St (X:=els)):Option (Ex×St (X:=els)):=iter none (fun s' K'=>exec k28 none (bY k28 none F d) F 108 52 Ju s' (aX none Bm K')) n s (fun e s=>some (e,cf Ho s))
noncomputable def Hi:List LV→List (Blk (X:=els))→List SV→cm
 | [⟨El.int,l0⟩,⟨El.aV,l1⟩],[],xs=>aa xs fun Q0 xs=>aa xs fun Q1 xs=>aa xs fun Q2 xs=>aa xs fun Q4 xs=>aa xs fun Q5 xs=>aa xs fun Q6 xs=>aa xs fun Q7 xs=>aa xs fun Q8 xs=>aa xs fun Q9 xs=>aa xs fun Q10 xs=>aa xs fun Q11 xs=>aa xs fun Q12 xs=>aa xs fun Q13 xs=>aa xs fun Q14 xs=>aa xs fun Q15 xs=>aa xs fun Q16 xs=>aa xs fun Q17 xs=>aa xs fun Q18 xs=>aa xs fun Q19 xs=>aa xs fun Q20 xs=>aa xs fun Q21 xs=>aa xs fun Q22 xs=>aa xs fun Q23 xs=>aa xs fun Q24 xs=>aa xs fun Q25 xs=>aa xs fun Q26 xs=>aa xs fun Q27 xs=>aa xs fun Q28 xs=>aa xs fun Q29 xs=>aa xs fun Q30 xs=>aa xs fun Q31 xs=>aa xs fun Q32 xs=>aa xs fun Q33 xs=>aa xs fun Q34 xs=>gJ xs fun Q35 xs=>aa xs fun v7 xs=>aa xs fun v8 xs=>cy xs (some (decide (l1.length≤1048576)&&(v7==(l1.length:Int)&&v8==0),[(l1.all bj, .exit 0,(xe l0 l1 Q0 Q1 Q2 Q4 Q5 Q6 Q7 Q8 Q9 Q10 Q11 Q12 Q13 Q14 Q15 Q16 Q17 Q18 Q19 Q20 Q21 Q22 Q23 Q24 Q25 Q26 Q27 Q28 Q29 Q30 Q31 Q32 Q33 Q34 Q35))], .ret,(ym l0 l1 Q0 Q1 Q2 Q4 Q5 Q6 Q7 Q8 Q9 Q10 Q11 Q12 Q13 Q14 Q15 Q16 Q17 Q18 Q19 Q20 Q21 Q22 Q23 Q24 Q25 Q26 Q27 Q28 Q29 Q30 Q31 Q32 Q33 Q34 Q35 (C7 l1))))
 |_,_,_=>none
noncomputable def k29:Cfg (X:=els):={k28 with lp:=(108,26,{keep:=tH,m:=3,mv:=Bm.mv,ctx:=0,con:=some ((Hz).con Hi)})::k28.lp}
noncomputable def jd:=(Sig.cons true bG Sig.nil)
noncomputable def jq:=(Res.int .i64)
noncomputable def k30:Cfg (X:=els):={k29 with E:=(63,(jd).con jq (fun x=>(bg x.1)) (fun x=>aY x.1))::k29.E}
noncomputable def ln:=(Sig.cons true bG Sig.nil)
noncomputable def lz:=(Res.int .i64)
noncomputable def k31:Cfg (X:=els):={k30 with E:=(27,(ln).con lz (fun x=>(af x.1)) (fun x=>aY x.1))::k30.E}
noncomputable def jv:=(Sig.cons true bG Sig.nil)
noncomputable def jb:=Res.bool
noncomputable def k32:Cfg (X:=els):={k31 with E:=(9,(jv).con jb (fun x=>(C2 x.1)) (fun _=>true))::k31.E}
noncomputable def je:=(Sig.cons true bG Sig.nil)
noncomputable def jt:=(Out.agg SC)
noncomputable def k33:Cfg (X:=els):={k32 with H:=(12,(je).gS jt (fun x=>(Oa x.1)) (fun x=>aY x.1))::k32.H}
noncomputable def pj:=(Sig.cons false (Dat.ah (Cel.int .i64)) Sig.nil)
noncomputable def xt:=Res.bool
noncomputable def k34:Cfg (X:=els):={k33 with E:=(186,(pj).con xt (fun x=>(db x.1)) (fun x=>cR x.1))::k33.E}
noncomputable def fj:=(Sig.cons false (Dat.ah (Cel.int .i64)) Sig.nil)
noncomputable def kB:=(Res.int .i64)
noncomputable def k35:Cfg (X:=els):={k34 with E:=(189,(fj).con kB (fun x=>(bf x.1)) (fun x=>bO x.1))::k34.E}
noncomputable def gU:=(Sig.cons false (Dat.ah (Cel.int .i64)) Sig.nil)
noncomputable def mO:=(Res.qw (Res.int .i64) (Res.int .i64))
noncomputable def k36:Cfg (X:=els):={k35 with E:=(187,(gU).con mO (fun x=>(nL x.1)) (fun x=>bO x.1))::k35.E}
noncomputable def gh:=(Sig.cons false (Dat.ah (Cel.int .i64)) Sig.nil)
noncomputable def gF:=(Res.int .i64)
noncomputable def k37:Cfg (X:=els):={k36 with E:=(188,(gh).con gF (fun x=>(fB x.1)) (fun x=>bO x.1))::k36.E}
noncomputable def gA:=(Sig.cons false (Dat.ah (Cel.int .i64)) Sig.nil)
noncomputable def lx:=(Res.int .i64)
noncomputable def k38:Cfg (X:=els):={k37 with E:=(183,(gA).con lx (fun x=>(aP x.1)) (fun x=>bO x.1))::k37.E}
noncomputable def fC:=(Sig.cons false (Dat.ah (Cel.int .i64)) Sig.nil)
noncomputable def kE:=(Res.int .i64)
noncomputable def k39:Cfg (X:=els):={k38 with E:=(184,(fC).con kE (fun x=>(bt x.1)) (fun x=>kg x.1))::k38.E}
noncomputable def jU:=(Sig.cons false (Dat.ah (Cel.int .i64)) Sig.nil)
noncomputable def qb:=(Res.qw (Res.int .i64) (Res.int .i64))
noncomputable def k40:Cfg (X:=els):={k39 with E:=(177,(jU).con qb (fun x=>(c9 x.1)) (fun _=>true))::k39.E}
noncomputable def sD:=(Sig.cons false (Dat.ah (Cel.int .i64)) Sig.nil)
noncomputable def Ac:=(Res.qw (Res.int .i64) (Res.int .i64))
noncomputable def k41:Cfg (X:=els):={k40 with E:=(178,(sD).con Ac (fun x=>(Aq x.1)) (fun _=>true))::k40.E}
noncomputable def nx:=(Sig.cons false (Dat.ah (Cel.int .i64)) (Sig.cons false (Dat.ah (Cel.int .i64)) Sig.nil))
noncomputable def u0:=(Res.int .i64)
noncomputable def k42:Cfg (X:=els):={k41 with E:=(180,(nx).con u0 (fun x=>(dH x.1 x.2.1)) (fun _=>true))::k41.E}
def SA:Pat (X:=els):={tm:=[.any,(.is (.lit (AV.ptr 0 0))),(.is (.lit (AV.ptr 1 0))),(.is (.int .i64)), .any, .any, .any, .any, .any, .any,(.is (.lit (AV.ptr 2 0))), .any, .any, .any, .any, .any, .any, .any, .any, .any, .any, .any, .any, .any, .any, .any, .any, .any, .any, .any, .any, .any, .any, .any, .any, .any, .any, .any, .any, .any, .any, .any, .any, .any, .any, .any, .any, .any, .any, .any, .any, .any, .any, .any, .any, .any, .any, .any, .any, .any, .any, .any, .any, .any, .any, .any, .any, .any, .any, .any, .any, .any, .any, .any, .any, .any, .any, .any, .any, .any, .any, .any, .any, .any],hp:=[(.raw [(.int .i64)]),(.raw [(.int .i64),(.int .i64),(.int .i64)]),(.raw [(.int .i64)])]}
def Bz:List Nat:=[1,2,3,10]
def Pb:List Nat:=[1,2,3,10,11,15,16,67,68,69,70,71,72,73,74,75,76,77,78,79,80,81,82]
noncomputable def Lt:bJ (X:=els):={keep:=Bz,m:=3,mv:=[]}
def OP (O0 P0 P1 P2 Q0 v3:Int):St (X:=els):={tm:=[.any, .is (.ptr 0 0), .is (.ptr 1 0), .is (.int .i64 v3), .any, .any, .any, .any, .any, .any, .is (.ptr 2 0), .any, .any, .any, .any, .any, .any, .any, .any, .any, .any, .any, .any, .any, .any, .any, .any, .any, .any, .any, .any, .any, .any, .any, .any, .any, .any, .any, .any, .any, .any, .any, .any, .any, .any, .any, .any, .any, .any, .any, .any, .any, .any, .any, .any, .any, .any, .any, .any, .any, .any, .any, .any, .any, .any, .any, .any, .any, .any, .any, .any, .any, .any, .any, .any, .any, .any, .any, .any, .any, .any, .any, .any, .any],hp:=[.raw [.int .i64 O0], .raw [.int .i64 P0, .int .i64 P1, .int .i64 P2], .raw [.int .i64 Q0]]}
def FV (O0 P0 P1 P2 Q0 v3:Int):St (X:=els):=({tm:=[.any, .is (.ptr 0 0), .is (.ptr 1 0), .is (.int .i64 v3), .any, .any, .any, .any, .any, .any, .is (.ptr 2 0), .is (.int .i64 (Prod.fst (c9 Q0))), .any, .any, .any, .any, .any, .any, .any, .any, .any, .any, .any, .any, .any, .any, .any, .any, .any, .any, .any, .any, .any, .any, .any, .any, .any, .any, .any, .any, .any, .any, .any, .any, .any, .any, .any, .any, .any, .any, .any, .any, .any, .any, .any, .any, .any, .any, .any, .any, .any, .any, .any, .any, .any, .any, .any, .any, .any, .any, .any, .any, .any, .any, .any, .any, .any, .any, .any, .any, .any, .any, .any, .any],hp:=[.raw [.int .i64 O0], .raw [.int .i64 P0, .int .i64 P1, .int .i64 P2], .raw [.int .i64 Q0]]}:St (X:=els))
noncomputable def T9:Code:=((aN [false,false,true,true,true,true,true,true] (Tryz.f175.body.getD .skip)).getD .skip|>fun c=>match c with| .loop c=>c|c=>c)
noncomputable def Sw (F d n:Nat) (s:St (X:=els)):Option (Ex×St (X:=els)):=iter none (fun s' K'=>exec k42 none (bY k42 none F d) F 175 1016 T9 s' (aX none Lt K')) n s (fun e s=>some (e,cf Pb s))
noncomputable def R9:List LV→List (Blk (X:=els))→List SV→cm
 | [],[],xs=>aa xs fun O0 xs=>aa xs fun P0 xs=>aa xs fun P1 xs=>aa xs fun P2 xs=>aa xs fun Q0 xs=>aa xs fun v3 xs=>cy xs (some (eY O0 600 Q0,[], .exit 0,(FV O0 P0 P1 P2 (cO O0 600 Q0) v3)))
 |_,_,_=>none
noncomputable def k43:Cfg (X:=els):={k42 with lp:=(175,508,{keep:=Bz,m:=3,mv:=Lt.mv,ctx:=0,con:=some ((SA).con R9)})::k42.lp}
def Te:Pat (X:=els):={tm:=[(.is (.lit (AV.yld 7))),(.is (.lit (AV.ptr 5 0))),(.is (.lit (AV.ptr 4 0))), .any,(.is (.int .i64)), .any, .any, .any, .any, .any, .any, .any, .any, .any, .any, .any, .any, .any, .any],hp:=[(.raw [(.int .i64)]),(.raw [(.int .i64),(.int .i64),(.int .i64)]),(.raw [(.int .i64)]),(.raw [(.int .i64),(.int .i64),(.int .i64)]),(.raw [(.int .i64)]),(.raw [(.int .i64)]), .dfr,(.rcd 0 [.any,(.is (.lit (AV.ptr 0 0))), .any, .any, .any, .any, .any, .any, .any, .any,(.is (.lit (AV.ptr 2 0))), .any, .any, .any,(.is (.lit (AV.ptr 3 0))), .any, .any, .any, .any, .any, .any, .any, .any, .any, .any, .any, .any, .any, .any, .any, .any, .any, .any, .any, .any, .any, .any, .any, .any, .any, .any, .any, .any, .any, .any, .any, .any, .any, .any, .any, .any, .any, .any, .any, .any, .any, .any, .any, .any, .any, .any, .any, .any, .any, .any, .any,(.is (.lit (AV.fn 185 [] [AV.ptr 5 0,AV.ptr 4 0]))), .any, .any, .any, .any, .any, .any, .any, .any, .any, .any, .any, .any, .any, .any, .any, .any, .any])]}
def AM:List Nat:=[0,1,2,4]
def Qi:List Nat:=[]
noncomputable def LF:bJ (X:=els):={keep:=AM,m:=8,mv:=[]}
def Mp (O0 P0 P1 P2 Q0 R0 R1 R2 S0 U0 v4:Int):St (X:=els):={tm:=[.is (AV.yld 7), .is (.ptr 5 0), .is (.ptr 4 0), .any, .is (.int .i64 v4), .any, .any, .any, .any, .any, .any, .any, .any, .any, .any, .any, .any, .any, .any],hp:=[.raw [.int .i64 O0], .raw [.int .i64 P0, .int .i64 P1, .int .i64 P2], .raw [.int .i64 Q0], .raw [.int .i64 R0, .int .i64 R1, .int .i64 R2], .raw [.int .i64 S0], .raw [.int .i64 U0],Blk.dfr,Blk.rcd RS.ready 0 [.any, .is (.ptr 0 0), .any, .any, .any, .any, .any, .any, .any, .any, .is (.ptr 2 0), .any, .any, .any, .is (.ptr 3 0), .any, .any, .any, .any, .any, .any, .any, .any, .any, .any, .any, .any, .any, .any, .any, .any, .any, .any, .any, .any, .any, .any, .any, .any, .any, .any, .any, .any, .any, .any, .any, .any, .any, .any, .any, .any, .any, .any, .any, .any, .any, .any, .any, .any, .any, .any, .any, .any, .any, .any, .any, .is (AV.fn 185 [] [.ptr 5 0, .ptr 4 0]), .any, .any, .any, .any, .any, .any, .any, .any, .any, .any, .any, .any, .any, .any, .any, .any, .any]]}
def FN (O0 P0 P1 P2 Q0 R0 R1 R2 S0 U0:Int):St (X:=els):=({tm:=[.any, .any, .any, .any, .any, .any, .any, .any, .any, .any, .any, .any, .any, .any, .any, .any, .any, .any, .any],hp:=[.raw [.int .i64 O0], .raw [.int .i64 P0, .int .i64 P1, .int .i64 P2], .raw [.int .i64 Q0], .raw [.int .i64 R0, .int .i64 R1, .int .i64 R2], .raw [.int .i64 S0], .raw [.int .i64 U0],Blk.dfr,Blk.rcd (RS.done (Ex.exit 2)) 0 [.any, .is (.ptr 0 0), .any, .any, .any, .any, .any, .any, .any, .any, .is (.ptr 2 0), .any, .any, .any, .is (.ptr 3 0), .any, .any, .any, .any, .any, .any, .any, .any, .any, .any, .any, .any, .any, .any, .any, .any, .any, .any, .any, .any, .any, .any, .any, .any, .any, .any, .any, .any, .any, .any, .any, .any, .any, .any, .any, .any, .any, .any, .any, .any, .any, .any, .any, .any, .any, .any, .any, .any, .any, .any, .any, .is (AV.fn 185 [] [.ptr 5 0, .ptr 4 0]), .any, .any, .any, .any, .any, .any, .any, .any, .any, .any, .any, .any, .any, .any, .any, .any, .any]]}:St (X:=els))
def GG (O0 P0 P1 P2 Q0 R0 R1 R2 S0 U0:Int):St (X:=els):=({tm:=[.any, .any, .any, .any, .any, .any, .any, .any, .any, .any, .any, .any, .any, .any, .any, .any, .any, .any, .any],hp:=[.raw [.int .i64 O0], .raw [.int .i64 P0, .int .i64 P1, .int .i64 P2], .raw [.int .i64 Q0], .raw [.int .i64 R0, .int .i64 R1, .int .i64 R2], .raw [.int .i64 S0], .raw [.int .i64 U0],Blk.dfr,Blk.rcd RS.ready 0 [.any, .is (.ptr 0 0), .any, .any, .any, .any, .any, .any, .any, .any, .is (.ptr 2 0), .any, .any, .any, .is (.ptr 3 0), .any, .any, .any, .any, .any, .any, .any, .any, .any, .any, .any, .any, .any, .any, .any, .any, .any, .any, .any, .any, .any, .any, .any, .any, .any, .any, .any, .any, .any, .any, .any, .any, .any, .any, .any, .any, .any, .any, .any, .any, .any, .any, .any, .any, .any, .any, .any, .any, .any, .any, .any, .is (AV.fn 185 [] [.ptr 5 0, .ptr 4 0]), .any, .any, .any, .any, .any, .any, .any, .any, .any, .any, .any, .any, .any, .any, .any, .any, .any]]}:St (X:=els))
noncomputable def T0:Code:=((aN [false,true] (Tryz.f185.body.getD .skip)).getD .skip|>fun c=>match c with| .loop c=>c|c=>c)
noncomputable def QI (F d n:Nat) (s:St (X:=els)):Option (Ex×St (X:=els)):=iter none (fun s' K'=>exec k43 none (bY k43 none F d) F 185 12 T0 s' (aX none LF K')) n s (fun e s=>some (e,cf Qi s))
noncomputable def Tc:List LV→List (Blk (X:=els))→List SV→cm
 | [],[],xs=>aa xs fun O0 xs=>aa xs fun P0 xs=>aa xs fun P1 xs=>aa xs fun P2 xs=>aa xs fun Q0 xs=>aa xs fun R0 xs=>aa xs fun R1 xs=>aa xs fun R2 xs=>aa xs fun S0 xs=>aa xs fun U0 xs=>aa xs fun v4 xs=>cy xs (some (En O0 Q0 S0 v4 U0,[((dW O0 Q0 (14-v4).toNat v4 U0 R1 R2).1, .ret,(FN O0 P0 P1 P2 Q0 R0 (dW O0 Q0 (14-v4).toNat v4 U0 R1 R2).2.1 (dW O0 Q0 (14-v4).toNat v4 U0 R1 R2).2.2.1 S0 (dW O0 Q0 (14-v4).toNat v4 U0 R1 R2).2.2.2))], .exit 0,(GG O0 P0 P1 P2 Q0 R0 (dW O0 Q0 (14-v4).toNat v4 U0 R1 R2).2.1 (dW O0 Q0 (14-v4).toNat v4 U0 R1 R2).2.2.1 S0 (dW O0 Q0 (14-v4).toNat v4 U0 R1 R2).2.2.2)))
 |_,_,_=>none
noncomputable def k44:Cfg (X:=els):={k43 with lp:=(185,6,{keep:=AM,m:=8,mv:=LF.mv,ctx:=1,con:=some ((Te).con Tc)})::k43.lp}
noncomputable def sF:=(Sig.cons false (Dat.ah (Cel.int .i64)) Sig.nil)
noncomputable def zX:=(Res.qw (Res.agg F6) (Res.int .i64))
noncomputable def k45:Cfg (X:=els):={k44 with E:=(175,(sF).con zX (fun x=>(Ay x.1)) (fun _=>true))::k44.E}
noncomputable def k46:Cfg (X:=els):={k45 with E:=(176,FU)::k45.E}
noncomputable def pS:=(Sig.cons false (Dat.ah (Cel.int .i64)) (Sig.cons false (Dat.ah Cel.bool) Sig.nil))
noncomputable def xZ:=Res.bool
noncomputable def k47:Cfg (X:=els):={k46 with E:=(192,(pS).con xZ (fun x=>(a7 x.1 x.2.1)) (fun _=>true))::k46.E}
def Fk:Pat (X:=els):={tm:=[(.is (.int .i64)), .any,(.is (.lit (AV.ptr 1 0))), .any, .any,(.is (.int .i64)), .any, .any, .any, .any, .any, .any, .any, .any, .any, .any],hp:=[(.raw [(.int .i64)]),(.raw [.bool])]}
def tv:List Nat:=[0,2,5]
def Gx:List Nat:=[4,5]
noncomputable def A7:bJ (X:=els):={keep:=tv,m:=2,mv:=[]}
def Dp (O0:Int) (P0:Bool) (v0 v5:Int):St (X:=els):={tm:=[.is (.int .i64 v0), .any, .is (.ptr 1 0), .any, .any, .is (.int .i64 v5), .any, .any, .any, .any, .any, .any, .any, .any, .any, .any],hp:=[.raw [.int .i64 O0], .raw [.bool P0]]}
def xg (O0:Int) (P0:Bool) (v5:Int):St (X:=els):=({tm:=[.any, .any, .any, .any, .any, .is (.int .i64 v5), .any, .any, .any, .any, .any, .any, .any, .any, .any, .any],hp:=[.raw [.int .i64 O0], .raw [.bool P0]]}:St (X:=els))
noncomputable def KQ:Code:=((aN [false,false,true,true] (Tryz.f194.body.getD .skip)).getD .skip|>fun c=>match c with| .loop c=>c|c=>c)
noncomputable def FY (F d n:Nat) (s:St (X:=els)):Option (Ex×St (X:=els)):=iter none (fun s' K'=>exec k47 none (bY k47 none F d) F 194 56 KQ s' (aX none A7 K')) n s (fun e s=>some (e,cf Gx s))
noncomputable def FT:List LV→List (Blk (X:=els))→List SV→cm
 | [],[],xs=>aa xs fun O0 xs=>gJ xs fun P0 xs=>aa xs fun v0 xs=>aa xs fun v5 xs=>cy xs (some (kD v0 P0 v5,[], .exit 0,(xg O0 P0 (bH v0 P0 10 v5))))
 |_,_,_=>none
noncomputable def k48:Cfg (X:=els):={k47 with lp:=(194,28,{keep:=tv,m:=2,mv:=A7.mv,ctx:=0,con:=some ((Fk).con FT)})::k47.lp}
noncomputable def rJ:=(Sig.cons false (Dat.ah (Cel.int .i64)) (Sig.cons false (Dat.ah Cel.bool) Sig.nil))
noncomputable def Aj:=(Res.Fg (Res.int .i64) (Res.int .i64) (Res.int .i64))
noncomputable def k49:Cfg (X:=els):={k48 with E:=(191,(rJ).con Aj (fun x=>(Nu x.1 x.2.1)) (fun _=>true))::k48.E}
noncomputable def oL:=(Sig.cons false (Dat.ah (Cel.int .i64)) (Sig.cons false (Dat.ah Cel.bool) Sig.nil))
noncomputable def yv:=(Res.int .i64)
noncomputable def k50:Cfg (X:=els):={k49 with E:=(174,(oL).con yv (fun x=>(eS x.1 x.2.1)) (fun _=>true))::k49.E}
noncomputable def rW:=(Sig.cons true (Dat.ah H7) (Sig.cons false (Dat.ah (Cel.int .i64)) Sig.nil))
noncomputable def rb:=(Res.qw (Res.int .i64) (Res.int .i64))
noncomputable def k51:Cfg (X:=els):={k50 with E:=(195,(rW).con rb (fun x=>(zV x.1 x.2.1)) (fun _=>true))::k50.E}
noncomputable def kn:=(Sig.cons true (Dat.ah jE) (Sig.cons true (Dat.ah H7) (Sig.cons false (Dat.ah (Cel.int .i64)) Sig.nil)))
noncomputable def qe:=(Res.qw (Res.int .i64) (Res.int .i64))
noncomputable def k52:Cfg (X:=els):={k51 with E:=(193,(kn).con qe (fun x=>(hU x.1 x.2.1 x.2.2.1)) (fun _=>true))::k51.E}
noncomputable def eI:=(Sig.cons true Dat.void (Sig.cons true bG (Sig.cons true (Dat.ah dw) (Sig.cons false (Dat.ah (Cel.int .i64)) Sig.nil))))
noncomputable def jM:=(Res.Fg (Res.int .i64) (Res.int .i64) Res.bool)
noncomputable def k53:Cfg (X:=els):={k52 with E:=(169,(eI).con jM (fun x=>(yo x.1 x.2.1 x.2.2.1 x.2.2.2.1)) (fun x=>Fx x.1 x.2.1 x.2.2.1 x.2.2.2.1))::k52.E}
noncomputable def fA:=(Sig.cons true Dat.void (Sig.cons true bG (Sig.cons true (Dat.ah dw) (Sig.cons false (Dat.ah (Cel.int .i64)) Sig.nil))))
noncomputable def kq:=(Res.Fg (Res.int .i64) (Res.int .i64) Res.bool)
noncomputable def k54:Cfg (X:=els):={k53 with E:=(172,(fA).con kq (fun x=>(tD x.1 x.2.1 x.2.2.1 x.2.2.2.1)) (fun x=>cI x.1 x.2.1 x.2.2.1 x.2.2.2.1))::k53.E}
noncomputable def eK:=(Sig.cons true Dat.void (Sig.cons true bG (Sig.cons true (Dat.ah dw) (Sig.cons false (Dat.ah (Cel.int .i64)) Sig.nil))))
noncomputable def jH:=(Res.Fg (Res.int .i64) (Res.int .i64) Res.bool)
noncomputable def k55:Cfg (X:=els):={k54 with E:=(173,(eK).con jH (fun x=>(yi x.1 x.2.1 x.2.2.1 x.2.2.2.1)) (fun x=>cI x.1 x.2.1 x.2.2.1 x.2.2.2.1))::k54.E}
noncomputable def dV:=(Sig.cons true Dat.void (Sig.cons true bG (Sig.cons true (Dat.ah dw) (Sig.cons false (Dat.ah (Cel.int .i64)) Sig.nil))))
noncomputable def iS:=(Res.Fg (Res.int .i64) (Res.int .i64) Res.bool)
noncomputable def k56:Cfg (X:=els):={k55 with E:=(190,(dV).con iS (fun x=>(aZ x.1 x.2.1 x.2.2.1 x.2.2.2.1)) (fun x=>cI x.1 x.2.1 x.2.2.1 x.2.2.2.1))::k55.E}
noncomputable def Om:=(Sig.cons true (Dat.ah dw) Sig.nil)
noncomputable def Tz:=(⟨fun _=> .ifc 140 (.agg []),fun _=>⟨_,rfl⟩⟩:Res Unit)
noncomputable def k57:Cfg (X:=els):={k56 with E:=(98,(Om).con Tz (fun x=>(zN x.1)) (fun x=>TW x.1))::k56.E}
noncomputable def Ra:=(Sig.cons true (Dat.ah dw) Sig.nil)
noncomputable def TF:=(⟨fun _=> .ifc 141 (.agg []),fun _=>⟨_,rfl⟩⟩:Res Unit)
noncomputable def k58:Cfg (X:=els):={k57 with E:=(98,(Ra).con TF (fun x=>(zN x.1)) (fun x=>Rk x.1))::k57.E}
noncomputable def OW:=(Sig.cons true (Dat.ah dw) Sig.nil)
noncomputable def TV:=(⟨fun _=> .ifc 142 (.agg []),fun _=>⟨_,rfl⟩⟩:Res Unit)
noncomputable def k59:Cfg (X:=els):={k58 with E:=(98,(OW).con TV (fun x=>(zN x.1)) (fun x=>Oj x.1))::k58.E}
noncomputable def Qs:=(Sig.cons true (Dat.ah dw) Sig.nil)
noncomputable def TA:=(⟨fun _=> .ifc 143 (.agg []),fun _=>⟨_,rfl⟩⟩:Res Unit)
noncomputable def k60:Cfg (X:=els):={k59 with E:=(98,(Qs).con TA (fun x=>(zN x.1)) (fun x=>N5 x.1))::k59.E}
noncomputable def k61:Cfg (X:=els):={k60 with E:=(98,(Pw (eAt k57 98) (eAt k58 98) (eAt k59 98) (eAt k60 98)))::k60.E}
noncomputable def cz:=(Sig.cons true bG (Sig.cons true (Dat.ah dw) (Sig.cons false (Dat.ah (Cel.int .i64)) Sig.nil)))
noncomputable def np:=(Res.Fg (Res.agg uK) Res.bool (Res.int .i64))
noncomputable def k62:Cfg (X:=els):={k61 with E:=(66,(cz).con np (fun x=>(bw x.1 x.2.1 x.2.2.1)) (fun x=>BU x.1 x.2.1 x.2.2.1))::k61.E}
noncomputable def pe:=(Sig.cons true (Dat.ah jE) (Sig.cons false (Dat.ah (Cel.int .i64)) Sig.nil))
noncomputable def pB:=(Res.int .i64)
noncomputable def k63:Cfg (X:=els):={k62 with E:=(46,(pe).con pB (fun x=>(jm x.1 x.2.1)) (fun _=>true))::k62.E}
noncomputable def ow:=(Sig.cons true (Dat.ah jE) (Sig.cons false (Dat.ah (Cel.int .i64)) Sig.nil))
noncomputable def xf:=(Res.Fg (Res.int .i64) (Res.int .i64) (Res.int .i64))
noncomputable def k64:Cfg (X:=els):={k63 with E:=(22,(ow).con xf (fun x=>(dg x.1 x.2.1)) (fun _=>true))::k63.E}
noncomputable def nf:=(Sig.cons true (Dat.ah uK) (Sig.cons false (Dat.ah (Cel.int .i64)) Sig.nil))
noncomputable def uN:=Res.bool
noncomputable def k65:Cfg (X:=els):={k64 with E:=(50,(nf).con uN (fun x=>(inS x.1 x.2.1)) (fun _=>true))::k64.E}
noncomputable def Gv:=(Sig.cons true (Dat.ah uK) (Sig.cons true (Dat.ah uK) Sig.nil))
noncomputable def Ld:=Res.bool
noncomputable def k66:Cfg (X:=els):={k65 with E:=(112,(Gv).con Ld (fun x=>(mH x.1 x.2.1)) (fun _=>true))::k65.E}
def yz:Pat (X:=els):={tm:=[(.is (.slW 0 4)),(.is (.int .i64)), .any, .any, .any,(.is (.int .i64)),(.is (.lit (AV.fn 112 [] []))), .any, .any,(.is (.slW 0 4)),(.is (.int .i64)),(.is (.int .i64)), .any, .any, .any, .any, .any, .any, .any, .any, .any, .any, .any, .any, .any, .any, .any, .any, .any, .any, .any, .any, .any, .any, .any, .any],hp:=[(.vec (.span:El) false)]}
def mT:List Nat:=[0,1,5,6,9,10,11]
def yD:List Nat:=[4,5]
noncomputable def sR:bJ (X:=els):={keep:=mT,m:=1,mv:=[]}
def nM (l0:List (Span)) (v1 v5 v10 v11:Int):St (X:=els):={tm:=[.is (.sl 0 0 4 (List.length l0) none), .is (.int .i64 v1), .any, .any, .any, .is (.int .i64 v5), .is (AV.fn 112 [] []), .any, .any, .is (.sl 0 0 4 (List.length l0) none), .is (.int .i64 v10), .is (.int .i64 v11), .any, .any, .any, .any, .any, .any, .any, .any, .any, .any, .any, .any, .any, .any, .any, .any, .any, .any, .any, .any, .any, .any, .any, .any],hp:=[Blk.vec El.span l0 false]}
def py (l0:List (Span)) (v5:Int):St (X:=els):=({tm:=[.any, .any, .any, .any, .any, .is (.int .i64 v5), .any, .any, .any, .any, .any, .any, .any, .any, .any, .any, .any, .any, .any, .any, .any, .any, .any, .any, .any, .any, .any, .any, .any, .any, .any, .any, .any, .any, .any, .any],hp:=[Blk.vec El.span l0 false]}:St (X:=els))
noncomputable def Di:Code:=((aN [false,true,false,true,true,true] (Tryz.f97.body.getD .skip)).getD .skip|>fun c=>match c with| .loop c=>c|c=>c)
noncomputable def rL (F d n:Nat) (s:St (X:=els)):Option (Ex×St (X:=els)):=iter none (fun s' K'=>exec k66 none (bY k66 none F d) F 97 244 Di s' (aX none sR K')) n s (fun e s=>some (e,cf yD s))
noncomputable def yq:List LV→List (Blk (X:=els))→List SV→cm
 | [⟨El.span,l0⟩],[],xs=>aa xs fun v1 xs=>aa xs fun v5 xs=>aa xs fun v10 xs=>aa xs fun v11 xs=>cy xs (some (decide (l0.length≤1048576)&&(v10==(l0.length:Int)&&(v11==0&&v5== -1)),[], .exit 0,(py l0 (az l0 v1))))
 |_,_,_=>none
noncomputable def k67:Cfg (X:=els):={k66 with lp:=(97,122,{keep:=mT,m:=1,mv:=sR.mv,ctx:=0,con:=some ((yz).con yq)})::k66.lp}
noncomputable def iw:=(Sig.cons false (Dat.sl mb (.span:El)) (Sig.cons false (Dat.ah (Cel.int .i64)) Sig.nil))
noncomputable def mP:=(Res.int .i64)
noncomputable def k68:Cfg (X:=els):={k67 with E:=(97,(iw).con mP (fun x=>(az x.1 x.2.1)) (fun x=>bl x.1 x.2.1))::k67.E}
def Gy:Pat (X:=els):={tm:=[(.is (.slW 0 4)),(.is (.lit (AV.fn 49 [] [AV.ptr 1 0]))), .any, .any, .any, .any, .any,(.is (.int .i64)),(.is (.int .i64)), .any, .any, .any, .any, .any, .any, .any, .any, .any, .any],hp:=[(.vec (.span:El) false),(.raw [(.int .i64)]),(.raw [(.int .i64),(.int .i64),(.int .i64),(.int .i64)])]}
def sU:List Nat:=[0,1,7,8]
def Gr:List Nat:=[4]
noncomputable def AY:bJ (X:=els):={keep:=sU,m:=3,mv:=[]}
def C9 (l0:List (Span)) (P0 Q0 Q1 Q2 Q3 v7 v8:Int):St (X:=els):={tm:=[.is (.sl 0 0 4 (List.length l0) none), .is (AV.fn 49 [] [.ptr 1 0]), .any, .any, .any, .any, .any, .is (.int .i64 v7), .is (.int .i64 v8), .any, .any, .any, .any, .any, .any, .any, .any, .any, .any],hp:=[Blk.vec El.span l0 false, .raw [.int .i64 P0], .raw [.int .i64 Q0, .int .i64 Q1, .int .i64 Q2, .int .i64 Q3]]}
def x5 (l0:List (Span)) (P0 Q0 Q1 Q2 Q3 v8:Int):St (X:=els):=({tm:=[.any, .any, .any, .any, .is (.int .i64 v8), .any, .any, .any, .any, .any, .any, .any, .any, .any, .any, .any, .any, .any, .any],hp:=[Blk.vec El.span l0 false, .raw [.int .i64 P0], .raw [.int .i64 Q0, .int .i64 Q1, .int .i64 Q2, .int .i64 Q3], .raw [.int .i64 (Span.from_ (List.getD l0 (0+Int.toNat v8) {from_:=0,to_:=0,mode:=0,prio:=0})), .int .i64 (Span.to_ (List.getD l0 (0+Int.toNat v8) {from_:=0,to_:=0,mode:=0,prio:=0})), .int .i64 (Span.mode (List.getD l0 (0+Int.toNat v8) {from_:=0,to_:=0,mode:=0,prio:=0})), .int .i64 (Span.prio (List.getD l0 (0+Int.toNat v8) {from_:=0,to_:=0,mode:=0,prio:=0}))]]}:St (X:=els))
def x9 (l0:List (Span)) (P0 Q0 Q1 Q2 Q3:Int):St (X:=els):=({tm:=[.any, .any, .any, .any, .any, .any, .any, .any, .any, .any, .any, .any, .any, .any, .any, .any, .any, .any, .any],hp:=[Blk.vec El.span l0 false, .raw [.int .i64 P0], .raw [.int .i64 Q0, .int .i64 Q1, .int .i64 Q2, .int .i64 Q3]]}:St (X:=els))
noncomputable def Jm:Code:=((aN [false,true,false,true] (Tryz.f48.body.getD .skip)).getD .skip|>fun c=>match c with| .loop c=>c|c=>c)
noncomputable def Gf (F d n:Nat) (s:St (X:=els)):Option (Ex×St (X:=els)):=iter none (fun s' K'=>exec k68 none (bY k68 none F d) F 48 52 Jm s' (aX none AY K')) n s (fun e s=>some (e,cf Gr s))
noncomputable def FE:List LV→List (Blk (X:=els))→List SV→cm
 | [⟨El.span,l0⟩],[],xs=>aa xs fun P0 xs=>aa xs fun Q0 xs=>aa xs fun Q1 xs=>aa xs fun Q2 xs=>aa xs fun Q3 xs=>aa xs fun v7 xs=>aa xs fun v8 xs=>cy xs (some (decide (l0.length≤1048576)&&(v7==(l0.length:Int)&&v8==0),[(!gR l0 P0, .exit 0,(x9 l0 P0 Q0 Q1 Q2 Q3))], .ret,(x5 l0 P0 Q0 Q1 Q2 Q3 (atIdx l0 P0))))
 |_,_,_=>none
noncomputable def k69:Cfg (X:=els):={k68 with lp:=(48,26,{keep:=sU,m:=3,mv:=AY.mv,ctx:=1003,con:=some ((Gy).con FE)})::k68.lp}
noncomputable def yA:=(Sig.cons false (Dat.sl mb (.span:El)) (Sig.cons false (Dat.ah (Cel.int .i64)) Sig.nil))
noncomputable def Eu:=(Res.qw (Res.agg uK) Res.bool)
noncomputable def k70:Cfg (X:=els):={k69 with E:=(23,(yA).con Eu (fun x=>(eD x.1 x.2.1)) (fun x=>bl x.1 x.2.1))::k69.E}
def Lr:Pat (X:=els):={tm:=[.any,(.is (.int .i64)),(.is (.int .i64)), .any, .any, .any, .any,(.is (.slW 1 4)), .any, .any,(.is (.slW 0 4)),(.is (.int .i64)),(.is (.int .i64)), .any, .any, .any, .any, .any, .any, .any, .any, .any, .any, .any, .any, .any, .any, .any, .any, .any, .any, .any, .any, .any, .any, .any, .any],hp:=[(.vec (.span:El) false),(.vec (.span:El) true)]}
def xN:List Nat:=[1,2,7,10,11,12]
def J1:List Nat:=[6,7]
noncomputable def GU:bJ (X:=els):={keep:=xN,m:=1,mv:=[(.slot 7,(.span:El))]}
def EL (l0 l1:List (Span)) (v1 v2 v11 v12:Int):St (X:=els):={tm:=[.any, .is (.int .i64 v1), .is (.int .i64 v2), .any, .any, .any, .any, .is (.sl 1 0 4 (List.length l1) none), .any, .any, .is (.sl 0 0 4 (List.length l0) none), .is (.int .i64 v11), .is (.int .i64 v12), .any, .any, .any, .any, .any, .any, .any, .any, .any, .any, .any, .any, .any, .any, .any, .any, .any, .any, .any, .any, .any, .any, .any, .any],hp:=[Blk.vec El.span l0 false,Blk.vec El.span l1 true]}
def BI (l0 l1:List (Span)):St (X:=els):=({tm:=[.any, .any, .any, .any, .any, .any, .any, .is (.sl 1 0 4 (List.length l1) none), .any, .any, .any, .any, .any, .any, .any, .any, .any, .any, .any, .any, .any, .any, .any, .any, .any, .any, .any, .any, .any, .any, .any, .any, .any, .any, .any, .any, .any],hp:=[Blk.vec El.span l0 false,Blk.vec El.span l1 true]}:St (X:=els))
noncomputable def NX:Code:=((aN [false,true,false,true,true] (Tryz.f29.body.getD .skip)).getD .skip|>fun c=>match c with| .loop c=>c|c=>c)
noncomputable def Ii (F d n:Nat) (s:St (X:=els)):Option (Ex×St (X:=els)):=iter none (fun s' K'=>exec k70 none (bY k70 none F d) F 29 116 NX s' (aX none GU K')) n s (fun e s=>some (e,cf J1 s))
noncomputable def Ln:List LV→List (Blk (X:=els))→List SV→cm
 | [⟨El.span,l0⟩,⟨El.span,l1⟩],[],xs=>aa xs fun v1 xs=>aa xs fun v2 xs=>aa xs fun v11 xs=>aa xs fun v12 xs=>cy xs (some (decide (l0.length≤1048576)&&(v11==(l0.length:Int)&&(v12==0&&l1.length==0)),[], .exit 0,(BI l0 (ou l0 v1 v2))))
 |_,_,_=>none
noncomputable def k71:Cfg (X:=els):={k70 with lp:=(29,58,{keep:=xN,m:=1,mv:=GU.mv,ctx:=0,con:=some ((Lr).con Ln)})::k70.lp}
noncomputable def vZ:=(Sig.cons false (Dat.sl mb (.span:El)) (Sig.cons false (Dat.ah (Cel.int .i64)) (Sig.cons false (Dat.ah (Cel.int .i64)) Sig.nil)))
noncomputable def vS:=(Out.one (Own.sl (.span:El)))
noncomputable def k72:Cfg (X:=els):={k71 with H:=(29,(vZ).gS vS (fun x=>(ou x.1 x.2.1 x.2.2.1)) (fun x=>oh x.1 x.2.1 x.2.2.1))::k71.H}
def BJ:Pat (X:=els):={tm:=[(.is (.slW 0 4)),(.is (.lit (AV.fn 94 [] []))), .any, .any, .any, .any, .any,(.is (.int .i64)),(.is (.int .i64)), .any, .any, .any, .any, .any, .any, .any, .any, .any, .any],hp:=[(.vec (.span:El) false),(.raw [(.slW 0 4)])]}
def pT:List Nat:=[0,1,7,8]
def C8:List Nat:=[4]
noncomputable def w9:bJ (X:=els):={keep:=pT,m:=2,mv:=[]}
def xa (l0:List (Span)) (v7 v8:Int):St (X:=els):={tm:=[.is (.sl 0 0 4 (List.length l0) none), .is (AV.fn 94 [] []), .any, .any, .any, .any, .any, .is (.int .i64 v7), .is (.int .i64 v8), .any, .any, .any, .any, .any, .any, .any, .any, .any, .any],hp:=[Blk.vec El.span l0 false, .raw [.sl 0 0 4 (List.length l0) none]]}
def tb (l0:List (Span)) (v8:Int):St (X:=els):=({tm:=[.any, .any, .any, .any, .is (.int .i64 v8), .any, .any, .any, .any, .any, .any, .any, .any, .any, .any, .any, .any, .any, .any],hp:=[Blk.vec El.span l0 false, .raw [.sl 0 0 4 (List.length l0) none], .raw [.int .i64 (Span.from_ (List.getD l0 (0+Int.toNat v8) {from_:=0,to_:=0,mode:=0,prio:=0})), .int .i64 (Span.to_ (List.getD l0 (0+Int.toNat v8) {from_:=0,to_:=0,mode:=0,prio:=0})), .int .i64 (Span.mode (List.getD l0 (0+Int.toNat v8) {from_:=0,to_:=0,mode:=0,prio:=0})), .int .i64 (Span.prio (List.getD l0 (0+Int.toNat v8) {from_:=0,to_:=0,mode:=0,prio:=0}))]]}:St (X:=els))
def ta (l0:List (Span)):St (X:=els):=({tm:=[.any, .any, .any, .any, .any, .any, .any, .any, .any, .any, .any, .any, .any, .any, .any, .any, .any, .any, .any],hp:=[Blk.vec El.span l0 false, .raw [.sl 0 0 4 (List.length l0) none]]}:St (X:=els))
noncomputable def Ht:Code:=((aN [false,true,false,true] (Tryz.f48.body.getD .skip)).getD .skip|>fun c=>match c with| .loop c=>c|c=>c)
noncomputable def BA (F d n:Nat) (s:St (X:=els)):Option (Ex×St (X:=els)):=iter none (fun s' K'=>exec k72 none (bY k72 none F d) F 48 52 Ht s' (aX none w9 K')) n s (fun e s=>some (e,cf C8 s))
noncomputable def Bj:List LV→List (Blk (X:=els))→List SV→cm
 | [⟨El.span,l0⟩],[],xs=>aa xs fun v7 xs=>aa xs fun v8 xs=>cy xs (some (decide (l0.length≤1048576)&&(v7==(l0.length:Int)&&v8==0),[(l0.all fun s=> !nD s, .exit 0,(ta l0))], .ret,(tb l0 (JB l0))))
 |_,_,_=>none
noncomputable def k73:Cfg (X:=els):={k72 with lp:=(48,26,{keep:=pT,m:=2,mv:=w9.mv,ctx:=1002,con:=some ((BJ).con Bj)})::k72.lp}
def GY:Pat (X:=els):={tm:=[.any, .any, .any,(.is (.lit (AV.ptr 3 0))), .any, .any,(.is (.slW 0 4)),(.is (.int .i64)),(.is (.int .i64)), .any, .any, .any, .any, .any, .any, .any, .any, .any, .any, .any, .any, .any, .any, .any, .any],hp:=[(.vec (.span:El) false),(.raw [(.slW 0 4)]),(.raw [(.lit (AV.val (Value.slice none 0 0)))]),(.raw [(.slW 4 1)]),(.vec (.int:El) true)]}
def sX:List Nat:=[3,6,7,8]
def Gq:List Nat:=[2,3]
noncomputable def Bd:bJ (X:=els):={keep:=sX,m:=4,mv:=[(.cell 3 0,(.int:El))]}
def DB (l0:List (Span)) (l4:List (Int)) (v7 v8:Int):St (X:=els):={tm:=[.any, .any, .any, .is (.ptr 3 0), .any, .any, .is (.sl 0 0 4 (List.length l0) none), .is (.int .i64 v7), .is (.int .i64 v8), .any, .any, .any, .any, .any, .any, .any, .any, .any, .any, .any, .any, .any, .any, .any, .any],hp:=[Blk.vec El.span l0 false, .raw [.sl 0 0 4 (List.length l0) none], .raw [.val (.slice none 0 0)], .raw [.sl 4 0 1 (List.length l4) none],Blk.vec El.int l4 true]}
def wR (l0:List (Span)) (l4:List (Int)):St (X:=els):=({tm:=[.any, .any, .any, .is (.ptr 3 0), .any, .any, .any, .any, .any, .any, .any, .any, .any, .any, .any, .any, .any, .any, .any, .any, .any, .any, .any, .any, .any],hp:=[Blk.vec El.span l0 false, .raw [.sl 0 0 4 (List.length l0) none], .raw [.val (.slice none 0 0)], .raw [.sl 4 0 1 (List.length l4) none],Blk.vec El.int l4 true]}:St (X:=els))
noncomputable def JT:Code:=((aN [false,true,false,true,true] (Tryz.f96.body.getD .skip)).getD .skip|>fun c=>match c with| .loop c=>c|c=>c)
noncomputable def FB (F d n:Nat) (s:St (X:=els)):Option (Ex×St (X:=els)):=iter none (fun s' K'=>exec k73 none (bY k73 none F d) F 96 116 JT s' (aX none Bd K')) n s (fun e s=>some (e,cf Gq s))
noncomputable def GW:List LV→List (Blk (X:=els))→List SV→cm
 | [⟨El.span,l0⟩,⟨El.int,l4⟩],[],xs=>aa xs fun v7 xs=>aa xs fun v8 xs=>cy xs (some (decide (l0.length≤1000)&&(v7==(l0.length:Int)&&(v8==0&&l4.length==0)),[], .exit 0,(wR l0 (aS l0))))
 |_,_,_=>none
noncomputable def k74:Cfg (X:=els):={k73 with lp:=(96,58,{keep:=sX,m:=4,mv:=Bd.mv,ctx:=0,con:=some ((GY).con GW)})::k73.lp}
def Lk:Pat (X:=els):={tm:=[(.is (.lit (AV.yld 6))),(.is (.lit (AV.ptr 3 0))), .any,(.is (.int .i64)), .any, .any, .any, .any, .any, .any, .any, .any, .any, .any, .any, .any, .any, .any, .any, .any, .any, .any],hp:=[(.vec (.span:El) false),(.raw [(.slW 0 4)]),(.raw [(.slW 7 4)]),(.raw [(.slW 4 1)]),(.vec (.int:El) true), .dfr,(.rcd 2 [.any,(.is (.lit (AV.ptr 1 0))), .any, .any, .any,(.is (.lit (AV.ptr 2 0))), .any, .any, .any, .any, .any, .any, .any, .any, .any, .any, .any, .any, .any,(.is (.lit (AV.fn 111 [] [AV.ptr 3 0]))), .any, .any, .any, .any, .any, .any, .any, .any, .any, .any, .any, .any, .any, .any, .any, .any, .any, .any, .any, .any, .any, .any, .any, .any, .any, .any, .any, .any, .any, .any, .any, .any, .any, .any, .any, .any, .any, .any, .any, .any, .any, .any, .any, .any, .any, .any, .any, .any, .any, .any, .any]),(.vec (.span:El) true)]}
def xL:List Nat:=[0,1,3]
def KI:List Nat:=[]
noncomputable def FZ:bJ (X:=els):={keep:=xL,m:=7,mv:=[(.cell 2 0,(.span:El))]}
def Dw (l0:List (Span)) (l4:List (Int)) (l7:List (Span)) (v3:Int):St (X:=els):={tm:=[.is (AV.yld 6), .is (.ptr 3 0), .any, .is (.int .i64 v3), .any, .any, .any, .any, .any, .any, .any, .any, .any, .any, .any, .any, .any, .any, .any, .any, .any, .any],hp:=[Blk.vec El.span l0 false, .raw [.sl 0 0 4 (List.length l0) none], .raw [.sl 7 0 4 (List.length l7) none], .raw [.sl 4 0 1 (List.length l4) none],Blk.vec El.int l4 true,Blk.dfr,Blk.rcd RS.ready 2 [.any, .is (.ptr 1 0), .any, .any, .any, .is (.ptr 2 0), .any, .any, .any, .any, .any, .any, .any, .any, .any, .any, .any, .any, .any, .is (AV.fn 111 [] [.ptr 3 0]), .any, .any, .any, .any, .any, .any, .any, .any, .any, .any, .any, .any, .any, .any, .any, .any, .any, .any, .any, .any, .any, .any, .any, .any, .any, .any, .any, .any, .any, .any, .any, .any, .any, .any, .any, .any, .any, .any, .any, .any, .any, .any, .any, .any, .any, .any, .any, .any, .any, .any, .any],Blk.vec El.span l7 true]}
def Bq (l0:List (Span)) (l4:List (Int)) (l7:List (Span)):St (X:=els):=({tm:=[.any, .any, .any, .any, .any, .any, .any, .any, .any, .any, .any, .any, .any, .any, .any, .any, .any, .any, .any, .any, .any, .any],hp:=[Blk.vec El.span l0 false, .raw [.sl 0 0 4 (List.length l0) none], .raw [.sl 7 0 4 (List.length l7) none], .raw [.sl 4 0 1 (List.length l4) none],Blk.vec El.int l4 true,Blk.dfr,Blk.rcd RS.ready 2 [.any, .is (.ptr 1 0), .any, .any, .any, .is (.ptr 2 0), .any, .any, .any, .any, .any, .any, .any, .any, .any, .any, .any, .any, .any, .is (AV.fn 111 [] [.ptr 3 0]), .any, .any, .any, .any, .any, .any, .any, .any, .any, .any, .any, .any, .any, .any, .any, .any, .any, .any, .any, .any, .any, .any, .any, .any, .any, .any, .any, .any, .any, .any, .any, .any, .any, .any, .any, .any, .any, .any, .any, .any, .any, .any, .any, .any, .any, .any, .any, .any, .any, .any, .any],Blk.vec El.span l7 true]}:St (X:=els))
noncomputable def Ru:Code:=((aN [false,true] (Tryz.f111.body.getD .skip)).getD .skip|>fun c=>match c with| .loop c=>c|c=>c)
noncomputable def Ew (F d n:Nat) (s:St (X:=els)):Option (Ex×St (X:=els)):=iter none (fun s' K'=>exec k74 none (bY k74 none F d) F 111 12 Ru s' (aX none FZ K')) n s (fun e s=>some (e,cf KI s))
noncomputable def Lh:List LV→List (Blk (X:=els))→List SV→cm
 | [⟨El.span,l0⟩,⟨El.int,l4⟩,⟨El.span,l7⟩],[],xs=>aa xs fun v3 xs=>cy xs (some (decide (l0.length≤1048576)&&(decide (l4.length≤1000)&&(v3==1&&l7.length==0)),[], .exit 0,(Bq l0 l4 (fJ l0 l4 []))))
 |_,_,_=>none
noncomputable def k75:Cfg (X:=els):={k74 with lp:=(111,6,{keep:=xL,m:=7,mv:=FZ.mv,ctx:=3,con:=some ((Lk).con Lh)})::k74.lp}
noncomputable def lF:=(Sig.cons false (Dat.sl mb (.span:El)) Sig.nil)
noncomputable def lu:=(Out.tup (tW.cons (Out.one (Own.sl (.span:El))) (tW.last (Out.one (Own.ah (Cel.int .i64))))))
noncomputable def k76:Cfg (X:=els):={k75 with H:=(64,(lF).gS lu (fun x=>(bA x.1)) (fun x=>dd x.1))::k75.H}
def Hp:Pat (X:=els):={tm:=[(.is (.lit (AV.yld 8))), .any,(.is (.lit (AV.ptr 6 0))),(.is (.lit (AV.ptr 4 0))), .any,(.is (.int .i64)), .any, .any, .any, .any, .any, .any, .any, .any, .any, .any, .any, .any,(.is (.slW 1 7)),(.is (.int .i64)),(.is (.int .i64)), .any, .any, .any, .any, .any, .any, .any, .any, .any, .any, .any, .any, .any, .any, .any, .any, .any, .any, .any],hp:=[(.vec (.int:El) false),(.vec (.aV:El) false),(.raw [(.int .i64),(.int .i64),(.int .i64),(.slW 0 1),(.int .i64),(.int .i64),(.int .i64),(.int .i64),(.int .i64),(.int .i64),(.int .i64),(.int .i64),(.int .i64),(.int .i64),(.int .i64),(.int .i64),(.int .i64),(.int .i64),(.int .i64),(.int .i64),(.int .i64),(.int .i64),(.int .i64),(.int .i64),(.int .i64),(.int .i64),(.int .i64),(.int .i64),(.int .i64),(.int .i64),(.int .i64),(.int .i64),(.int .i64),(.int .i64),(.int .i64), .bool,(.slW 1 7)]),(.raw [(.slW 10 4)]),(.raw [(.int .i64),(.int .i64),(.int .i64),(.slW 0 1),(.int .i64),(.int .i64),(.int .i64),(.int .i64),(.int .i64),(.int .i64),(.int .i64),(.int .i64),(.int .i64),(.int .i64),(.int .i64),(.int .i64),(.int .i64),(.int .i64),(.int .i64),(.int .i64),(.int .i64),(.int .i64),(.int .i64),(.int .i64),(.int .i64),(.int .i64),(.int .i64),(.int .i64),(.int .i64),(.int .i64),(.int .i64),(.int .i64),(.int .i64),(.int .i64),(.int .i64), .bool,(.slW 1 7)]),(.raw [(.int .i64)]),(.raw [(.int .i64)]), .dfr,(.rcd 1 [.any, .any, .any, .any, .any, .any, .any, .any, .any,(.is (.lit (AV.ptr 3 0))), .any, .any, .any, .any, .any, .any, .any, .any, .any, .any, .any, .any, .any, .any, .any, .any, .any, .any, .any, .any, .any, .any, .any, .any, .any, .any,(.is (.lit (AV.fn 65 [] [AV.ptr 5 0,AV.ptr 6 0,AV.ptr 4 0]))), .any, .any, .any, .any, .any, .any]), .dead,(.vec (.span:El) true)]}
def tN:List Nat:=[0,2,3,5,18,19,20]
def GA:List Nat:=[0,2,3,5,34,35,36,37]
noncomputable def BB:bJ (X:=els):={keep:=tN,m:=10,mv:=[(.cell 3 0,(.span:El))]}
def zn (l0:List (Int)) (l1:List (ag)) (l9:List (Span)) (Q0 Q1 Q2 Q4 Q5 Q6 Q7 Q8 Q9 Q10 Q11 Q12 Q13 Q14 Q15 Q16 Q17 Q18 Q19 Q20 Q21 Q22 Q23 Q24 Q25 Q26 Q27 Q28 Q29 Q30 Q31 Q32 Q33 Q34:Int) (Q35:Bool) (S0 S1 S2 S4 S5 S6 S7 S8 S9 S10 S11 S12 S13 S14 S15 S16 S17 S18 S19 S20 S21 S22 S23 S24 S25 S26 S27 S28 S29 S30 S31 S32 S33 S34:Int) (S35:Bool) (U0 W0 v5 v19 v20:Int):St (X:=els):={tm:=[.is (AV.yld 8), .any, .is (.ptr 6 0), .is (.ptr 4 0), .any, .is (.int .i64 v5), .any, .any, .any, .any, .any, .any, .any, .any, .any, .any, .any, .any, .is (.sl 1 0 7 (List.length l1) none), .is (.int .i64 v19), .is (.int .i64 v20), .any, .any, .any, .any, .any, .any, .any, .any, .any, .any, .any, .any, .any, .any, .any, .any, .any, .any, .any],hp:=[Blk.vec El.int l0 false,Blk.vec El.aV l1 false, .raw [.int .i64 Q0, .int .i64 Q1, .int .i64 Q2, .sl 0 0 1 (List.length l0) none, .int .i64 Q4, .int .i64 Q5, .int .i64 Q6, .int .i64 Q7, .int .i64 Q8, .int .i64 Q9, .int .i64 Q10, .int .i64 Q11, .int .i64 Q12, .int .i64 Q13, .int .i64 Q14, .int .i64 Q15, .int .i64 Q16, .int .i64 Q17, .int .i64 Q18, .int .i64 Q19, .int .i64 Q20, .int .i64 Q21, .int .i64 Q22, .int .i64 Q23, .int .i64 Q24, .int .i64 Q25, .int .i64 Q26, .int .i64 Q27, .int .i64 Q28, .int .i64 Q29, .int .i64 Q30, .int .i64 Q31, .int .i64 Q32, .int .i64 Q33, .int .i64 Q34, .bool Q35, .sl 1 0 7 (List.length l1) none], .raw [.sl 10 0 4 (List.length l9) none], .raw [.int .i64 S0, .int .i64 S1, .int .i64 S2, .sl 0 0 1 (List.length l0) none, .int .i64 S4, .int .i64 S5, .int .i64 S6, .int .i64 S7, .int .i64 S8, .int .i64 S9, .int .i64 S10, .int .i64 S11, .int .i64 S12, .int .i64 S13, .int .i64 S14, .int .i64 S15, .int .i64 S16, .int .i64 S17, .int .i64 S18, .int .i64 S19, .int .i64 S20, .int .i64 S21, .int .i64 S22, .int .i64 S23, .int .i64 S24, .int .i64 S25, .int .i64 S26, .int .i64 S27, .int .i64 S28, .int .i64 S29, .int .i64 S30, .int .i64 S31, .int .i64 S32, .int .i64 S33, .int .i64 S34, .bool S35, .sl 1 0 7 (List.length l1) none], .raw [.int .i64 U0], .raw [.int .i64 W0],Blk.dfr,Blk.rcd RS.ready 1 [.any, .any, .any, .any, .any, .any, .any, .any, .any, .is (.ptr 3 0), .any, .any, .any, .any, .any, .any, .any, .any, .any, .any, .any, .any, .any, .any, .any, .any, .any, .any, .any, .any, .any, .any, .any, .any, .any, .any, .is (AV.fn 65 [] [.ptr 5 0, .ptr 6 0, .ptr 4 0]), .any, .any, .any, .any, .any, .any], .dead,Blk.vec El.span l9 true]}
def Rq (l0:List (Int)) (l1:List (ag)) (l9:List (Span)) (Q0 Q1 Q2 Q4 Q5 Q6 Q7 Q8 Q9 Q10 Q11 Q12 Q13 Q14 Q15 Q16 Q17 Q18 Q19 Q20 Q21 Q22 Q23 Q24 Q25 Q26 Q27 Q28 Q29 Q30 Q31 Q32 Q33 Q34:Int) (Q35:Bool) (S0 S1 S2 S4 S5 S6 S7 S8 S9 S10 S11 S12 S13 S14 S15 S16 S17 S18 S19 S20 S21 S22 S23 S24 S25 S26 S27 S28 S29 S30 S31 S32 S33 S34:Int) (S35:Bool) (U0 W0 v5 v20:Int):St (X:=els):=(fun(C:Config)=>
 ({tm:=[.is (AV.yld 8), .any, .is (.ptr 6 0), .is (.ptr 4 0), .any, .is (.int .i64 v5), .any, .any, .any, .any, .any, .any, .any, .any, .any, .any, .any, .any, .any, .any, .any, .any, .any, .any, .any, .any, .any, .any, .any, .any, .any, .any, .any, .any, .any, .any, .is (.bool true), .any, .any, .any],hp:=[Blk.vec El.int l0 false,Blk.vec El.aV l1 false, .raw [.int .i64 Q0, .int .i64 Q1, .int .i64 Q2, .sl 0 0 1 (List.length l0) none, .int .i64 Q4, .int .i64 Q5, .int .i64 Q6, .int .i64 Q7, .int .i64 Q8, .int .i64 Q9, .int .i64 Q10, .int .i64 Q11, .int .i64 Q12, .int .i64 Q13, .int .i64 Q14, .int .i64 Q15, .int .i64 Q16, .int .i64 Q17, .int .i64 Q18, .int .i64 Q19, .int .i64 Q20, .int .i64 Q21, .int .i64 Q22, .int .i64 Q23, .int .i64 Q24, .int .i64 Q25, .int .i64 Q26, .int .i64 Q27, .int .i64 Q28, .int .i64 Q29, .int .i64 Q30, .int .i64 Q31, .int .i64 Q32, .int .i64 Q33, .int .i64 Q34, .bool Q35, .sl 1 0 7 (List.length l1) none], .raw [.sl 15 0 4 (List.length (l9++[Prod.fst (bw C (List.getD l1 (0+Int.toNat v20) {kind:=0,mode:=0,prio:=0,arg:=0,shift:=0,minute:=0,len:=0}) v5)])) none], .raw [.int .i64 S0, .int .i64 S1, .int .i64 S2, .sl 0 0 1 (List.length l0) none, .int .i64 S4, .int .i64 S5, .int .i64 S6, .int .i64 S7, .int .i64 S8, .int .i64 S9, .int .i64 S10, .int .i64 S11, .int .i64 S12, .int .i64 S13, .int .i64 S14, .int .i64 S15, .int .i64 S16, .int .i64 S17, .int .i64 S18, .int .i64 S19, .int .i64 S20, .int .i64 S21, .int .i64 S22, .int .i64 S23, .int .i64 S24, .int .i64 S25, .int .i64 S26, .int .i64 S27, .int .i64 S28, .int .i64 S29, .int .i64 S30, .int .i64 S31, .int .i64 S32, .int .i64 S33, .int .i64 S34, .bool S35, .sl 1 0 7 (List.length l1) none], .raw [.int .i64 U0], .raw [.int .i64 W0],Blk.dfr,Blk.rcd RS.ready 1 [.any, .any, .any, .any, .any, .any, .any, .any, .any, .is (.ptr 3 0), .any, .any, .any, .any, .any, .any, .any, .any, .any, .any, .any, .any, .any, .any, .any, .any, .any, .any, .any, .any, .any, .any, .any, .any, .any, .any, .is (AV.fn 65 [] [.ptr 5 0, .ptr 6 0, .ptr 4 0]), .any, .any, .any, .any, .any, .any], .dead, .dead, .raw [.int .i64 (ag.kind (List.getD l1 (0+Int.toNat v20) {kind:=0,mode:=0,prio:=0,arg:=0,shift:=0,minute:=0,len:=0})), .int .i64 (ag.mode (List.getD l1 (0+Int.toNat v20) {kind:=0,mode:=0,prio:=0,arg:=0,shift:=0,minute:=0,len:=0})), .int .i64 (ag.prio (List.getD l1 (0+Int.toNat v20) {kind:=0,mode:=0,prio:=0,arg:=0,shift:=0,minute:=0,len:=0})), .int .i64 (ag.arg (List.getD l1 (0+Int.toNat v20) {kind:=0,mode:=0,prio:=0,arg:=0,shift:=0,minute:=0,len:=0})), .int .i64 (ag.shift (List.getD l1 (0+Int.toNat v20) {kind:=0,mode:=0,prio:=0,arg:=0,shift:=0,minute:=0,len:=0})), .int .i64 (ag.minute (List.getD l1 (0+Int.toNat v20) {kind:=0,mode:=0,prio:=0,arg:=0,shift:=0,minute:=0,len:=0})), .int .i64 (ag.len (List.getD l1 (0+Int.toNat v20) {kind:=0,mode:=0,prio:=0,arg:=0,shift:=0,minute:=0,len:=0}))], .raw [.int .i64 (Span.from_ (Prod.fst (bw C (List.getD l1 (0+Int.toNat v20) {kind:=0,mode:=0,prio:=0,arg:=0,shift:=0,minute:=0,len:=0}) v5))), .int .i64 (Span.to_ (Prod.fst (bw C (List.getD l1 (0+Int.toNat v20) {kind:=0,mode:=0,prio:=0,arg:=0,shift:=0,minute:=0,len:=0}) v5))), .int .i64 (Span.mode (Prod.fst (bw C (List.getD l1 (0+Int.toNat v20) {kind:=0,mode:=0,prio:=0,arg:=0,shift:=0,minute:=0,len:=0}) v5))), .int .i64 (Span.prio (Prod.fst (bw C (List.getD l1 (0+Int.toNat v20) {kind:=0,mode:=0,prio:=0,arg:=0,shift:=0,minute:=0,len:=0}) v5)))], .raw [.int .i64 (Span.from_ (Prod.fst (bw C (List.getD l1 (0+Int.toNat v20) {kind:=0,mode:=0,prio:=0,arg:=0,shift:=0,minute:=0,len:=0}) v5))), .int .i64 (Span.to_ (Prod.fst (bw C (List.getD l1 (0+Int.toNat v20) {kind:=0,mode:=0,prio:=0,arg:=0,shift:=0,minute:=0,len:=0}) v5))), .int .i64 (Span.mode (Prod.fst (bw C (List.getD l1 (0+Int.toNat v20) {kind:=0,mode:=0,prio:=0,arg:=0,shift:=0,minute:=0,len:=0}) v5))), .int .i64 (Span.prio (Prod.fst (bw C (List.getD l1 (0+Int.toNat v20) {kind:=0,mode:=0,prio:=0,arg:=0,shift:=0,minute:=0,len:=0}) v5)))], .raw [.int .i64 (Span.from_ (Prod.fst (bw C (List.getD l1 (0+Int.toNat v20) {kind:=0,mode:=0,prio:=0,arg:=0,shift:=0,minute:=0,len:=0}) v5))), .int .i64 (Span.to_ (Prod.fst (bw C (List.getD l1 (0+Int.toNat v20) {kind:=0,mode:=0,prio:=0,arg:=0,shift:=0,minute:=0,len:=0}) v5))), .int .i64 (Span.mode (Prod.fst (bw C (List.getD l1 (0+Int.toNat v20) {kind:=0,mode:=0,prio:=0,arg:=0,shift:=0,minute:=0,len:=0}) v5))), .int .i64 (Span.prio (Prod.fst (bw C (List.getD l1 (0+Int.toNat v20) {kind:=0,mode:=0,prio:=0,arg:=0,shift:=0,minute:=0,len:=0}) v5)))],Blk.vec El.span (l9++[Prod.fst (bw C (List.getD l1 (0+Int.toNat v20) {kind:=0,mode:=0,prio:=0,arg:=0,shift:=0,minute:=0,len:=0}) v5)]) true]}:St (X:=els))) {bC:=S0,pO:=S1,qy:=S2,stops:=l0,times:={jZ:=S4,level:=S5,open_:=S6,hZ:=S7,lead:=S8,close:=S9,hold:=S10},rest:=S11,iT:=S12,aE:={base:=S13,shift:=S14,on:={month:=S15,ck:=S16,weekday:=S17,minute:=S18},off:={month:=S19,ck:=S20,weekday:=S21,minute:=S22}},sun:={m0:=S23,m1:=S24,m2:=S25,m3:=S26,m4:=S27,m5:=S28,m6:=S29,m7:=S30,m8:=S31,m9:=S32,m10:=S33,m11:=S34},bq:=S35,ae:=l1}
def Pe (l0:List (Int)) (l1:List (ag)) (l9:List (Span)) (Q0 Q1 Q2 Q4 Q5 Q6 Q7 Q8 Q9 Q10 Q11 Q12 Q13 Q14 Q15 Q16 Q17 Q18 Q19 Q20 Q21 Q22 Q23 Q24 Q25 Q26 Q27 Q28 Q29 Q30 Q31 Q32 Q33 Q34:Int) (Q35:Bool) (S0 S1 S2 S4 S5 S6 S7 S8 S9 S10 S11 S12 S13 S14 S15 S16 S17 S18 S19 S20 S21 S22 S23 S24 S25 S26 S27 S28 S29 S30 S31 S32 S33 S34:Int) (S35:Bool) (U0 W0 v5 v20:Int):St (X:=els):=(fun(C:Config)=>
 ({tm:=[.is (AV.yld 8), .any, .is (.ptr 6 0), .is (.ptr 4 0), .any, .is (.int .i64 v5), .any, .any, .any, .any, .any, .any, .any, .any, .any, .any, .any, .any, .any, .any, .any, .any, .any, .any, .any, .any, .any, .any, .any, .any, .any, .any, .any, .any, .any, .any, .any, .any, .any, .any],hp:=[Blk.vec El.int l0 false,Blk.vec El.aV l1 false, .raw [.int .i64 Q0, .int .i64 Q1, .int .i64 Q2, .sl 0 0 1 (List.length l0) none, .int .i64 Q4, .int .i64 Q5, .int .i64 Q6, .int .i64 Q7, .int .i64 Q8, .int .i64 Q9, .int .i64 Q10, .int .i64 Q11, .int .i64 Q12, .int .i64 Q13, .int .i64 Q14, .int .i64 Q15, .int .i64 Q16, .int .i64 Q17, .int .i64 Q18, .int .i64 Q19, .int .i64 Q20, .int .i64 Q21, .int .i64 Q22, .int .i64 Q23, .int .i64 Q24, .int .i64 Q25, .int .i64 Q26, .int .i64 Q27, .int .i64 Q28, .int .i64 Q29, .int .i64 Q30, .int .i64 Q31, .int .i64 Q32, .int .i64 Q33, .int .i64 Q34, .bool Q35, .sl 1 0 7 (List.length l1) none], .raw [.sl 10 0 4 (List.length l9) none], .raw [.int .i64 S0, .int .i64 S1, .int .i64 S2, .sl 0 0 1 (List.length l0) none, .int .i64 S4, .int .i64 S5, .int .i64 S6, .int .i64 S7, .int .i64 S8, .int .i64 S9, .int .i64 S10, .int .i64 S11, .int .i64 S12, .int .i64 S13, .int .i64 S14, .int .i64 S15, .int .i64 S16, .int .i64 S17, .int .i64 S18, .int .i64 S19, .int .i64 S20, .int .i64 S21, .int .i64 S22, .int .i64 S23, .int .i64 S24, .int .i64 S25, .int .i64 S26, .int .i64 S27, .int .i64 S28, .int .i64 S29, .int .i64 S30, .int .i64 S31, .int .i64 S32, .int .i64 S33, .int .i64 S34, .bool S35, .sl 1 0 7 (List.length l1) none], .raw [.int .i64 U0], .raw [.int .i64 W0],Blk.dfr,Blk.rcd RS.ready 1 [.any, .any, .any, .any, .any, .any, .any, .any, .any, .is (.ptr 3 0), .any, .any, .any, .any, .any, .any, .any, .any, .any, .any, .any, .any, .any, .any, .any, .any, .any, .any, .any, .any, .any, .any, .any, .any, .any, .any, .is (AV.fn 65 [] [.ptr 5 0, .ptr 6 0, .ptr 4 0]), .any, .any, .any, .any, .any, .any], .dead,Blk.vec El.span l9 true, .raw [.int .i64 (ag.kind (List.getD l1 (0+Int.toNat v20) {kind:=0,mode:=0,prio:=0,arg:=0,shift:=0,minute:=0,len:=0})), .int .i64 (ag.mode (List.getD l1 (0+Int.toNat v20) {kind:=0,mode:=0,prio:=0,arg:=0,shift:=0,minute:=0,len:=0})), .int .i64 (ag.prio (List.getD l1 (0+Int.toNat v20) {kind:=0,mode:=0,prio:=0,arg:=0,shift:=0,minute:=0,len:=0})), .int .i64 (ag.arg (List.getD l1 (0+Int.toNat v20) {kind:=0,mode:=0,prio:=0,arg:=0,shift:=0,minute:=0,len:=0})), .int .i64 (ag.shift (List.getD l1 (0+Int.toNat v20) {kind:=0,mode:=0,prio:=0,arg:=0,shift:=0,minute:=0,len:=0})), .int .i64 (ag.minute (List.getD l1 (0+Int.toNat v20) {kind:=0,mode:=0,prio:=0,arg:=0,shift:=0,minute:=0,len:=0})), .int .i64 (ag.len (List.getD l1 (0+Int.toNat v20) {kind:=0,mode:=0,prio:=0,arg:=0,shift:=0,minute:=0,len:=0}))], .raw [.int .i64 (Span.from_ (Prod.fst (bw C (List.getD l1 (0+Int.toNat v20) {kind:=0,mode:=0,prio:=0,arg:=0,shift:=0,minute:=0,len:=0}) v5))), .int .i64 (Span.to_ (Prod.fst (bw C (List.getD l1 (0+Int.toNat v20) {kind:=0,mode:=0,prio:=0,arg:=0,shift:=0,minute:=0,len:=0}) v5))), .int .i64 (Span.mode (Prod.fst (bw C (List.getD l1 (0+Int.toNat v20) {kind:=0,mode:=0,prio:=0,arg:=0,shift:=0,minute:=0,len:=0}) v5))), .int .i64 (Span.prio (Prod.fst (bw C (List.getD l1 (0+Int.toNat v20) {kind:=0,mode:=0,prio:=0,arg:=0,shift:=0,minute:=0,len:=0}) v5)))]]}:St (X:=els))) {bC:=S0,pO:=S1,qy:=S2,stops:=l0,times:={jZ:=S4,level:=S5,open_:=S6,hZ:=S7,lead:=S8,close:=S9,hold:=S10},rest:=S11,iT:=S12,aE:={base:=S13,shift:=S14,on:={month:=S15,ck:=S16,weekday:=S17,minute:=S18},off:={month:=S19,ck:=S20,weekday:=S21,minute:=S22}},sun:={m0:=S23,m1:=S24,m2:=S25,m3:=S26,m4:=S27,m5:=S28,m6:=S29,m7:=S30,m8:=S31,m9:=S32,m10:=S33,m11:=S34},bq:=S35,ae:=l1}
def x8 (l0:List (Int)) (l1:List (ag)) (l9:List (Span)) (Q0 Q1 Q2 Q4 Q5 Q6 Q7 Q8 Q9 Q10 Q11 Q12 Q13 Q14 Q15 Q16 Q17 Q18 Q19 Q20 Q21 Q22 Q23 Q24 Q25 Q26 Q27 Q28 Q29 Q30 Q31 Q32 Q33 Q34:Int) (Q35:Bool) (S0 S1 S2 S4 S5 S6 S7 S8 S9 S10 S11 S12 S13 S14 S15 S16 S17 S18 S19 S20 S21 S22 S23 S24 S25 S26 S27 S28 S29 S30 S31 S32 S33 S34:Int) (S35:Bool) (U0 W0 v5:Int):St (X:=els):=({tm:=[.is (AV.yld 8), .any, .is (.ptr 6 0), .is (.ptr 4 0), .any, .is (.int .i64 v5), .any, .any, .any, .any, .any, .any, .any, .any, .any, .any, .any, .any, .any, .any, .any, .any, .any, .any, .any, .any, .any, .any, .any, .any, .any, .any, .any, .any, .any, .any, .any, .any, .any, .any],hp:=[Blk.vec El.int l0 false,Blk.vec El.aV l1 false, .raw [.int .i64 Q0, .int .i64 Q1, .int .i64 Q2, .sl 0 0 1 (List.length l0) none, .int .i64 Q4, .int .i64 Q5, .int .i64 Q6, .int .i64 Q7, .int .i64 Q8, .int .i64 Q9, .int .i64 Q10, .int .i64 Q11, .int .i64 Q12, .int .i64 Q13, .int .i64 Q14, .int .i64 Q15, .int .i64 Q16, .int .i64 Q17, .int .i64 Q18, .int .i64 Q19, .int .i64 Q20, .int .i64 Q21, .int .i64 Q22, .int .i64 Q23, .int .i64 Q24, .int .i64 Q25, .int .i64 Q26, .int .i64 Q27, .int .i64 Q28, .int .i64 Q29, .int .i64 Q30, .int .i64 Q31, .int .i64 Q32, .int .i64 Q33, .int .i64 Q34, .bool Q35, .sl 1 0 7 (List.length l1) none], .raw [.sl 10 0 4 (List.length l9) none], .raw [.int .i64 S0, .int .i64 S1, .int .i64 S2, .sl 0 0 1 (List.length l0) none, .int .i64 S4, .int .i64 S5, .int .i64 S6, .int .i64 S7, .int .i64 S8, .int .i64 S9, .int .i64 S10, .int .i64 S11, .int .i64 S12, .int .i64 S13, .int .i64 S14, .int .i64 S15, .int .i64 S16, .int .i64 S17, .int .i64 S18, .int .i64 S19, .int .i64 S20, .int .i64 S21, .int .i64 S22, .int .i64 S23, .int .i64 S24, .int .i64 S25, .int .i64 S26, .int .i64 S27, .int .i64 S28, .int .i64 S29, .int .i64 S30, .int .i64 S31, .int .i64 S32, .int .i64 S33, .int .i64 S34, .bool S35, .sl 1 0 7 (List.length l1) none], .raw [.int .i64 U0], .raw [.int .i64 W0],Blk.dfr,Blk.rcd RS.ready 1 [.any, .any, .any, .any, .any, .any, .any, .any, .any, .is (.ptr 3 0), .any, .any, .any, .any, .any, .any, .any, .any, .any, .any, .any, .any, .any, .any, .any, .any, .any, .any, .any, .any, .any, .any, .any, .any, .any, .any, .is (AV.fn 65 [] [.ptr 5 0, .ptr 6 0, .ptr 4 0]), .any, .any, .any, .any, .any, .any], .dead,Blk.vec El.span l9 true]}:St (X:=els))
noncomputable def Kq:Code:=((aN [false,true,false,false,true,false,false,true,true,false] (Tryz.f65.body.getD .skip)).getD .skip|>fun c=>match c with| .loop c=>c|c=>c)
noncomputable def Cu (F d n:Nat) (s:St (X:=els)):Option (Ex×St (X:=els)):=iter none (fun s' K'=>exec k76 none (bY k76 none F d) F 65 2852 Kq s' (aX none BB K')) n s (fun e s=>some (e,cf GA s))
noncomputable def Gz:List LV→List (Blk (X:=els))→List SV→cm
 | [⟨El.int,l0⟩,⟨El.aV,l1⟩,⟨El.span,l9⟩],[],xs=>aa xs fun Q0 xs=>aa xs fun Q1 xs=>aa xs fun Q2 xs=>aa xs fun Q4 xs=>aa xs fun Q5 xs=>aa xs fun Q6 xs=>aa xs fun Q7 xs=>aa xs fun Q8 xs=>aa xs fun Q9 xs=>aa xs fun Q10 xs=>aa xs fun Q11 xs=>aa xs fun Q12 xs=>aa xs fun Q13 xs=>aa xs fun Q14 xs=>aa xs fun Q15 xs=>aa xs fun Q16 xs=>aa xs fun Q17 xs=>aa xs fun Q18 xs=>aa xs fun Q19 xs=>aa xs fun Q20 xs=>aa xs fun Q21 xs=>aa xs fun Q22 xs=>aa xs fun Q23 xs=>aa xs fun Q24 xs=>aa xs fun Q25 xs=>aa xs fun Q26 xs=>aa xs fun Q27 xs=>aa xs fun Q28 xs=>aa xs fun Q29 xs=>aa xs fun Q30 xs=>aa xs fun Q31 xs=>aa xs fun Q32 xs=>aa xs fun Q33 xs=>aa xs fun Q34 xs=>gJ xs fun Q35 xs=>aa xs fun S0 xs=>aa xs fun S1 xs=>aa xs fun S2 xs=>aa xs fun S4 xs=>aa xs fun S5 xs=>aa xs fun S6 xs=>aa xs fun S7 xs=>aa xs fun S8 xs=>aa xs fun S9 xs=>aa xs fun S10 xs=>aa xs fun S11 xs=>aa xs fun S12 xs=>aa xs fun S13 xs=>aa xs fun S14 xs=>aa xs fun S15 xs=>aa xs fun S16 xs=>aa xs fun S17 xs=>aa xs fun S18 xs=>aa xs fun S19 xs=>aa xs fun S20 xs=>aa xs fun S21 xs=>aa xs fun S22 xs=>aa xs fun S23 xs=>aa xs fun S24 xs=>aa xs fun S25 xs=>aa xs fun S26 xs=>aa xs fun S27 xs=>aa xs fun S28 xs=>aa xs fun S29 xs=>aa xs fun S30 xs=>aa xs fun S31 xs=>aa xs fun S32 xs=>aa xs fun S33 xs=>aa xs fun S34 xs=>gJ xs fun S35 xs=>aa xs fun U0 xs=>aa xs fun W0 xs=>aa xs fun v5 xs=>aa xs fun v19 xs=>aa xs fun v20 xs=>cy xs (some (decide (l0.length≤1048576)&&(decide (l1.length≤1000)&&(decide (l9.length≤100000)&&(v19==(l1.length:Int)&&v20==0))),[], .exit 2,(x8 l0 l1 (l9++bn (⟨S0,S1,S2,l0,⟨S4,S5,S6,S7,S8,S9,S10⟩,S11,S12,⟨S13,S14,⟨S15,S16,S17,S18⟩,⟨S19,S20,S21,S22⟩⟩,⟨S23,S24,S25,S26,S27,S28,S29,S30,S31,S32,S33,S34⟩,S35,l1⟩:Config) v5 l1) Q0 Q1 Q2 Q4 Q5 Q6 Q7 Q8 Q9 Q10 Q11 Q12 Q13 Q14 Q15 Q16 Q17 Q18 Q19 Q20 Q21 Q22 Q23 Q24 Q25 Q26 Q27 Q28 Q29 Q30 Q31 Q32 Q33 Q34 Q35 S0 S1 S2 S4 S5 S6 S7 S8 S9 S10 S11 S12 S13 S14 S15 S16 S17 S18 S19 S20 S21 S22 S23 S24 S25 S26 S27 S28 S29 S30 S31 S32 S33 S34 S35 U0 W0 v5)))
 |_,_,_=>none
noncomputable def k77:Cfg (X:=els):={k76 with lp:=(65,1426,{keep:=tN,m:=10,mv:=BB.mv,ctx:=2,con:=some ((Hp).con Gz)})::k76.lp}
def FG:Pat (X:=els):={tm:=[(.is (.lit (AV.yld 8))), .any,(.is (.lit (AV.ptr 6 0))),(.is (.lit (AV.ptr 4 0))), .any,(.is (.int .i64)), .any, .any, .any, .any, .any, .any, .any, .any, .any, .any, .any, .any, .any, .any, .any, .any, .any, .any, .any, .any, .any, .any, .any, .any, .any, .any, .any, .any, .any, .any, .any, .any, .any, .any],hp:=[(.vec (.int:El) false),(.vec (.aV:El) false),(.raw [(.int .i64),(.int .i64),(.int .i64),(.slW 0 1),(.int .i64),(.int .i64),(.int .i64),(.int .i64),(.int .i64),(.int .i64),(.int .i64),(.int .i64),(.int .i64),(.int .i64),(.int .i64),(.int .i64),(.int .i64),(.int .i64),(.int .i64),(.int .i64),(.int .i64),(.int .i64),(.int .i64),(.int .i64),(.int .i64),(.int .i64),(.int .i64),(.int .i64),(.int .i64),(.int .i64),(.int .i64),(.int .i64),(.int .i64),(.int .i64),(.int .i64), .bool,(.slW 1 7)]),(.raw [(.slW 9 4)]),(.raw [(.int .i64),(.int .i64),(.int .i64),(.slW 0 1),(.int .i64),(.int .i64),(.int .i64),(.int .i64),(.int .i64),(.int .i64),(.int .i64),(.int .i64),(.int .i64),(.int .i64),(.int .i64),(.int .i64),(.int .i64),(.int .i64),(.int .i64),(.int .i64),(.int .i64),(.int .i64),(.int .i64),(.int .i64),(.int .i64),(.int .i64),(.int .i64),(.int .i64),(.int .i64),(.int .i64),(.int .i64),(.int .i64),(.int .i64),(.int .i64),(.int .i64), .bool,(.slW 1 7)]),(.raw [(.int .i64)]),(.raw [(.int .i64)]), .dfr,(.rcd 1 [.any, .any, .any, .any, .any, .any, .any, .any, .any,(.is (.lit (AV.ptr 3 0))), .any, .any, .any, .any, .any, .any, .any, .any, .any, .any, .any, .any, .any, .any, .any, .any, .any, .any, .any, .any, .any, .any, .any, .any, .any, .any,(.is (.lit (AV.fn 65 [] [AV.ptr 5 0,AV.ptr 6 0,AV.ptr 4 0]))), .any, .any, .any, .any, .any, .any]),(.vec (.span:El) true)]}
def tM:List Nat:=[0,2,3,5]
def GB:List Nat:=[]
noncomputable def Bo:bJ (X:=els):={keep:=tM,m:=9,mv:=[(.cell 3 0,(.span:El))]}
def CO (l0:List (Int)) (l1:List (ag)) (l9:List (Span)) (Q0 Q1 Q2 Q4 Q5 Q6 Q7 Q8 Q9 Q10 Q11 Q12 Q13 Q14 Q15 Q16 Q17 Q18 Q19 Q20 Q21 Q22 Q23 Q24 Q25 Q26 Q27 Q28 Q29 Q30 Q31 Q32 Q33 Q34:Int) (Q35:Bool) (S0 S1 S2 S4 S5 S6 S7 S8 S9 S10 S11 S12 S13 S14 S15 S16 S17 S18 S19 S20 S21 S22 S23 S24 S25 S26 S27 S28 S29 S30 S31 S32 S33 S34:Int) (S35:Bool) (U0 W0 v5:Int):St (X:=els):={tm:=[.is (AV.yld 8), .any, .is (.ptr 6 0), .is (.ptr 4 0), .any, .is (.int .i64 v5), .any, .any, .any, .any, .any, .any, .any, .any, .any, .any, .any, .any, .any, .any, .any, .any, .any, .any, .any, .any, .any, .any, .any, .any, .any, .any, .any, .any, .any, .any, .any, .any, .any, .any],hp:=[Blk.vec El.int l0 false,Blk.vec El.aV l1 false, .raw [.int .i64 Q0, .int .i64 Q1, .int .i64 Q2, .sl 0 0 1 (List.length l0) none, .int .i64 Q4, .int .i64 Q5, .int .i64 Q6, .int .i64 Q7, .int .i64 Q8, .int .i64 Q9, .int .i64 Q10, .int .i64 Q11, .int .i64 Q12, .int .i64 Q13, .int .i64 Q14, .int .i64 Q15, .int .i64 Q16, .int .i64 Q17, .int .i64 Q18, .int .i64 Q19, .int .i64 Q20, .int .i64 Q21, .int .i64 Q22, .int .i64 Q23, .int .i64 Q24, .int .i64 Q25, .int .i64 Q26, .int .i64 Q27, .int .i64 Q28, .int .i64 Q29, .int .i64 Q30, .int .i64 Q31, .int .i64 Q32, .int .i64 Q33, .int .i64 Q34, .bool Q35, .sl 1 0 7 (List.length l1) none], .raw [.sl 9 0 4 (List.length l9) none], .raw [.int .i64 S0, .int .i64 S1, .int .i64 S2, .sl 0 0 1 (List.length l0) none, .int .i64 S4, .int .i64 S5, .int .i64 S6, .int .i64 S7, .int .i64 S8, .int .i64 S9, .int .i64 S10, .int .i64 S11, .int .i64 S12, .int .i64 S13, .int .i64 S14, .int .i64 S15, .int .i64 S16, .int .i64 S17, .int .i64 S18, .int .i64 S19, .int .i64 S20, .int .i64 S21, .int .i64 S22, .int .i64 S23, .int .i64 S24, .int .i64 S25, .int .i64 S26, .int .i64 S27, .int .i64 S28, .int .i64 S29, .int .i64 S30, .int .i64 S31, .int .i64 S32, .int .i64 S33, .int .i64 S34, .bool S35, .sl 1 0 7 (List.length l1) none], .raw [.int .i64 U0], .raw [.int .i64 W0],Blk.dfr,Blk.rcd RS.ready 1 [.any, .any, .any, .any, .any, .any, .any, .any, .any, .is (.ptr 3 0), .any, .any, .any, .any, .any, .any, .any, .any, .any, .any, .any, .any, .any, .any, .any, .any, .any, .any, .any, .any, .any, .any, .any, .any, .any, .any, .is (AV.fn 65 [] [.ptr 5 0, .ptr 6 0, .ptr 4 0]), .any, .any, .any, .any, .any, .any],Blk.vec El.span l9 true]}
def wX (l0:List (Int)) (l1:List (ag)) (l9:List (Span)) (Q0 Q1 Q2 Q4 Q5 Q6 Q7 Q8 Q9 Q10 Q11 Q12 Q13 Q14 Q15 Q16 Q17 Q18 Q19 Q20 Q21 Q22 Q23 Q24 Q25 Q26 Q27 Q28 Q29 Q30 Q31 Q32 Q33 Q34:Int) (Q35:Bool) (S0 S1 S2 S4 S5 S6 S7 S8 S9 S10 S11 S12 S13 S14 S15 S16 S17 S18 S19 S20 S21 S22 S23 S24 S25 S26 S27 S28 S29 S30 S31 S32 S33 S34:Int) (S35:Bool) (U0 W0:Int):St (X:=els):=({tm:=[.any, .any, .any, .any, .any, .any, .any, .any, .any, .any, .any, .any, .any, .any, .any, .any, .any, .any, .any, .any, .any, .any, .any, .any, .any, .any, .any, .any, .any, .any, .any, .any, .any, .any, .any, .any, .any, .any, .any, .any],hp:=[Blk.vec El.int l0 false,Blk.vec El.aV l1 false, .raw [.int .i64 Q0, .int .i64 Q1, .int .i64 Q2, .sl 0 0 1 (List.length l0) none, .int .i64 Q4, .int .i64 Q5, .int .i64 Q6, .int .i64 Q7, .int .i64 Q8, .int .i64 Q9, .int .i64 Q10, .int .i64 Q11, .int .i64 Q12, .int .i64 Q13, .int .i64 Q14, .int .i64 Q15, .int .i64 Q16, .int .i64 Q17, .int .i64 Q18, .int .i64 Q19, .int .i64 Q20, .int .i64 Q21, .int .i64 Q22, .int .i64 Q23, .int .i64 Q24, .int .i64 Q25, .int .i64 Q26, .int .i64 Q27, .int .i64 Q28, .int .i64 Q29, .int .i64 Q30, .int .i64 Q31, .int .i64 Q32, .int .i64 Q33, .int .i64 Q34, .bool Q35, .sl 1 0 7 (List.length l1) none], .raw [.sl 9 0 4 (List.length l9) none], .raw [.int .i64 S0, .int .i64 S1, .int .i64 S2, .sl 0 0 1 (List.length l0) none, .int .i64 S4, .int .i64 S5, .int .i64 S6, .int .i64 S7, .int .i64 S8, .int .i64 S9, .int .i64 S10, .int .i64 S11, .int .i64 S12, .int .i64 S13, .int .i64 S14, .int .i64 S15, .int .i64 S16, .int .i64 S17, .int .i64 S18, .int .i64 S19, .int .i64 S20, .int .i64 S21, .int .i64 S22, .int .i64 S23, .int .i64 S24, .int .i64 S25, .int .i64 S26, .int .i64 S27, .int .i64 S28, .int .i64 S29, .int .i64 S30, .int .i64 S31, .int .i64 S32, .int .i64 S33, .int .i64 S34, .bool S35, .sl 1 0 7 (List.length l1) none], .raw [.int .i64 U0], .raw [.int .i64 W0],Blk.dfr,Blk.rcd RS.ready 1 [.any, .any, .any, .any, .any, .any, .any, .any, .any, .is (.ptr 3 0), .any, .any, .any, .any, .any, .any, .any, .any, .any, .any, .any, .any, .any, .any, .any, .any, .any, .any, .any, .any, .any, .any, .any, .any, .any, .any, .is (AV.fn 65 [] [.ptr 5 0, .ptr 6 0, .ptr 4 0]), .any, .any, .any, .any, .any, .any],Blk.vec El.span l9 true]}:St (X:=els))
noncomputable def JM:Code:=((aN [false,true,true,false] (Tryz.f65.body.getD .skip)).getD .skip|>fun c=>match c with| .loop c=>c|c=>c)
noncomputable def F9 (F d n:Nat) (s:St (X:=els)):Option (Ex×St (X:=els)):=iter none (fun s' K'=>exec k77 none (bY k77 none F d) F 65 44 JM s' (aX none Bo K')) n s (fun e s=>some (e,cf GB s))
noncomputable def GI:List LV→List (Blk (X:=els))→List SV→cm
 | [⟨El.int,l0⟩,⟨El.aV,l1⟩,⟨El.span,l9⟩],[],xs=>aa xs fun Q0 xs=>aa xs fun Q1 xs=>aa xs fun Q2 xs=>aa xs fun Q4 xs=>aa xs fun Q5 xs=>aa xs fun Q6 xs=>aa xs fun Q7 xs=>aa xs fun Q8 xs=>aa xs fun Q9 xs=>aa xs fun Q10 xs=>aa xs fun Q11 xs=>aa xs fun Q12 xs=>aa xs fun Q13 xs=>aa xs fun Q14 xs=>aa xs fun Q15 xs=>aa xs fun Q16 xs=>aa xs fun Q17 xs=>aa xs fun Q18 xs=>aa xs fun Q19 xs=>aa xs fun Q20 xs=>aa xs fun Q21 xs=>aa xs fun Q22 xs=>aa xs fun Q23 xs=>aa xs fun Q24 xs=>aa xs fun Q25 xs=>aa xs fun Q26 xs=>aa xs fun Q27 xs=>aa xs fun Q28 xs=>aa xs fun Q29 xs=>aa xs fun Q30 xs=>aa xs fun Q31 xs=>aa xs fun Q32 xs=>aa xs fun Q33 xs=>aa xs fun Q34 xs=>gJ xs fun Q35 xs=>aa xs fun S0 xs=>aa xs fun S1 xs=>aa xs fun S2 xs=>aa xs fun S4 xs=>aa xs fun S5 xs=>aa xs fun S6 xs=>aa xs fun S7 xs=>aa xs fun S8 xs=>aa xs fun S9 xs=>aa xs fun S10 xs=>aa xs fun S11 xs=>aa xs fun S12 xs=>aa xs fun S13 xs=>aa xs fun S14 xs=>aa xs fun S15 xs=>aa xs fun S16 xs=>aa xs fun S17 xs=>aa xs fun S18 xs=>aa xs fun S19 xs=>aa xs fun S20 xs=>aa xs fun S21 xs=>aa xs fun S22 xs=>aa xs fun S23 xs=>aa xs fun S24 xs=>aa xs fun S25 xs=>aa xs fun S26 xs=>aa xs fun S27 xs=>aa xs fun S28 xs=>aa xs fun S29 xs=>aa xs fun S30 xs=>aa xs fun S31 xs=>aa xs fun S32 xs=>aa xs fun S33 xs=>aa xs fun S34 xs=>gJ xs fun S35 xs=>aa xs fun U0 xs=>aa xs fun W0 xs=>aa xs fun v5 xs=>cy xs (some (decide (l0.length≤1048576)&&(decide (l1.length≤1000)&&(l9.length==0&&fg v5 W0)),[], .exit 0,(wX l0 l1 (cD (⟨S0,S1,S2,l0,⟨S4,S5,S6,S7,S8,S9,S10⟩,S11,S12,⟨S13,S14,⟨S15,S16,S17,S18⟩,⟨S19,S20,S21,S22⟩⟩,⟨S23,S24,S25,S26,S27,S28,S29,S30,S31,S32,S33,S34⟩,S35,l1⟩:Config) (W0-v5+1).toNat v5) Q0 Q1 Q2 Q4 Q5 Q6 Q7 Q8 Q9 Q10 Q11 Q12 Q13 Q14 Q15 Q16 Q17 Q18 Q19 Q20 Q21 Q22 Q23 Q24 Q25 Q26 Q27 Q28 Q29 Q30 Q31 Q32 Q33 Q34 Q35 S0 S1 S2 S4 S5 S6 S7 S8 S9 S10 S11 S12 S13 S14 S15 S16 S17 S18 S19 S20 S21 S22 S23 S24 S25 S26 S27 S28 S29 S30 S31 S32 S33 S34 S35 U0 W0)))
 |_,_,_=>none
noncomputable def k78:Cfg (X:=els):={k77 with lp:=(65,22,{keep:=tM,m:=9,mv:=Bo.mv,ctx:=2,con:=some ((FG).con GI)})::k77.lp}
noncomputable def nh:=(Sig.cons true bG (Sig.cons false (Dat.ah (Cel.int .i64)) (Sig.cons false (Dat.ah (Cel.int .i64)) Sig.nil)))
noncomputable def nm:=(Out.tup (tW.cons (Out.one (Own.sl (.span:El))) (tW.last (Out.one (Own.ah (Cel.int .i64))))))
noncomputable def k79:Cfg (X:=els):={k78 with H:=(13,(nh).gS nm (fun x=>(cS x.1 x.2.1 x.2.2.1)) (fun x=>AL x.1 x.2.1 x.2.2.1))::k78.H}
noncomputable def nr:=(Sig.cons true bG (Sig.cons false (Dat.ah (Cel.int .i64)) Sig.nil))
noncomputable def nn:=(Out.tup (tW.cons (Out.one (Own.sl (.span:El))) (tW.last (Out.one (Own.ah (Cel.int .i64))))))
noncomputable def k80:Cfg (X:=els):={k79 with H:=(28,(nr).gS nn (fun x=>(bQ x.1 x.2.1)) (fun x=>kP x.1 x.2.1))::k79.H}
noncomputable def rI:=(Sig.cons true bG (Sig.cons false (Dat.ah (Cel.int .i64)) Sig.nil))
noncomputable def rf:=(Out.tup (tW.cons (Out.one (Own.sl (.span:El))) (tW.last (Out.one (Own.ah (Cel.int .i64))))))
noncomputable def k81:Cfg (X:=els):={k80 with H:=(11,(rI).gS rf (fun x=>(K2 x.1 x.2.1)) (fun x=>tI x.1 x.2.1))::k80.H}
noncomputable def lS:=(Sig.cons true bG (Sig.cons false (Dat.ah (Cel.int .i64)) Sig.nil))
noncomputable def rF:=Res.bool
noncomputable def k82:Cfg (X:=els):={k81 with E:=(40,(lS).con rF (fun x=>(dz x.1 x.2.1)) (fun x=>dS x.1 x.2.1))::k81.E}
noncomputable def o6:=(Sig.cons true bG (Sig.cons false (Dat.ah (Cel.int .i64)) Sig.nil))
noncomputable def xR:=(Res.Fg (Res.int .i64) (Res.int .i64) (Res.int .i64))
noncomputable def k83:Cfg (X:=els):={k82 with E:=(19,(o6).con xR (fun x=>(fK x.1 x.2.1)) (fun x=>tI x.1 x.2.1))::k82.E}
noncomputable def gi:=(Sig.cons true (Dat.ah dw) Sig.nil)
noncomputable def fX:=Res.bool
noncomputable def k84:Cfg (X:=els):={k83 with E:=(69,(gi).con fX (fun x=>(jX x.1)) (fun _=>true))::k83.E}
noncomputable def hO:=(Sig.cons false (Dat.ah (Cel.int .i64)) Sig.nil)
noncomputable def iE:=Res.bool
noncomputable def k85:Cfg (X:=els):={k84 with E:=(67,(hO).con iE (fun x=>(lq x.1)) (fun _=>true))::k84.E}
noncomputable def gY:=(Sig.cons true (Dat.ah EN) Sig.nil)
noncomputable def hP:=Res.bool
noncomputable def k86:Cfg (X:=els):={k85 with E:=(68,(gY).con hP (fun x=>(gL x.1)) (fun _=>true))::k85.E}
noncomputable def fD:=(Sig.cons true (Dat.ah dw) Sig.nil)
noncomputable def fy:=Res.bool
noncomputable def k87:Cfg (X:=els):={k86 with E:=(35,(fD).con fy (fun x=>(bj x.1)) (fun _=>true))::k86.E}
noncomputable def gB:=(Sig.cons true (Dat.ah jE) Sig.nil)
noncomputable def fZ:=(Res.int .i64)
noncomputable def k88:Cfg (X:=els):={k87 with E:=(33,(gB).con fZ (fun x=>(ao x.1)) (fun _=>true))::k87.E}
noncomputable def gm:=(Sig.cons true (Dat.ah H7) Sig.nil)
noncomputable def gG:=(Res.int .i64)
noncomputable def k89:Cfg (X:=els):={k88 with E:=(34,(gm).con gG (fun x=>(ax x.1)) (fun _=>true))::k88.E}
noncomputable def gq:=(Sig.cons true bG Sig.nil)
noncomputable def gC:=Res.bool
noncomputable def k90:Cfg (X:=els):={k89 with E:=(32,(gq).con gC (fun x=>(u7 x.1)) (fun _=>true))::k89.E}
def xw:Pat (X:=els):={tm:=[.any,(.is (.lit (AV.ptr 2 0))), .any,(.is (.int .i64)), .any, .any, .any, .any, .any, .any, .any, .any, .any, .any, .any, .any, .any, .any, .any, .any, .any, .any, .any, .any, .any, .any, .any, .any, .any, .any, .any, .any, .any, .any, .any, .any, .any, .any, .any, .any, .any, .any, .any, .any, .any, .any, .any, .any, .any],hp:=[(.vec (.int:El) false),(.vec (.aV:El) false),(.raw [(.int .i64),(.int .i64),(.int .i64),(.slW 0 1),(.int .i64),(.int .i64),(.int .i64),(.int .i64),(.int .i64),(.int .i64),(.int .i64),(.int .i64),(.int .i64),(.int .i64),(.int .i64),(.int .i64),(.int .i64),(.int .i64),(.int .i64),(.int .i64),(.int .i64),(.int .i64),(.int .i64),(.int .i64),(.int .i64),(.int .i64),(.int .i64),(.int .i64),(.int .i64),(.int .i64),(.int .i64),(.int .i64),(.int .i64),(.int .i64),(.int .i64), .bool,(.slW 1 7)])]}
def mw:List Nat:=[1,3]
def yH:List Nat:=[1,2]
noncomputable def tk:bJ (X:=els):={keep:=mw,m:=3,mv:=[]}
def sb (l0:List (Int)) (l1:List (ag)) (Q0 Q1 Q2 Q4 Q5 Q6 Q7 Q8 Q9 Q10 Q11 Q12 Q13 Q14 Q15 Q16 Q17 Q18 Q19 Q20 Q21 Q22 Q23 Q24 Q25 Q26 Q27 Q28 Q29 Q30 Q31 Q32 Q33 Q34:Int) (Q35:Bool) (v3:Int):St (X:=els):={tm:=[.any, .is (.ptr 2 0), .any, .is (.int .i64 v3), .any, .any, .any, .any, .any, .any, .any, .any, .any, .any, .any, .any, .any, .any, .any, .any, .any, .any, .any, .any, .any, .any, .any, .any, .any, .any, .any, .any, .any, .any, .any, .any, .any, .any, .any, .any, .any, .any, .any, .any, .any, .any, .any, .any, .any],hp:=[Blk.vec El.int l0 false,Blk.vec El.aV l1 false, .raw [.int .i64 Q0, .int .i64 Q1, .int .i64 Q2, .sl 0 0 1 (List.length l0) none, .int .i64 Q4, .int .i64 Q5, .int .i64 Q6, .int .i64 Q7, .int .i64 Q8, .int .i64 Q9, .int .i64 Q10, .int .i64 Q11, .int .i64 Q12, .int .i64 Q13, .int .i64 Q14, .int .i64 Q15, .int .i64 Q16, .int .i64 Q17, .int .i64 Q18, .int .i64 Q19, .int .i64 Q20, .int .i64 Q21, .int .i64 Q22, .int .i64 Q23, .int .i64 Q24, .int .i64 Q25, .int .i64 Q26, .int .i64 Q27, .int .i64 Q28, .int .i64 Q29, .int .i64 Q30, .int .i64 Q31, .int .i64 Q32, .int .i64 Q33, .int .i64 Q34, .bool Q35, .sl 1 0 7 (List.length l1) none]]}
def pd (l0:List (Int)) (l1:List (ag)) (Q0 Q1 Q2 Q4 Q5 Q6 Q7 Q8 Q9 Q10 Q11 Q12 Q13 Q14 Q15 Q16 Q17 Q18 Q19 Q20 Q21 Q22 Q23 Q24 Q25 Q26 Q27 Q28 Q29 Q30 Q31 Q32 Q33 Q34:Int) (Q35:Bool):St (X:=els):=({tm:=[.any, .is (.ptr 2 0), .is (.bool false), .any, .any, .any, .any, .any, .any, .any, .any, .any, .any, .any, .any, .any, .any, .any, .any, .any, .any, .any, .any, .any, .any, .any, .any, .any, .any, .any, .any, .any, .any, .any, .any, .any, .any, .any, .any, .any, .any, .any, .any, .any, .any, .any, .any, .any, .any],hp:=[Blk.vec El.int l0 false,Blk.vec El.aV l1 false, .raw [.int .i64 Q0, .int .i64 Q1, .int .i64 Q2, .sl 0 0 1 (List.length l0) none, .int .i64 Q4, .int .i64 Q5, .int .i64 Q6, .int .i64 Q7, .int .i64 Q8, .int .i64 Q9, .int .i64 Q10, .int .i64 Q11, .int .i64 Q12, .int .i64 Q13, .int .i64 Q14, .int .i64 Q15, .int .i64 Q16, .int .i64 Q17, .int .i64 Q18, .int .i64 Q19, .int .i64 Q20, .int .i64 Q21, .int .i64 Q22, .int .i64 Q23, .int .i64 Q24, .int .i64 Q25, .int .i64 Q26, .int .i64 Q27, .int .i64 Q28, .int .i64 Q29, .int .i64 Q30, .int .i64 Q31, .int .i64 Q32, .int .i64 Q33, .int .i64 Q34, .bool Q35, .sl 1 0 7 (List.length l1) none]]}:St (X:=els))
def oN (l0:List (Int)) (l1:List (ag)) (Q0 Q1 Q2 Q4 Q5 Q6 Q7 Q8 Q9 Q10 Q11 Q12 Q13 Q14 Q15 Q16 Q17 Q18 Q19 Q20 Q21 Q22 Q23 Q24 Q25 Q26 Q27 Q28 Q29 Q30 Q31 Q32 Q33 Q34:Int) (Q35:Bool):St (X:=els):=({tm:=[.any, .is (.ptr 2 0), .any, .any, .any, .any, .any, .any, .any, .any, .any, .any, .any, .any, .any, .any, .any, .any, .any, .any, .any, .any, .any, .any, .any, .any, .any, .any, .any, .any, .any, .any, .any, .any, .any, .any, .any, .any, .any, .any, .any, .any, .any, .any, .any, .any, .any, .any, .any],hp:=[Blk.vec El.int l0 false,Blk.vec El.aV l1 false, .raw [.int .i64 Q0, .int .i64 Q1, .int .i64 Q2, .sl 0 0 1 (List.length l0) none, .int .i64 Q4, .int .i64 Q5, .int .i64 Q6, .int .i64 Q7, .int .i64 Q8, .int .i64 Q9, .int .i64 Q10, .int .i64 Q11, .int .i64 Q12, .int .i64 Q13, .int .i64 Q14, .int .i64 Q15, .int .i64 Q16, .int .i64 Q17, .int .i64 Q18, .int .i64 Q19, .int .i64 Q20, .int .i64 Q21, .int .i64 Q22, .int .i64 Q23, .int .i64 Q24, .int .i64 Q25, .int .i64 Q26, .int .i64 Q27, .int .i64 Q28, .int .i64 Q29, .int .i64 Q30, .int .i64 Q31, .int .i64 Q32, .int .i64 Q33, .int .i64 Q34, .bool Q35, .sl 1 0 7 (List.length l1) none]]}:St (X:=els))
noncomputable def DI:Code:=((aN [false,true,false,true] (Tryz.f31.body.getD .skip)).getD .skip|>fun c=>match c with| .loop c=>c|c=>c)
noncomputable def xd (F d n:Nat) (s:St (X:=els)):Option (Ex×St (X:=els)):=iter none (fun s' K'=>exec k90 none (bY k90 none F d) F 31 52 DI s' (aX none tk K')) n s (fun e s=>some (e,cf yH s))
noncomputable def wP:List LV→List (Blk (X:=els))→List SV→cm
 | [⟨El.int,l0⟩,⟨El.aV,l1⟩],[],xs=>aa xs fun Q0 xs=>aa xs fun Q1 xs=>aa xs fun Q2 xs=>aa xs fun Q4 xs=>aa xs fun Q5 xs=>aa xs fun Q6 xs=>aa xs fun Q7 xs=>aa xs fun Q8 xs=>aa xs fun Q9 xs=>aa xs fun Q10 xs=>aa xs fun Q11 xs=>aa xs fun Q12 xs=>aa xs fun Q13 xs=>aa xs fun Q14 xs=>aa xs fun Q15 xs=>aa xs fun Q16 xs=>aa xs fun Q17 xs=>aa xs fun Q18 xs=>aa xs fun Q19 xs=>aa xs fun Q20 xs=>aa xs fun Q21 xs=>aa xs fun Q22 xs=>aa xs fun Q23 xs=>aa xs fun Q24 xs=>aa xs fun Q25 xs=>aa xs fun Q26 xs=>aa xs fun Q27 xs=>aa xs fun Q28 xs=>aa xs fun Q29 xs=>aa xs fun Q30 xs=>aa xs fun Q31 xs=>aa xs fun Q32 xs=>aa xs fun Q33 xs=>aa xs fun Q34 xs=>gJ xs fun Q35 xs=>aa xs fun v3 xs=>cy xs (some (decide (l0.length≤1048576)&&v3==0,[(AG Q0 none l0, .exit 0,(oN l0 l1 Q0 Q1 Q2 Q4 Q5 Q6 Q7 Q8 Q9 Q10 Q11 Q12 Q13 Q14 Q15 Q16 Q17 Q18 Q19 Q20 Q21 Q22 Q23 Q24 Q25 Q26 Q27 Q28 Q29 Q30 Q31 Q32 Q33 Q34 Q35))], .ret,(pd l0 l1 Q0 Q1 Q2 Q4 Q5 Q6 Q7 Q8 Q9 Q10 Q11 Q12 Q13 Q14 Q15 Q16 Q17 Q18 Q19 Q20 Q21 Q22 Q23 Q24 Q25 Q26 Q27 Q28 Q29 Q30 Q31 Q32 Q33 Q34 Q35)))
 |_,_,_=>none
noncomputable def k91:Cfg (X:=els):={k90 with lp:=(31,26,{keep:=mw,m:=3,mv:=tk.mv,ctx:=0,con:=some ((xw).con wP)})::k90.lp}
noncomputable def gx:=(Sig.cons true bG Sig.nil)
noncomputable def fY:=Res.bool
noncomputable def k92:Cfg (X:=els):={k91 with E:=(31,(gx).con fY (fun x=>(gP x.1)) (fun x=>aY x.1))::k91.E}
def AP:Pat (X:=els):={tm:=[.any,(.is (.lit (AV.ptr 2 0))), .any, .any, .any, .any, .any,(.is (.int .i64)), .any, .any, .any, .any, .any, .any, .any, .any, .any, .any, .any, .any, .any, .any, .any, .any, .any, .any, .any, .any, .any, .any, .any, .any, .any, .any, .any, .any, .any, .any, .any, .any, .any, .any, .any, .any, .any, .any, .any, .any, .any, .any, .any, .any, .any, .any, .any, .any, .any, .any, .any, .any, .any, .any, .any, .any, .any, .any, .any, .any, .any, .any, .any, .any, .any, .any, .any, .any, .any, .any],hp:=[(.vec (.int:El) false),(.vec (.aV:El) false),(.raw [(.int .i64),(.int .i64),(.int .i64),(.slW 0 1),(.int .i64),(.int .i64),(.int .i64),(.int .i64),(.int .i64),(.int .i64),(.int .i64),(.int .i64),(.int .i64),(.int .i64),(.int .i64),(.int .i64),(.int .i64),(.int .i64),(.int .i64),(.int .i64),(.int .i64),(.int .i64),(.int .i64),(.int .i64),(.int .i64),(.int .i64),(.int .i64),(.int .i64),(.int .i64),(.int .i64),(.int .i64),(.int .i64),(.int .i64),(.int .i64),(.int .i64), .bool,(.slW 1 7)])]}
def pH:List Nat:=[1,7]
def CC:List Nat:=[2]
noncomputable def xz:bJ (X:=els):={keep:=pH,m:=3,mv:=[]}
def wQ (l0:List (Int)) (l1:List (ag)) (Q0 Q1 Q2 Q4 Q5 Q6 Q7 Q8 Q9 Q10 Q11 Q12 Q13 Q14 Q15 Q16 Q17 Q18 Q19 Q20 Q21 Q22 Q23 Q24 Q25 Q26 Q27 Q28 Q29 Q30 Q31 Q32 Q33 Q34:Int) (Q35:Bool) (v7:Int):St (X:=els):={tm:=[.any, .is (.ptr 2 0), .any, .any, .any, .any, .any, .is (.int .i64 v7), .any, .any, .any, .any, .any, .any, .any, .any, .any, .any, .any, .any, .any, .any, .any, .any, .any, .any, .any, .any, .any, .any, .any, .any, .any, .any, .any, .any, .any, .any, .any, .any, .any, .any, .any, .any, .any, .any, .any, .any, .any, .any, .any, .any, .any, .any, .any, .any, .any, .any, .any, .any, .any, .any, .any, .any, .any, .any, .any, .any, .any, .any, .any, .any, .any, .any, .any, .any, .any, .any],hp:=[Blk.vec El.int l0 false,Blk.vec El.aV l1 false, .raw [.int .i64 Q0, .int .i64 Q1, .int .i64 Q2, .sl 0 0 1 (List.length l0) none, .int .i64 Q4, .int .i64 Q5, .int .i64 Q6, .int .i64 Q7, .int .i64 Q8, .int .i64 Q9, .int .i64 Q10, .int .i64 Q11, .int .i64 Q12, .int .i64 Q13, .int .i64 Q14, .int .i64 Q15, .int .i64 Q16, .int .i64 Q17, .int .i64 Q18, .int .i64 Q19, .int .i64 Q20, .int .i64 Q21, .int .i64 Q22, .int .i64 Q23, .int .i64 Q24, .int .i64 Q25, .int .i64 Q26, .int .i64 Q27, .int .i64 Q28, .int .i64 Q29, .int .i64 Q30, .int .i64 Q31, .int .i64 Q32, .int .i64 Q33, .int .i64 Q34, .bool Q35, .sl 1 0 7 (List.length l1) none]]}
def tp (l0:List (Int)) (l1:List (ag)) (Q0 Q1 Q2 Q4 Q5 Q6 Q7 Q8 Q9 Q10 Q11 Q12 Q13 Q14 Q15 Q16 Q17 Q18 Q19 Q20 Q21 Q22 Q23 Q24 Q25 Q26 Q27 Q28 Q29 Q30 Q31 Q32 Q33 Q34:Int) (Q35:Bool):St (X:=els):=({tm:=[.any, .any, .is (.int .i64 104), .any, .any, .any, .any, .any, .any, .any, .any, .any, .any, .any, .any, .any, .any, .any, .any, .any, .any, .any, .any, .any, .any, .any, .any, .any, .any, .any, .any, .any, .any, .any, .any, .any, .any, .any, .any, .any, .any, .any, .any, .any, .any, .any, .any, .any, .any, .any, .any, .any, .any, .any, .any, .any, .any, .any, .any, .any, .any, .any, .any, .any, .any, .any, .any, .any, .any, .any, .any, .any, .any, .any, .any, .any, .any, .any],hp:=[Blk.vec El.int l0 false,Blk.vec El.aV l1 false, .raw [.int .i64 Q0, .int .i64 Q1, .int .i64 Q2, .sl 0 0 1 (List.length l0) none, .int .i64 Q4, .int .i64 Q5, .int .i64 Q6, .int .i64 Q7, .int .i64 Q8, .int .i64 Q9, .int .i64 Q10, .int .i64 Q11, .int .i64 Q12, .int .i64 Q13, .int .i64 Q14, .int .i64 Q15, .int .i64 Q16, .int .i64 Q17, .int .i64 Q18, .int .i64 Q19, .int .i64 Q20, .int .i64 Q21, .int .i64 Q22, .int .i64 Q23, .int .i64 Q24, .int .i64 Q25, .int .i64 Q26, .int .i64 Q27, .int .i64 Q28, .int .i64 Q29, .int .i64 Q30, .int .i64 Q31, .int .i64 Q32, .int .i64 Q33, .int .i64 Q34, .bool Q35, .sl 1 0 7 (List.length l1) none]]}:St (X:=els))
def tK (l0:List (Int)) (l1:List (ag)) (Q0 Q1 Q2 Q4 Q5 Q6 Q7 Q8 Q9 Q10 Q11 Q12 Q13 Q14 Q15 Q16 Q17 Q18 Q19 Q20 Q21 Q22 Q23 Q24 Q25 Q26 Q27 Q28 Q29 Q30 Q31 Q32 Q33 Q34:Int) (Q35:Bool):St (X:=els):=({tm:=[.any, .any, .any, .any, .any, .any, .any, .any, .any, .any, .any, .any, .any, .any, .any, .any, .any, .any, .any, .any, .any, .any, .any, .any, .any, .any, .any, .any, .any, .any, .any, .any, .any, .any, .any, .any, .any, .any, .any, .any, .any, .any, .any, .any, .any, .any, .any, .any, .any, .any, .any, .any, .any, .any, .any, .any, .any, .any, .any, .any, .any, .any, .any, .any, .any, .any, .any, .any, .any, .any, .any, .any, .any, .any, .any, .any, .any, .any],hp:=[Blk.vec El.int l0 false,Blk.vec El.aV l1 false, .raw [.int .i64 Q0, .int .i64 Q1, .int .i64 Q2, .sl 0 0 1 (List.length l0) none, .int .i64 Q4, .int .i64 Q5, .int .i64 Q6, .int .i64 Q7, .int .i64 Q8, .int .i64 Q9, .int .i64 Q10, .int .i64 Q11, .int .i64 Q12, .int .i64 Q13, .int .i64 Q14, .int .i64 Q15, .int .i64 Q16, .int .i64 Q17, .int .i64 Q18, .int .i64 Q19, .int .i64 Q20, .int .i64 Q21, .int .i64 Q22, .int .i64 Q23, .int .i64 Q24, .int .i64 Q25, .int .i64 Q26, .int .i64 Q27, .int .i64 Q28, .int .i64 Q29, .int .i64 Q30, .int .i64 Q31, .int .i64 Q32, .int .i64 Q33, .int .i64 Q34, .bool Q35, .sl 1 0 7 (List.length l1) none]]}:St (X:=els))
noncomputable def GP:Code:=((aN [false,true,false,true,true,true,true,true,true,true,true,true,true,true] (Tryz.f14.body.getD .skip)).getD .skip|>fun c=>match c with| .loop c=>c|c=>c)
noncomputable def Bi (F d n:Nat) (s:St (X:=els)):Option (Ex×St (X:=els)):=iter none (fun s' K'=>exec k92 none (bY k92 none F d) F 14 65524 GP s' (aX none xz K')) n s (fun e s=>some (e,cf CC s))
noncomputable def Bb:List LV→List (Blk (X:=els))→List SV→cm
 | [⟨El.int,l0⟩,⟨El.aV,l1⟩],[],xs=>aa xs fun Q0 xs=>aa xs fun Q1 xs=>aa xs fun Q2 xs=>aa xs fun Q4 xs=>aa xs fun Q5 xs=>aa xs fun Q6 xs=>aa xs fun Q7 xs=>aa xs fun Q8 xs=>aa xs fun Q9 xs=>aa xs fun Q10 xs=>aa xs fun Q11 xs=>aa xs fun Q12 xs=>aa xs fun Q13 xs=>aa xs fun Q14 xs=>aa xs fun Q15 xs=>aa xs fun Q16 xs=>aa xs fun Q17 xs=>aa xs fun Q18 xs=>aa xs fun Q19 xs=>aa xs fun Q20 xs=>aa xs fun Q21 xs=>aa xs fun Q22 xs=>aa xs fun Q23 xs=>aa xs fun Q24 xs=>aa xs fun Q25 xs=>aa xs fun Q26 xs=>aa xs fun Q27 xs=>aa xs fun Q28 xs=>aa xs fun Q29 xs=>aa xs fun Q30 xs=>aa xs fun Q31 xs=>aa xs fun Q32 xs=>aa xs fun Q33 xs=>aa xs fun Q34 xs=>gJ xs fun Q35 xs=>aa xs fun v7 xs=>cy xs (some (decide (l1.length≤1048576)&&v7==0,[(l1.all bj, .exit 0,(tK l0 l1 Q0 Q1 Q2 Q4 Q5 Q6 Q7 Q8 Q9 Q10 Q11 Q12 Q13 Q14 Q15 Q16 Q17 Q18 Q19 Q20 Q21 Q22 Q23 Q24 Q25 Q26 Q27 Q28 Q29 Q30 Q31 Q32 Q33 Q34 Q35))], .ret,(tp l0 l1 Q0 Q1 Q2 Q4 Q5 Q6 Q7 Q8 Q9 Q10 Q11 Q12 Q13 Q14 Q15 Q16 Q17 Q18 Q19 Q20 Q21 Q22 Q23 Q24 Q25 Q26 Q27 Q28 Q29 Q30 Q31 Q32 Q33 Q34 Q35)))
 |_,_,_=>none
noncomputable def k93:Cfg (X:=els):={k92 with lp:=(14,32762,{keep:=pH,m:=3,mv:=xz.mv,ctx:=0,con:=some ((AP).con Bb)})::k92.lp}
noncomputable def gj:=(Sig.cons true bG Sig.nil)
noncomputable def fW:=(Res.int .i64)
noncomputable def k94:Cfg (X:=els):={k93 with E:=(14,(gj).con fW (fun x=>(iV x.1)) (fun x=>aY x.1))::k93.E}
noncomputable def lW:=Sig.nil
noncomputable def lL:=Res.bool
noncomputable def k95:Cfg (X:=els):={k94 with E:=(10,(lW).con lL (fun _=>true) (fun _=>true))::k94.E}
noncomputable def jk:=(Sig.cons false (Dat.ah (Cel.int .i64)) (Sig.cons false (Dat.ah (Cel.int .i64)) Sig.nil))
noncomputable def ov:=(Res.int .i64)
noncomputable def k96:Cfg (X:=els):={k95 with E:=(45,(jk).con ov (fun x=>(qK x.1 x.2.1)) (fun x=>bz x.1 x.2.1))::k95.E}
noncomputable def iB:=(Sig.cons false (Dat.ah (Cel.int .i64)) Sig.nil)
noncomputable def il:=Res.bool
noncomputable def k97:Cfg (X:=els):={k96 with E:=(105,(iB).con il (fun x=>(dR x.1)) (fun _=>true))::k96.E}
noncomputable def hJ:=(Sig.cons false (Dat.ah (Cel.int .i64)) Sig.nil)
noncomputable def gT:=(Res.int .i64)
noncomputable def k98:Cfg (X:=els):={k97 with E:=(81,(hJ).con gT (fun x=>(eF x.1)) (fun _=>true))::k97.E}
noncomputable def iH:=(Sig.cons false (Dat.ah (Cel.int .i64)) (Sig.cons false (Dat.ah (Cel.int .i64)) Sig.nil))
noncomputable def iM:=(Res.int .i64)
noncomputable def k99:Cfg (X:=els):={k98 with E:=(82,(iH).con iM (fun x=>(ai x.1 x.2.1)) (fun _=>true))::k98.E}
def Lw:Pat (X:=els):={tm:=[(.is (.int .i64)), .any,(.is (.lit (AV.ptr 0 0))),(.is (.int .i64)), .any, .any, .any, .any, .any, .any, .any, .any, .any, .any, .any, .any, .any, .any, .any, .any, .any, .any, .any, .any, .any, .any, .any, .any, .any, .any, .any],hp:=[(.raw [(.int .i64),(.int .i64),(.int .i64)])]}
def wG:List Nat:=[0,2,3]
def Kr:List Nat:=[0,2,3]
noncomputable def Gk:bJ (X:=els):={keep:=wG,m:=1,mv:=[]}
def HB (O0 O1 O2 v0 v3:Int):St (X:=els):={tm:=[.is (.int .i64 v0), .any, .is (.ptr 0 0), .is (.int .i64 v3), .any, .any, .any, .any, .any, .any, .any, .any, .any, .any, .any, .any, .any, .any, .any, .any, .any, .any, .any, .any, .any, .any, .any, .any, .any, .any, .any],hp:=[.raw [.int .i64 O0, .int .i64 O1, .int .i64 O2]]}
def AN (O0 O1 O2 v0 v3:Int):St (X:=els):=({tm:=[.is (.int .i64 v0), .any, .is (.ptr 0 0), .is (.int .i64 v3), .any, .any, .any, .any, .any, .any, .any, .any, .any, .any, .any, .any, .any, .any, .any, .any, .any, .any, .any, .any, .any, .any, .any, .any, .any, .any, .any],hp:=[.raw [.int .i64 O0, .int .i64 O1, .int .i64 O2]]}:St (X:=els))
noncomputable def OV:Code:=((aN [false,false,true,true] (Tryz.f44.body.getD .skip)).getD .skip|>fun c=>match c with| .loop c=>c|c=>c)
noncomputable def Lq (F d n:Nat) (s:St (X:=els)):Option (Ex×St (X:=els)):=iter none (fun s' K'=>exec k99 none (bY k99 none F d) F 44 56 OV s' (aX none Gk K')) n s (fun e s=>some (e,cf Kr s))
noncomputable def L0:List LV→List (Blk (X:=els))→List SV→cm
 | [],[],xs=>aa xs fun O0 xs=>aa xs fun O1 xs=>aa xs fun O2 xs=>aa xs fun v0 xs=>aa xs fun v3 xs=>cy xs (some (v3==1&&dj v0,[], .exit 0,(AN O0 O1 O2 (v0-aG (yrG v0)) (yrG v0))))
 |_,_,_=>none
noncomputable def J0:Cfg (X:=els):={k99 with lp:=(44,28,{keep:=wG,m:=1,mv:=Gk.mv,ctx:=0,con:=some ((Lw).con L0)})::k99.lp}
def Fh:Pat (X:=els):={tm:=[(.is (.int .i64)), .any,(.is (.lit (AV.ptr 0 0))),(.is (.int .i64)),(.is (.int .i64)), .any, .any, .any, .any, .any, .any, .any, .any, .any, .any, .any, .any, .any, .any, .any, .any, .any, .any, .any, .any, .any, .any, .any, .any, .any, .any],hp:=[(.raw [(.int .i64),(.int .i64),(.int .i64)])]}
def tq:List Nat:=[0,2,3,4]
def GJ:List Nat:=[0,2,3,4]
noncomputable def BH:bJ (X:=els):={keep:=tq,m:=1,mv:=[]}
def DJ (O0 O1 O2 v0 v3 v4:Int):St (X:=els):={tm:=[.is (.int .i64 v0), .any, .is (.ptr 0 0), .is (.int .i64 v3), .is (.int .i64 v4), .any, .any, .any, .any, .any, .any, .any, .any, .any, .any, .any, .any, .any, .any, .any, .any, .any, .any, .any, .any, .any, .any, .any, .any, .any, .any],hp:=[.raw [.int .i64 O0, .int .i64 O1, .int .i64 O2]]}
def wF (O0 O1 O2 v0 v3 v4:Int):St (X:=els):=({tm:=[.is (.int .i64 v0), .any, .is (.ptr 0 0), .is (.int .i64 v3), .is (.int .i64 v4), .any, .any, .any, .any, .any, .any, .any, .any, .any, .any, .any, .any, .any, .any, .any, .any, .any, .any, .any, .any, .any, .any, .any, .any, .any, .any],hp:=[.raw [.int .i64 O0, .int .i64 O1, .int .i64 O2]]}:St (X:=els))
noncomputable def JK:Code:=((aN [false,false,true,true,true,true] (Tryz.f44.body.getD .skip)).getD .skip|>fun c=>match c with| .loop c=>c|c=>c)
noncomputable def Gh (F d n:Nat) (s:St (X:=els)):Option (Ex×St (X:=els)):=iter none (fun s' K'=>exec J0 none (bY J0 none F d) F 44 248 JK s' (aX none BH K')) n s (fun e s=>some (e,cf GJ s))
noncomputable def G6:List LV→List (Blk (X:=els))→List SV→cm
 | [],[],xs=>aa xs fun O0 xs=>aa xs fun O1 xs=>aa xs fun O2 xs=>aa xs fun v0 xs=>aa xs fun v3 xs=>aa xs fun v4 xs=>cy xs (some (v4==1&&(decide (1≤v3)&&(decide (v3≤9999)&&(decide (1≤v0)&&decide (v0≤eF v3)))),[], .exit 2,(wF O0 O1 O2 (v0-aF v3 (HW v3 v0-1)) v3 ((HW v3 v0:Nat):Int))))
 |_,_,_=>none
noncomputable def PG:Cfg (X:=els):={J0 with lp:=(44,124,{keep:=tq,m:=1,mv:=BH.mv,ctx:=0,con:=some ((Fh).con G6)})::J0.lp}
noncomputable def j0:=(Sig.cons false (Dat.ah (Cel.int .i64)) Sig.nil)
noncomputable def kj:=(Res.agg Ij)
noncomputable def Qu:Cfg (X:=els):={PG with E:=(44,(j0).con kj (fun x=>(rOf x.1)) (fun x=>dj x.1))::PG.E}
noncomputable def iu:=(Sig.cons false (Dat.ah (Cel.int .i64)) Sig.nil)
noncomputable def mR:=Res.bool
noncomputable def N2:Cfg (X:=els):={Qu with E:=(43,(iu).con mR (fun x=>(IB x.1)) (fun _=>true))::Qu.E}
noncomputable def fE:=(Sig.cons true bG (Sig.cons false (Dat.ah (Cel.int .i64)) Sig.nil))
noncomputable def ku:=Res.bool
noncomputable def P8:Cfg (X:=els):={N2 with E:=(21,(fE).con ku (fun x=>(dz x.1 x.2.1)) (fun x=>dS x.1 x.2.1))::N2.E}
noncomputable def jc:=(Sig.cons false (Dat.ah (Cel.int .i64)) (Sig.cons false (Dat.ah (Cel.int .i64)) Sig.nil))
noncomputable def nX:=(Res.int .i64)
noncomputable def Jk:Cfg (X:=els):={P8 with E:=(113,(jc).con nX (fun x=>(KB x.1 x.2.1)) (fun x=>bz x.1 x.2.1))::P8.E}
def FC:Pat (X:=els):={tm:=[.any,(.is (.lit (AV.ptr 0 0))), .any,(.is (.int .i64)),(.is (.int .i64)), .any, .any, .any, .any, .any, .any, .any, .any, .any, .any, .any, .any, .any, .any, .any, .any, .any, .any, .any, .any, .any, .any, .any, .any, .any, .any],hp:=[(.raw [(.int .i64),(.int .i64),(.int .i64)])]}
def sZ:List Nat:=[1,3,4]
def Fq:List Nat:=[1,2,3]
noncomputable def Br:bJ (X:=els):={keep:=sZ,m:=1,mv:=[]}
def DK (O0 O1 O2 v3 v4:Int):St (X:=els):={tm:=[.any, .is (.ptr 0 0), .any, .is (.int .i64 v3), .is (.int .i64 v4), .any, .any, .any, .any, .any, .any, .any, .any, .any, .any, .any, .any, .any, .any, .any, .any, .any, .any, .any, .any, .any, .any, .any, .any, .any, .any],hp:=[.raw [.int .i64 O0, .int .i64 O1, .int .i64 O2]]}
def wL (O0 O1 O2 v3:Int):St (X:=els):=({tm:=[.any, .is (.ptr 0 0), .any, .is (.int .i64 v3), .any, .any, .any, .any, .any, .any, .any, .any, .any, .any, .any, .any, .any, .any, .any, .any, .any, .any, .any, .any, .any, .any, .any, .any, .any, .any, .any],hp:=[.raw [.int .i64 O0, .int .i64 O1, .int .i64 O2]]}:St (X:=els))
noncomputable def JO:Code:=((aN [false,true,false,true,true] (Tryz.f127.body.getD .skip)).getD .skip|>fun c=>match c with| .loop c=>c|c=>c)
noncomputable def Fi (F d n:Nat) (s:St (X:=els)):Option (Ex×St (X:=els)):=iter none (fun s' K'=>exec Jk none (bY Jk none F d) F 127 116 JO s' (aX none Br K')) n s (fun e s=>some (e,cf Fq s))
noncomputable def GV:List LV→List (Blk (X:=els))→List SV→cm
 | [],[],xs=>aa xs fun O0 xs=>aa xs fun O1 xs=>aa xs fun O2 xs=>aa xs fun v3 xs=>aa xs fun v4 xs=>cy xs (some (v4==1&&(lit v3&&pV O0),[], .exit 0,(wL O0 O1 O2 (v3+aG O0))))
 |_,_,_=>none
noncomputable def K8:Cfg (X:=els):={Jk with lp:=(127,58,{keep:=sZ,m:=1,mv:=Br.mv,ctx:=0,con:=some ((FC).con GV)})::Jk.lp}
def Hk:Pat (X:=els):={tm:=[.any,(.is (.lit (AV.ptr 0 0))), .any,(.is (.int .i64)), .any,(.is (.int .i64)), .any, .any, .any, .any, .any, .any, .any, .any, .any, .any, .any, .any, .any, .any, .any, .any, .any, .any, .any, .any, .any, .any, .any, .any, .any],hp:=[(.raw [(.int .i64),(.int .i64),(.int .i64)])]}
def sV:List Nat:=[1,3,5]
def F3:List Nat:=[2,3]
noncomputable def AQ:bJ (X:=els):={keep:=sV,m:=1,mv:=[]}
def Dt (O0 O1 O2 v3 v5:Int):St (X:=els):={tm:=[.any, .is (.ptr 0 0), .any, .is (.int .i64 v3), .any, .is (.int .i64 v5), .any, .any, .any, .any, .any, .any, .any, .any, .any, .any, .any, .any, .any, .any, .any, .any, .any, .any, .any, .any, .any, .any, .any, .any, .any],hp:=[.raw [.int .i64 O0, .int .i64 O1, .int .i64 O2]]}
def yg (O0 O1 O2 v3:Int):St (X:=els):=({tm:=[.any, .any, .any, .is (.int .i64 v3), .any, .any, .any, .any, .any, .any, .any, .any, .any, .any, .any, .any, .any, .any, .any, .any, .any, .any, .any, .any, .any, .any, .any, .any, .any, .any, .any],hp:=[.raw [.int .i64 O0, .int .i64 O1, .int .i64 O2]]}:St (X:=els))
noncomputable def Jr:Code:=((aN [false,true,false,true,true,true] (Tryz.f127.body.getD .skip)).getD .skip|>fun c=>match c with| .loop c=>c|c=>c)
noncomputable def GH (F d n:Nat) (s:St (X:=els)):Option (Ex×St (X:=els)):=iter none (fun s' K'=>exec K8 none (bY K8 none F d) F 127 244 Jr s' (aX none AQ K')) n s (fun e s=>some (e,cf F3 s))
noncomputable def Hg:List LV→List (Blk (X:=els))→List SV→cm
 | [],[],xs=>aa xs fun O0 xs=>aa xs fun O1 xs=>aa xs fun O2 xs=>aa xs fun v3 xs=>aa xs fun v5 xs=>cy xs (some (v5==1&&(big v3&&(decide (1≤O1)&&decide (O1≤12))),[], .exit 2,(yg O0 O1 O2 (v3+aF O0 (O1-1).toNat))))
 |_,_,_=>none
noncomputable def Rf:Cfg (X:=els):={K8 with lp:=(127,122,{keep:=sV,m:=1,mv:=AQ.mv,ctx:=0,con:=some ((Hk).con Hg)})::K8.lp}
noncomputable def ji:=(Sig.cons true (Dat.ah Ij) Sig.nil)
noncomputable def n8:=(Res.int .i64)
noncomputable def QT:Cfg (X:=els):={Rf with E:=(127,(ji).con n8 (fun x=>(K7 x.1)) (fun x=>zl x.1))::Rf.E}
noncomputable def ez:=(Sig.cons false (Dat.ah (Cel.int .i64)) Sig.nil)
noncomputable def jN:=(Res.int .i64)
noncomputable def Kc:Cfg (X:=els):={QT with E:=(99,(ez).con jN (fun x=>(av x.1)) (fun x=>cR x.1))::QT.E}
def Hu:Pat (X:=els):={tm:=[(.is (.int .i64)),(.is (.int .i64)),(.is (.int .i64)),(.is (.int .i64)), .any, .any, .any, .any, .any, .any,(.is (.int .i64)),(.is (.int .i64)),(.is (.int .i64)),(.is (.int .i64)), .any, .any, .any, .any, .any, .any, .any, .any, .any, .any, .any, .any, .any, .any, .any, .any, .any, .any, .any, .any, .any, .any, .any, .any, .any, .any, .any, .any, .any, .any, .any, .any, .any, .any, .any, .any, .any, .any, .any, .any, .any, .any, .any, .any, .any, .any, .any, .any, .any, .any, .any],hp:=[]}
def sO:List Nat:=[0,1,2,3,10,11,12,13]
def Gd:List Nat:=[3,8,9,12]
noncomputable def A3:bJ (X:=els):={keep:=sO,m:=0,mv:=[]}
def vU (v0 v1 v2 v3 v10 v11 v12 v13:Int):St (X:=els):={tm:=[.is (.int .i64 v0), .is (.int .i64 v1), .is (.int .i64 v2), .is (.int .i64 v3), .any, .any, .any, .any, .any, .any, .is (.int .i64 v10), .is (.int .i64 v11), .is (.int .i64 v12), .is (.int .i64 v13), .any, .any, .any, .any, .any, .any, .any, .any, .any, .any, .any, .any, .any, .any, .any, .any, .any, .any, .any, .any, .any, .any, .any, .any, .any, .any, .any, .any, .any, .any, .any, .any, .any, .any, .any, .any, .any, .any, .any, .any, .any, .any, .any, .any, .any, .any, .any, .any, .any, .any, .any],hp:=[]}
def wZ (v3 v10 v13:Int):St (X:=els):=({tm:=[.any, .any, .any, .is (.int .i64 v3), .any, .any, .any, .any, .is (.int .i64 (IntKind.wrap IntKind.i64 (v10+v13))), .is (.int .i64 0), .any, .any, .is (.int .i64 (IntKind.wrap IntKind.i64 (v10+v13))), .any, .any, .any, .any, .any, .any, .any, .any, .any, .any, .any, .any, .any, .any, .any, .any, .any, .any, .any, .any, .any, .any, .any, .any, .any, .any, .any, .any, .any, .any, .any, .any, .any, .any, .any, .any, .any, .any, .any, .any, .any, .any, .any, .any, .any, .any, .any, .any, .any, .any, .any, .any],hp:=[]}:St (X:=els))
def xO (v3 v12:Int):St (X:=els):=({tm:=[.any, .any, .any, .is (.int .i64 v3), .any, .any, .any, .any, .any, .any, .any, .any, .is (.int .i64 v12), .any, .any, .any, .any, .any, .any, .any, .any, .any, .any, .any, .any, .any, .any, .any, .any, .any, .any, .any, .any, .any, .any, .any, .any, .any, .any, .any, .any, .any, .any, .any, .any, .any, .any, .any, .any, .any, .any, .any, .any, .any, .any, .any, .any, .any, .any, .any, .any, .any, .any, .any, .any],hp:=[]}:St (X:=els))
noncomputable def KG:Code:=((aN [false,true,false,true,true,true,true,true,true] (Tryz.f118.body.getD .skip)).getD .skip|>fun c=>match c with| .loop c=>c|c=>c)
noncomputable def zh (F d n:Nat) (s:St (X:=els)):Option (Ex×St (X:=els)):=iter none (fun s' K'=>exec Kc none (bY Kc none F d) F 118 2036 KG s' (aX none A3 K')) n s (fun e s=>some (e,cf Gd s))
noncomputable def Gn:List LV→List (Blk (X:=els))→List SV→cm
 | [],[],xs=>aa xs fun v0 xs=>aa xs fun v1 xs=>aa xs fun v2 xs=>aa xs fun v3 xs=>aa xs fun v10 xs=>aa xs fun v11 xs=>aa xs fun v12 xs=>aa xs fun v13 xs=>cy xs (some (v10==aM v0 v1&&(bk v0 v1&&(!dI v2 v3&&(v11==0&&(v12==0&&v13==0)))),[(GQ v3 (n6 v0 v1 v2), .exit 0,(xO v3 (cw v0 v1 v2+7*(n6 v0 v1 v2-1))))], .ret,(wZ v3 v10 (cw v0 v1 v2+7*(v3-1)-v10))))
 |_,_,_=>none
noncomputable def QK:Cfg (X:=els):={Kc with lp:=(118,1018,{keep:=sO,m:=0,mv:=A3.mv,ctx:=0,con:=some ((Hu).con Gn)})::Kc.lp}
noncomputable def jh:=(Sig.cons false (Dat.ah (Cel.int .i64)) (Sig.cons false (Dat.ah (Cel.int .i64)) (Sig.cons false (Dat.ah (Cel.int .i64)) (Sig.cons false (Dat.ah (Cel.int .i64)) Sig.nil))))
noncomputable def nJ:=(Res.qw (Res.int .i64) (Res.int .i64))
noncomputable def Pd:Cfg (X:=els):={QK with E:=(118,(jh).con nJ (fun x=>(kd x.1 x.2.1 x.2.2.1 x.2.2.2.1)) (fun _=>true))::QK.E}
noncomputable def iq:=(Sig.cons true (Dat.ah jE) (Sig.cons true (Dat.ah EN) (Sig.cons false (Dat.ah (Cel.int .i64)) Sig.nil)))
noncomputable def gW:=(Res.int .i64)
noncomputable def PF:Cfg (X:=els):={Pd with E:=(104,(iq).con gW (fun x=>(bU x.1 x.2.1 x.2.2.1)) (fun x=>dX x.1 x.2.1 x.2.2.1))::Pd.E}
noncomputable def fq:=(Sig.cons true (Dat.ah jE) (Sig.cons false (Dat.ah (Cel.int .i64)) Sig.nil))
noncomputable def fl:=Res.bool
noncomputable def Pm:Cfg (X:=els):={PF with E:=(80,(fq).con fl (fun x=>(mY x.1 x.2.1)) (fun x=>cE x.1 x.2.1))::PF.E}
noncomputable def hN:=(Sig.cons true (Dat.ah jE) (Sig.cons false (Dat.ah (Cel.int .i64)) Sig.nil))
noncomputable def iF:=(Res.int .i64)
noncomputable def PQ:Cfg (X:=els):={Pm with E:=(41,(hN).con iF (fun x=>(bM x.1 x.2.1)) (fun x=>cE x.1 x.2.1))::Pm.E}
noncomputable def dY:=(Sig.cons true (Dat.ah jE) (Sig.cons false (Dat.ah (Cel.int .i64)) (Sig.cons false (Dat.ah (Cel.int .i64)) Sig.nil)))
noncomputable def ec:=(Out.one (Own.sl (.int:El)))
noncomputable def KD:Cfg (X:=els):={PQ with H:=(77,(dY).gS ec (fun x=>(kr x.1 x.2.1 x.2.2.1)) (fun x=>kU x.1 x.2.1 x.2.2.1))::PQ.H}
def Gt:Pat (X:=els):={tm:=[.any, .any, .any,(.is (.lit (AV.ptr 0 0))), .any, .any, .any,(.is (.int .i64)),(.is (.slW 2 1)), .any, .any, .any, .any, .any, .any, .any, .any, .any, .any, .any, .any, .any, .any, .any, .any, .any, .any, .any, .any, .any, .any, .any, .any],hp:=[(.raw [(.int .i64),(.int .i64),(.int .i64),(.int .i64),(.int .i64),(.int .i64),(.int .i64),(.int .i64),(.int .i64),(.int .i64)]), .dead,(.vec (.int:El) true)]}
def tE:List Nat:=[3,7,8]
def Fl:List Nat:=[6,8]
noncomputable def AX:bJ (X:=els):={keep:=tE,m:=2,mv:=[(.slot 8,(.int:El))]}
def wu (l2:List (Int)) (O0 O1 O2 O3 O4 O5 O6 O7 O8 O9 v7:Int):St (X:=els):={tm:=[.any, .any, .any, .is (.ptr 0 0), .any, .any, .any, .is (.int .i64 v7), .is (.sl 2 0 1 (List.length l2) none), .any, .any, .any, .any, .any, .any, .any, .any, .any, .any, .any, .any, .any, .any, .any, .any, .any, .any, .any, .any, .any, .any, .any, .any],hp:=[.raw [.int .i64 O0, .int .i64 O1, .int .i64 O2, .int .i64 O3, .int .i64 O4, .int .i64 O5, .int .i64 O6, .int .i64 O7, .int .i64 O8, .int .i64 O9], .dead,Blk.vec El.int l2 true]}
def rS (l2:List (Int)) (O0 O1 O2 O3 O4 O5 O6 O7 O8 O9:Int):St (X:=els):=({tm:=[.any, .any, .any, .any, .any, .any, .any, .any, .is (.sl 2 0 1 (List.length l2) none), .any, .any, .any, .any, .any, .any, .any, .any, .any, .any, .any, .any, .any, .any, .any, .any, .any, .any, .any, .any, .any, .any, .any, .any],hp:=[.raw [.int .i64 O0, .int .i64 O1, .int .i64 O2, .int .i64 O3, .int .i64 O4, .int .i64 O5, .int .i64 O6, .int .i64 O7, .int .i64 O8, .int .i64 O9], .dead,Blk.vec El.int l2 true]}:St (X:=els))
noncomputable def JS:Code:=((aN [false,false,true,true,true] (Tryz.f39.body.getD .skip)).getD .skip|>fun c=>match c with| .loop c=>c|c=>c)
noncomputable def yX (F d n:Nat) (s:St (X:=els)):Option (Ex×St (X:=els)):=iter none (fun s' K'=>exec KD none (bY KD none F d) F 39 120 JS s' (aX none AX K')) n s (fun e s=>some (e,cf Fl s))
noncomputable def FP:List LV→List (Blk (X:=els))→List SV→cm
 | [⟨El.int,l2⟩],[],xs=>aa xs fun O0 xs=>aa xs fun O1 xs=>aa xs fun O2 xs=>aa xs fun O3 xs=>aa xs fun O4 xs=>aa xs fun O5 xs=>aa xs fun O6 xs=>aa xs fun O7 xs=>aa xs fun O8 xs=>aa xs fun O9 xs=>aa xs fun v7 xs=>cy xs (some (ao (⟨O0,O1,⟨O2,O3,O4,O5⟩,⟨O6,O7,O8,O9⟩⟩:a8)==0&&(fp v7&&(Jg l2 (dG (⟨O0,O1,⟨O2,O3,O4,O5⟩,⟨O6,O7,O8,O9⟩⟩:a8) v7)&&bX (dG (⟨O0,O1,⟨O2,O3,O4,O5⟩,⟨O6,O7,O8,O9⟩⟩:a8)) 200 v7)),[], .exit 0,(rS (dG (⟨O0,O1,⟨O2,O3,O4,O5⟩,⟨O6,O7,O8,O9⟩⟩:a8) (bp (dG (⟨O0,O1,⟨O2,O3,O4,O5⟩,⟨O6,O7,O8,O9⟩⟩:a8)) 200 v7)) O0 O1 O2 O3 O4 O5 O6 O7 O8 O9)))
 |_,_,_=>none
noncomputable def OB:Cfg (X:=els):={KD with lp:=(39,60,{keep:=tE,m:=2,mv:=AX.mv,ctx:=0,con:=some ((Gt).con FP)})::KD.lp}
noncomputable def ft:=(Sig.cons true (Dat.ah jE) (Sig.cons false (Dat.ah (Cel.int .i64)) (Sig.cons false (Dat.ah (Cel.int .i64)) Sig.nil)))
noncomputable def kA:=(Res.int .i64)
noncomputable def Qd:Cfg (X:=els):={OB with E:=(39,(ft).con kA (fun x=>(HK x.1 x.2.1 x.2.2.1)) (fun x=>zy x.1 x.2.1 x.2.2.1))::OB.E}
noncomputable def ko:=(Sig.cons true (Dat.ah H7) (Sig.cons false (Dat.ah (Cel.int .i64)) Sig.nil))
noncomputable def jV:=(Res.int .i64)
noncomputable def Rt:Cfg (X:=els):={Qd with E:=(102,(ko).con jV (fun x=>(IM x.1 x.2.1)) (fun x=>yZ x.1 x.2.1))::Qd.E}
noncomputable def fo:=(Sig.cons true (Dat.ah jE) (Sig.cons true (Dat.ah H7) (Sig.cons false (Dat.ah (Cel.int .i64)) Sig.nil)))
noncomputable def kF:=(Res.qw (Res.int .i64) (Res.int .i64))
noncomputable def Ro:Cfg (X:=els):={Rt with E:=(73,(fo).con kF (fun x=>(hU x.1 x.2.1 x.2.2.1)) (fun _=>true))::Rt.E}
noncomputable def gX:=(Sig.cons false (Dat.ah (Cel.int .i64)) Sig.nil)
noncomputable def me:=Res.bool
noncomputable def Ql:Cfg (X:=els):={Ro with E:=(143,(gX).con me (fun x=>(db x.1)) (fun x=>cR x.1))::Ro.E}
noncomputable def jj:=(Sig.cons false (Dat.ah (Cel.int .i64)) Sig.nil)
noncomputable def nO:=Res.bool
noncomputable def Jy:Cfg (X:=els):={Ql with E:=(142,(jj).con nO (fun x=>(fw x.1)) (fun _=>true))::Ql.E}
def F0:Pat (X:=els):={tm:=[(.is (.int .i64)), .any, .any, .any,(.is (.int .i64)),(.is (.int .i64)), .any, .any, .any, .any, .any, .any, .any, .any, .any, .any, .any, .any, .any, .any, .any, .any, .any, .any, .any, .any, .any, .any],hp:=[]}
def tj:List Nat:=[0,4,5]
def GX:List Nat:=[2,4]
noncomputable def AZ:bJ (X:=els):={keep:=tj,m:=0,mv:=[]}
def yR (v0 v4 v5:Int):St (X:=els):={tm:=[.is (.int .i64 v0), .any, .any, .any, .is (.int .i64 v4), .is (.int .i64 v5), .any, .any, .any, .any, .any, .any, .any, .any, .any, .any, .any, .any, .any, .any, .any, .any, .any, .any, .any, .any, .any, .any],hp:=[]}
def yj (v4:Int):St (X:=els):=({tm:=[.any, .any, .any, .any, .is (.int .i64 v4), .any, .any, .any, .any, .any, .any, .any, .any, .any, .any, .any, .any, .any, .any, .any, .any, .any, .any, .any, .any, .any, .any, .any],hp:=[]}:St (X:=els))
noncomputable def KF:Code:=((aN [false,true,false,true,true,true] (Tryz.f150.body.getD .skip)).getD .skip|>fun c=>match c with| .loop c=>c|c=>c)
noncomputable def DG (F d n:Nat) (s:St (X:=els)):Option (Ex×St (X:=els)):=iter none (fun s' K'=>exec Jy none (bY Jy none F d) F 150 244 KF s' (aX none AZ K')) n s (fun e s=>some (e,cf GX s))
noncomputable def Hq:List LV→List (Blk (X:=els))→List SV→cm
 | [],[],xs=>aa xs fun v0 xs=>aa xs fun v4 xs=>aa xs fun v5 xs=>cy xs (some (bO v0&&(decide (1≤v5)&&(decide (v5≤v0)&&(decide (v0-v5≤20)&&v4==bf v5))),[], .exit 0,(yj (bf v0))))
 |_,_,_=>none
noncomputable def N9:Cfg (X:=els):={Jy with lp:=(150,122,{keep:=tj,m:=0,mv:=AZ.mv,ctx:=0,con:=some ((F0).con Hq)})::Jy.lp}
noncomputable def fk:=(Sig.cons false (Dat.ah (Cel.int .i64)) Sig.nil)
noncomputable def kC:=(Res.int .i64)
noncomputable def Od:Cfg (X:=els):={N9 with E:=(150,(fk).con kC (fun x=>(bf x.1)) (fun x=>bO x.1))::N9.E}
noncomputable def gv:=(Sig.cons false (Dat.ah (Cel.int .i64)) Sig.nil)
noncomputable def lC:=(Res.agg TE)
noncomputable def Ow:Cfg (X:=els):={Od with E:=(140,(gv).con lC (fun x=>(TX x.1)) (fun x=>bO x.1))::Od.E}
noncomputable def jf:=(Sig.cons false (Dat.ah (Cel.int .i64)) (Sig.cons true (Dat.ah TE) Sig.nil))
noncomputable def om:=(Res.int .i64)
noncomputable def QF:Cfg (X:=els):={Ow with E:=(151,(jf).con om (fun x=>(DX x.1 x.2.1)) (fun x=>E6 x.1 x.2.1))::Ow.E}
noncomputable def gr:=(Sig.cons false (Dat.ah (Cel.int .i64)) Sig.nil)
noncomputable def ga:=(Res.int .i64)
noncomputable def OE:Cfg (X:=els):={QF with E:=(141,(gr).con ga (fun x=>(fB x.1)) (fun x=>bO x.1))::QF.E}
noncomputable def eJ:=(Sig.cons false (Dat.ah (Cel.int .i64)) Sig.nil)
noncomputable def jP:=(Res.int .i64)
noncomputable def PC:Cfg (X:=els):={OE with E:=(124,(eJ).con jP (fun x=>(aP x.1)) (fun x=>bO x.1))::OE.E}
noncomputable def iZ:=(Sig.cons false (Dat.ah (Cel.int .i64)) Sig.nil)
noncomputable def nQ:=(Res.int .i64)
noncomputable def QQ:Cfg (X:=els):={PC with E:=(126,(iZ).con nQ (fun x=>(bt x.1)) (fun x=>kg x.1))::PC.E}
noncomputable def iD:=(Sig.cons false (Dat.ah (Cel.int .i64)) (Sig.cons false (Dat.ah (Cel.int .i64)) Sig.nil))
noncomputable def mu:=(Res.int .i64)
noncomputable def Oi:Cfg (X:=els):={QQ with E:=(125,(iD).con mu (fun x=>(dH x.1 x.2.1)) (fun _=>true))::QQ.E}
noncomputable def gz:=Sig.nil
noncomputable def lv:=(Res.int .i64)
noncomputable def RD:Cfg (X:=els):={Oi with E:=(116,(gz).con lv (fun _=>FA) (fun _=>true))::Oi.E}
noncomputable def ig:=Sig.nil
noncomputable def mK:=(Res.int .i64)
noncomputable def Ku:Cfg (X:=els):={RD with E:=(117,(ig).con mK (fun _=>Et) (fun _=>true))::RD.E}
def Fe:Pat (X:=els):={tm:=[(.is (.int .i64)), .any, .any,(.is (.int .i64)),(.is (.int .i64)), .any, .any, .any, .any, .any, .any, .any, .any, .any, .any, .any, .any, .any, .any, .any, .any],hp:=[]}
def tC:List Nat:=[0,3,4]
def Fs:List Nat:=[2,3]
noncomputable def A9:bJ (X:=els):={keep:=tC,m:=0,mv:=[]}
def yO (v0 v3 v4:Int):St (X:=els):={tm:=[.is (.int .i64 v0), .any, .any, .is (.int .i64 v3), .is (.int .i64 v4), .any, .any, .any, .any, .any, .any, .any, .any, .any, .any, .any, .any, .any, .any, .any, .any],hp:=[]}
def xJ (v3:Int):St (X:=els):=({tm:=[.any, .any, .any, .is (.int .i64 v3), .any, .any, .any, .any, .any, .any, .any, .any, .any, .any, .any, .any, .any, .any, .any, .any, .any],hp:=[]}:St (X:=els))
noncomputable def Jn:Code:=((aN [false,false,true,true,true] (Tryz.f123.body.getD .skip)).getD .skip|>fun c=>match c with| .loop c=>c|c=>c)
noncomputable def CM (F d n:Nat) (s:St (X:=els)):Option (Ex×St (X:=els)):=iter none (fun s' K'=>exec Ku none (bY Ku none F d) F 123 120 Jn s' (aX none A9 K')) n s (fun e s=>some (e,cf Fs s))
noncomputable def G4:List LV→List (Blk (X:=els))→List SV→cm
 | [],[],xs=>aa xs fun v0 xs=>aa xs fun v3 xs=>aa xs fun v4 xs=>cy xs (some (zG v0 v3 v4,[], .exit 0,(xJ (aW v0))))
 |_,_,_=>none
noncomputable def OA:Cfg (X:=els):={Ku with lp:=(123,60,{keep:=tC,m:=0,mv:=A9.mv,ctx:=0,con:=some ((Fe).con G4)})::Ku.lp}
noncomputable def ik:=(Sig.cons false (Dat.ah (Cel.int .i64)) Sig.nil)
noncomputable def mr:=(Res.int .i64)
noncomputable def Km:Cfg (X:=els):={OA with E:=(123,(ik).con mr (fun x=>(aW x.1)) (fun x=>inH x.1))::OA.E}
def Fv:Pat (X:=els):={tm:=[.any, .any,(.is (.lit (AV.ptr 0 0))),(.is (.int .i64)),(.is (.int .i64)),(.is (.int .i64)), .any, .any, .any, .any, .any, .any, .any, .any, .any, .any, .any, .any, .any, .any, .any, .any, .any, .any, .any, .any, .any, .any, .any],hp:=[(.raw [(.int .i64),(.int .i64),(.int .i64)])]}
def tf:List Nat:=[2,3,4,5]
def Hm:List Nat:=[2,3,4,5]
noncomputable def AU:bJ (X:=els):={keep:=tf,m:=1,mv:=[]}
def Cx (O0 O1 O2 v3 v4 v5:Int):St (X:=els):={tm:=[.any, .any, .is (.ptr 0 0), .is (.int .i64 v3), .is (.int .i64 v4), .is (.int .i64 v5), .any, .any, .any, .any, .any, .any, .any, .any, .any, .any, .any, .any, .any, .any, .any, .any, .any, .any, .any, .any, .any, .any, .any],hp:=[.raw [.int .i64 O0, .int .i64 O1, .int .i64 O2]]}
def yw (O0 O1 O2 v3 v4 v5:Int):St (X:=els):=({tm:=[.any, .any, .is (.ptr 0 0), .is (.int .i64 v3), .is (.int .i64 v4), .is (.int .i64 v5), .any, .any, .any, .any, .any, .any, .any, .any, .any, .any, .any, .any, .any, .any, .any, .any, .any, .any, .any, .any, .any, .any, .any],hp:=[.raw [.int .i64 O0, .int .i64 O1, .int .i64 O2]]}:St (X:=els))
noncomputable def JI:Code:=((aN [false,false,true,true,true,true] (Tryz.f115.body.getD .skip)).getD .skip|>fun c=>match c with| .loop c=>c|c=>c)
noncomputable def FI (F d n:Nat) (s:St (X:=els)):Option (Ex×St (X:=els)):=iter none (fun s' K'=>exec Km none (bY Km none F d) F 115 248 JI s' (aX none AU K')) n s (fun e s=>some (e,cf Hm s))
noncomputable def Hj:List LV→List (Blk (X:=els))→List SV→cm
 | [],[],xs=>aa xs fun O0 xs=>aa xs fun O1 xs=>aa xs fun O2 xs=>aa xs fun v3 xs=>aa xs fun v4 xs=>aa xs fun v5 xs=>cy xs (some (E8 v3 v5 v4,[], .exit 0,(yw O0 O1 O2 v3 (iO (bt v3) 13 1 v4).2 (iO (bt v3) 13 1 v4).1)))
 |_,_,_=>none
noncomputable def PX:Cfg (X:=els):={Km with lp:=(115,124,{keep:=tf,m:=1,mv:=AU.mv,ctx:=0,con:=some ((Fv).con Hj)})::Km.lp}
noncomputable def kh:=(Sig.cons false (Dat.ah (Cel.int .i64)) Sig.nil)
noncomputable def qc:=(Res.agg F6)
noncomputable def RH:Cfg (X:=els):={PX with E:=(115,(kh).con qc (fun x=>(eg x.1)) (fun x=>inH x.1))::PX.E}
noncomputable def fG:=(Sig.cons false (Dat.ah (Cel.int .i64)) (Sig.cons false (Dat.ah Cel.bool) Sig.nil))
noncomputable def kv:=(Res.int .i64)
noncomputable def OR:Cfg (X:=els):={RH with E:=(122,(fG).con kv (fun x=>(tP x.1 x.2.1)) (fun _=>true))::RH.E}
noncomputable def ke:=(Sig.cons true (Dat.ah F6) (Sig.cons false (Dat.ah Cel.bool) Sig.nil))
noncomputable def pZ:=(Res.int .i64)
noncomputable def Qr:Cfg (X:=els):={OR with E:=(114,(ke).con pZ (fun x=>(Ev x.1 x.2.1)) (fun _=>true))::OR.E}
noncomputable def iW:=(Sig.cons false (Dat.ah (Cel.int .i64)) Sig.nil)
noncomputable def od:=Res.bool
noncomputable def P4:Cfg (X:=els):={Qr with E:=(101,(iW).con od (fun x=>(inH x.1)) (fun _=>true))::Qr.E}
noncomputable def iz:=(Sig.cons false (Dat.ah (Cel.int .i64)) (Sig.cons false (Dat.ah Cel.bool) Sig.nil))
noncomputable def mm:=(Res.int .i64)
noncomputable def Qq:Cfg (X:=els):={P4 with E:=(100,(iz).con mm (fun x=>(eS x.1 x.2.1)) (fun _=>true))::P4.E}
noncomputable def gZ:=(Sig.cons false (Dat.ah (Cel.int .i64)) (Sig.cons false (Dat.ah Cel.bool) Sig.nil))
noncomputable def mQ:=Res.bool
noncomputable def KC:Cfg (X:=els):={Qq with E:=(71,(gZ).con mQ (fun x=>(a7 x.1 x.2.1)) (fun _=>true))::Qq.E}
def BF:Pat (X:=els):={tm:=[.any,(.is .bool), .any, .any,(.is (.lit (AV.ptr 0 0))),(.is (.int .i64)),(.is (.int .i64)),(.is .bool), .any, .any, .any, .any, .any, .any, .any, .any, .any, .any, .any, .any, .any, .any, .any, .any, .any, .any, .any, .any, .any, .any, .any, .any, .any, .any, .any],hp:=[(.raw [(.int .i64),(.int .i64)])]}
def oA:List Nat:=[1,4,5,6,7]
def CY:List Nat:=[1,4,5,6]
noncomputable def xD:bJ (X:=els):={keep:=oA,m:=1,mv:=[]}
def yd (O0 O1:Int) (v1:Bool) (v5 v6:Int) (v7:Bool):St (X:=els):={tm:=[.any, .is (.bool v1), .any, .any, .is (.ptr 0 0), .is (.int .i64 v5), .is (.int .i64 v6), .is (.bool v7), .any, .any, .any, .any, .any, .any, .any, .any, .any, .any, .any, .any, .any, .any, .any, .any, .any, .any, .any, .any, .any, .any, .any, .any, .any, .any, .any],hp:=[.raw [.int .i64 O0, .int .i64 O1]]}
def tu (O0 O1:Int) (v1:Bool) (v5 v6:Int):St (X:=els):=({tm:=[.any, .is (.bool v1), .any, .any, .is (.ptr 0 0), .is (.int .i64 v5), .is (.int .i64 v6), .any, .any, .any, .any, .any, .any, .any, .any, .any, .any, .any, .any, .any, .any, .any, .any, .any, .any, .any, .any, .any, .any, .any, .any, .any, .any, .any, .any],hp:=[.raw [.int .i64 O0, .int .i64 O1]]}:St (X:=els))
noncomputable def Hy:Code:=((aN [false,false,true,true,true,true] (Tryz.f72.body.getD .skip)).getD .skip|>fun c=>match c with| .loop c=>c|c=>c)
noncomputable def AO (F d n:Nat) (s:St (X:=els)):Option (Ex×St (X:=els)):=iter none (fun s' K'=>exec KC none (bY KC none F d) F 72 248 Hy s' (aX none xD K')) n s (fun e s=>some (e,cf CY s))
noncomputable def A4:List LV→List (Blk (X:=els))→List SV→cm
 | [],[],xs=>aa xs fun O0 xs=>aa xs fun O1 xs=>gJ xs fun v1 xs=>aa xs fun v5 xs=>aa xs fun v6 xs=>gJ xs fun v7 xs=>cy xs (some (kD (-1) v1 v5&&v7==a7 (v5-1) v1,[], .exit 0,(tu O0 O1 v1 (bH (-1) v1 10 v5) v6)))
 |_,_,_=>none
noncomputable def JY:Cfg (X:=els):={KC with lp:=(72,124,{keep:=oA,m:=1,mv:=xD.mv,ctx:=0,con:=some ((BF).con A4)})::KC.lp}
def wS:Pat (X:=els):={tm:=[.any,(.is .bool), .any, .any,(.is (.lit (AV.ptr 0 0))),(.is (.int .i64)),(.is (.int .i64)),(.is .bool), .any, .any, .any, .any, .any, .any, .any, .any, .any, .any, .any, .any, .any, .any, .any, .any, .any, .any, .any, .any, .any, .any, .any, .any, .any, .any, .any],hp:=[(.raw [(.int .i64),(.int .i64)])]}
def mh:List Nat:=[1,4,5,6,7]
def yV:List Nat:=[4,5,6]
noncomputable def tG:bJ (X:=els):={keep:=mh,m:=1,mv:=[]}
def qS (O0 O1:Int) (v1:Bool) (v5 v6:Int) (v7:Bool):St (X:=els):={tm:=[.any, .is (.bool v1), .any, .any, .is (.ptr 0 0), .is (.int .i64 v5), .is (.int .i64 v6), .is (.bool v7), .any, .any, .any, .any, .any, .any, .any, .any, .any, .any, .any, .any, .any, .any, .any, .any, .any, .any, .any, .any, .any, .any, .any, .any, .any, .any, .any],hp:=[.raw [.int .i64 O0, .int .i64 O1]]}
def po (O0 O1 v5 v6:Int):St (X:=els):=({tm:=[.any, .any, .any, .any, .is (.ptr 0 0), .is (.int .i64 v5), .is (.int .i64 v6), .any, .any, .any, .any, .any, .any, .any, .any, .any, .any, .any, .any, .any, .any, .any, .any, .any, .any, .any, .any, .any, .any, .any, .any, .any, .any, .any, .any],hp:=[.raw [.int .i64 O0, .int .i64 O1]]}:St (X:=els))
noncomputable def BO:Code:=((aN [false,false,true,true,true,true,true,true] (Tryz.f72.body.getD .skip)).getD .skip|>fun c=>match c with| .loop c=>c|c=>c)
noncomputable def yx (F d n:Nat) (s:St (X:=els)):Option (Ex×St (X:=els)):=iter none (fun s' K'=>exec JY none (bY JY none F d) F 72 1016 BO s' (aX none tG K')) n s (fun e s=>some (e,cf yV s))
noncomputable def xn:List LV→List (Blk (X:=els))→List SV→cm
 | [],[],xs=>aa xs fun O0 xs=>aa xs fun O1 xs=>gJ xs fun v1 xs=>aa xs fun v5 xs=>aa xs fun v6 xs=>gJ xs fun v7 xs=>cy xs (some (kD 1 v1 v6&&v7==a7 (v6+1) v1,[], .exit 2,(po O0 O1 v5 (bH 1 v1 10 v6))))
 |_,_,_=>none
noncomputable def Pz:Cfg (X:=els):={JY with lp:=(72,508,{keep:=mh,m:=1,mv:=tG.mv,ctx:=0,con:=some ((wS).con xn)})::JY.lp}
noncomputable def ju:=(Sig.cons false (Dat.ah (Cel.int .i64)) (Sig.cons false (Dat.ah Cel.bool) Sig.nil))
noncomputable def ot:=(Res.agg U2)
noncomputable def Pu:Cfg (X:=els):={Pz with E:=(72,(ju).con ot (fun x=>(Vo x.1 x.2.1)) (fun x=>a7 x.1 x.2.1))::Pz.E}
noncomputable def fu:=(Sig.cons true bG (Sig.cons true (Dat.ah dw) (Sig.cons false (Dat.ah (Cel.int .i64)) Sig.nil)))
noncomputable def kG:=Res.bool
noncomputable def NV:Cfg (X:=els):={Pu with E:=(70,(fu).con kG (fun x=>(xP x.1 x.2.1 x.2.2.1)) (fun x=>nR x.1 x.2.1 x.2.2.1))::Pu.E}
noncomputable def ki:=(Sig.cons true bG (Sig.cons true (Dat.ah dw) (Sig.cons false (Dat.ah (Cel.int .i64)) Sig.nil)))
noncomputable def pW:=(Res.agg Uz)
noncomputable def Kz:Cfg (X:=els):={NV with E:=(36,(ki).con pW (fun x=>(qh x.1 x.2.1 x.2.2.1)) (fun x=>Bn x.1 x.2.1 x.2.2.1))::NV.E}
def Lo:Pat (X:=els):={tm:=[(.is (.slW 0 4)),(.is (.int .i64)), .any, .any,(.is (.lit (AV.ptr 1 0))), .any,(.is (.int .i64)), .any, .any, .any, .any, .any, .any, .any, .any, .any, .any, .any, .any, .any, .any, .any, .any, .any, .any, .any, .any, .any, .any, .any, .any, .any, .any, .any],hp:=[(.vec (.span:El) false),(.raw [(.int .i64),(.int .i64),(.int .i64),(.int .i64)])]}
def wJ:List Nat:=[0,1,4,6]
def JF:List Nat:=[4,5]
noncomputable def Fo:bJ (X:=els):={keep:=wJ,m:=2,mv:=[]}
def HP (l0:List (Span)) (P0 P1 P2 P3 v1 v6:Int):St (X:=els):={tm:=[.is (.sl 0 0 4 (List.length l0) none), .is (.int .i64 v1), .any, .any, .is (.ptr 1 0), .any, .is (.int .i64 v6), .any, .any, .any, .any, .any, .any, .any, .any, .any, .any, .any, .any, .any, .any, .any, .any, .any, .any, .any, .any, .any, .any, .any, .any, .any, .any, .any],hp:=[Blk.vec El.span l0 false, .raw [.int .i64 P0, .int .i64 P1, .int .i64 P2, .int .i64 P3]]}
def Be (l0:List (Span)) (v6:Int):St (X:=els):=({tm:=[.any, .any, .any, .any, .is (.ptr 1 0), .is (.bool true), .any, .any, .any, .any, .any, .any, .any, .any, .any, .any, .any, .any, .any, .any, .any, .any, .any, .any, .any, .any, .any, .any, .any, .any, .any, .any, .any, .any],hp:=[Blk.vec El.span l0 false, .raw [.int .i64 (Span.from_ (List.getD l0 (0+Int.toNat v6) {from_:=0,to_:=0,mode:=0,prio:=0})), .int .i64 (Span.to_ (List.getD l0 (0+Int.toNat v6) {from_:=0,to_:=0,mode:=0,prio:=0})), .int .i64 (Span.mode (List.getD l0 (0+Int.toNat v6) {from_:=0,to_:=0,mode:=0,prio:=0})), .int .i64 (Span.prio (List.getD l0 (0+Int.toNat v6) {from_:=0,to_:=0,mode:=0,prio:=0}))]]}:St (X:=els))
def Bl (l0:List (Span)) (P0 P1 P2 P3:Int):St (X:=els):=({tm:=[.any, .any, .any, .any, .is (.ptr 1 0), .any, .any, .any, .any, .any, .any, .any, .any, .any, .any, .any, .any, .any, .any, .any, .any, .any, .any, .any, .any, .any, .any, .any, .any, .any, .any, .any, .any, .any],hp:=[Blk.vec El.span l0 false, .raw [.int .i64 P0, .int .i64 P1, .int .i64 P2, .int .i64 P3]]}:St (X:=els))
noncomputable def QH:Code:=((aN [false,true,false,true] (Tryz.f42.body.getD .skip)).getD .skip|>fun c=>match c with| .loop c=>c|c=>c)
noncomputable def LI (F d n:Nat) (s:St (X:=els)):Option (Ex×St (X:=els)):=iter none (fun s' K'=>exec Kz none (bY Kz none F d) F 42 52 QH s' (aX none Fo K')) n s (fun e s=>some (e,cf JF s))
noncomputable def Lj:List LV→List (Blk (X:=els))→List SV→cm
 | [⟨El.span,l0⟩],[],xs=>aa xs fun P0 xs=>aa xs fun P1 xs=>aa xs fun P2 xs=>aa xs fun P3 xs=>aa xs fun v1 xs=>aa xs fun v6 xs=>cy xs (some (decide (l0.length≤1048576)&&v6==0,[(!gR l0 v1, .exit 0,(Bl l0 P0 P1 P2 P3))], .ret,(Be l0 (atIdx l0 v1))))
 |_,_,_=>none
noncomputable def ON:Cfg (X:=els):={Kz with lp:=(42,26,{keep:=wJ,m:=2,mv:=Fo.mv,ctx:=0,con:=some ((Lo).con Lj)})::Kz.lp}
noncomputable def jW:=(Sig.cons false (Dat.sl mb (.span:El)) (Sig.cons false (Dat.ah (Cel.int .i64)) Sig.nil))
noncomputable def qj:=(Res.qw (Res.agg uK) Res.bool)
noncomputable def Qo:Cfg (X:=els):={ON with E:=(42,(jW).con qj (fun x=>(eD x.1 x.2.1)) (fun x=>bl x.1 x.2.1))::ON.E}
noncomputable def iC:=(Sig.cons true (Dat.ah uK) (Sig.cons true (Dat.ah uK) Sig.nil))
noncomputable def mc:=Res.bool
noncomputable def JA:Cfg (X:=els):={Qo with E:=(103,(iC).con mc (fun x=>(CS x.1 x.2.1)) (fun _=>true))::Qo.E}
def RT:Pat (X:=els):={tm:=[(.is (.slW 0 4)),(.is (.int .i64)), .any, .any, .any,(.is (.int .i64)),(.is (.int .i64)), .any, .any, .any, .any, .any, .any, .any, .any, .any, .any, .any, .any, .any, .any, .any, .any, .any, .any, .any, .any, .any, .any, .any, .any, .any, .any, .any, .any, .any, .any, .any, .any, .any, .any, .any, .any, .any, .any],hp:=[(.vec (.span:El) false)]}
def Bg:List Nat:=[0,1,5,6]
def NY:List Nat:=[4,5]
noncomputable def Lc:bJ (X:=els):={keep:=Bg,m:=1,mv:=[]}
def Iy (l0:List (Span)) (v1 v5 v6:Int):St (X:=els):={tm:=[.is (.sl 0 0 4 (List.length l0) none), .is (.int .i64 v1), .any, .any, .any, .is (.int .i64 v5), .is (.int .i64 v6), .any, .any, .any, .any, .any, .any, .any, .any, .any, .any, .any, .any, .any, .any, .any, .any, .any, .any, .any, .any, .any, .any, .any, .any, .any, .any, .any, .any, .any, .any, .any, .any, .any, .any, .any, .any, .any, .any],hp:=[Blk.vec El.span l0 false]}
def G1 (l0:List (Span)) (v5:Int):St (X:=els):=({tm:=[.any, .any, .any, .any, .any, .is (.int .i64 v5), .any, .any, .any, .any, .any, .any, .any, .any, .any, .any, .any, .any, .any, .any, .any, .any, .any, .any, .any, .any, .any, .any, .any, .any, .any, .any, .any, .any, .any, .any, .any, .any, .any, .any, .any, .any, .any, .any, .any],hp:=[Blk.vec El.span l0 false]}:St (X:=els))
noncomputable def Un:Code:=((aN [false,true,false,true,true] (Tryz.f76.body.getD .skip)).getD .skip|>fun c=>match c with| .loop c=>c|c=>c)
noncomputable def Kg (F d n:Nat) (s:St (X:=els)):Option (Ex×St (X:=els)):=iter none (fun s' K'=>exec JA none (bY JA none F d) F 76 116 Un s' (aX none Lc K')) n s (fun e s=>some (e,cf NY s))
noncomputable def SL:List LV→List (Blk (X:=els))→List SV→cm
 | [⟨El.span,l0⟩],[],xs=>aa xs fun v1 xs=>aa xs fun v5 xs=>aa xs fun v6 xs=>cy xs (some (decide (l0.length≤1048576)&&(v5== -1&&v6==0),[], .exit 0,(G1 l0 (az l0 v1))))
 |_,_,_=>none
noncomputable def OK:Cfg (X:=els):={JA with lp:=(76,58,{keep:=Bg,m:=1,mv:=Lc.mv,ctx:=0,con:=some ((RT).con SL)})::JA.lp}
noncomputable def dC:=(Sig.cons false (Dat.sl mb (.span:El)) (Sig.cons false (Dat.ah (Cel.int .i64)) Sig.nil))
noncomputable def gK:=(Res.int .i64)
noncomputable def Kl:Cfg (X:=els):={OK with E:=(76,(dC).con gK (fun x=>(az x.1 x.2.1)) (fun x=>bl x.1 x.2.1))::OK.E}
def LG:Pat (X:=els):={tm:=[(.is (.slW 0 4)),(.is (.int .i64)), .any, .any, .any, .any,(.is (.int .i64)),(.is .bool),(.is (.int .i64)), .any, .any, .any, .any, .any, .any, .any, .any, .any, .any, .any, .any, .any, .any, .any, .any, .any, .any, .any, .any, .any, .any, .any, .any, .any, .any, .any, .any, .any, .any, .any, .any, .any, .any, .any, .any, .any, .any, .any, .any, .any, .any, .any, .any, .any, .any, .any, .any, .any, .any, .any, .any, .any, .any, .any, .any, .any, .any],hp:=[(.vec (.span:El) false)]}
def wV:List Nat:=[0,1,6,7,8]
def Ko:List Nat:=[4,5,6,7]
noncomputable def Gc:bJ (X:=els):={keep:=wV,m:=1,mv:=[]}
def zY (l0:List (Span)) (v1 v6:Int) (v7:Bool) (v8:Int):St (X:=els):={tm:=[.is (.sl 0 0 4 (List.length l0) none), .is (.int .i64 v1), .any, .any, .any, .any, .is (.int .i64 v6), .is (.bool v7), .is (.int .i64 v8), .any, .any, .any, .any, .any, .any, .any, .any, .any, .any, .any, .any, .any, .any, .any, .any, .any, .any, .any, .any, .any, .any, .any, .any, .any, .any, .any, .any, .any, .any, .any, .any, .any, .any, .any, .any, .any, .any, .any, .any, .any, .any, .any, .any, .any, .any, .any, .any, .any, .any, .any, .any, .any, .any, .any, .any, .any, .any],hp:=[Blk.vec El.span l0 false]}
def A5 (l0:List (Span)) (v6:Int) (v7:Bool):St (X:=els):=({tm:=[.any, .any, .any, .any, .any, .any, .is (.int .i64 v6), .is (.bool v7), .any, .any, .any, .any, .any, .any, .any, .any, .any, .any, .any, .any, .any, .any, .any, .any, .any, .any, .any, .any, .any, .any, .any, .any, .any, .any, .any, .any, .any, .any, .any, .any, .any, .any, .any, .any, .any, .any, .any, .any, .any, .any, .any, .any, .any, .any, .any, .any, .any, .any, .any, .any, .any, .any, .any, .any, .any, .any, .any],hp:=[Blk.vec El.span l0 false]}:St (X:=els))
noncomputable def Rm:Code:=((aN [false,true,false,true,true,true] (Tryz.f75.body.getD .skip)).getD .skip|>fun c=>match c with| .loop c=>c|c=>c)
noncomputable def Cf (F d n:Nat) (s:St (X:=els)):Option (Ex×St (X:=els)):=iter none (fun s' K'=>exec Kl none (bY Kl none F d) F 75 244 Rm s' (aX none Gc K')) n s (fun e s=>some (e,cf Ko s))
noncomputable def Ls:List LV→List (Blk (X:=els))→List SV→cm
 | [⟨El.span,l0⟩],[],xs=>aa xs fun v1 xs=>aa xs fun v6 xs=>gJ xs fun v7 xs=>aa xs fun v8 xs=>cy xs (some (decide (l0.length≤1048576)&&(v6==0&&(v7==false&&v8==0)),[], .exit 0,(A5 l0 (bm l0 v1).1 (bm l0 v1).2)))
 |_,_,_=>none
noncomputable def Pa:Cfg (X:=els):={Kl with lp:=(75,122,{keep:=wV,m:=1,mv:=Gc.mv,ctx:=0,con:=some ((LG).con Ls)})::Kl.lp}
noncomputable def ij:=(Sig.cons false (Dat.sl mb (.span:El)) (Sig.cons false (Dat.ah (Cel.int .i64)) Sig.nil))
noncomputable def mq:=(Res.qw (Res.int .i64) Res.bool)
noncomputable def KN:Cfg (X:=els):={Pa with E:=(75,(ij).con mq (fun x=>(bm x.1 x.2.1)) (fun x=>bl x.1 x.2.1))::Pa.E}
def LM:Pat (X:=els):={tm:=[(.is (.slW 0 4)), .any, .any,(.is (.int .i64)),(.is (.int .i64)), .any, .any, .any, .any, .any, .any, .any, .any, .any, .any, .any, .any, .any, .any, .any, .any, .any, .any, .any, .any, .any, .any, .any],hp:=[(.vec (.span:El) false)]}
def yf:List Nat:=[0,3,4]
def Jw:List Nat:=[2,3]
noncomputable def FX:bJ (X:=els):={keep:=yf,m:=1,mv:=[]}
def Ey (l0:List (Span)) (v3 v4:Int):St (X:=els):={tm:=[.is (.sl 0 0 4 (List.length l0) none), .any, .any, .is (.int .i64 v3), .is (.int .i64 v4), .any, .any, .any, .any, .any, .any, .any, .any, .any, .any, .any, .any, .any, .any, .any, .any, .any, .any, .any, .any, .any, .any, .any],hp:=[Blk.vec El.span l0 false]}
def BG (l0:List (Span)) (v3:Int):St (X:=els):=({tm:=[.any, .any, .any, .is (.int .i64 v3), .any, .any, .any, .any, .any, .any, .any, .any, .any, .any, .any, .any, .any, .any, .any, .any, .any, .any, .any, .any, .any, .any, .any, .any],hp:=[Blk.vec El.span l0 false]}:St (X:=els))
noncomputable def Oy:Code:=((aN [false,true,false,true,true] (Tryz.f74.body.getD .skip)).getD .skip|>fun c=>match c with| .loop c=>c|c=>c)
noncomputable def HO (F d n:Nat) (s:St (X:=els)):Option (Ex×St (X:=els)):=iter none (fun s' K'=>exec KN none (bY KN none F d) F 74 116 Oy s' (aX none FX K')) n s (fun e s=>some (e,cf Jw s))
noncomputable def Lm:List LV→List (Blk (X:=els))→List SV→cm
 | [⟨El.span,l0⟩],[],xs=>aa xs fun v3 xs=>aa xs fun v4 xs=>cy xs (some (decide (l0.length≤1048576)&&v4==0,[], .exit 0,(BG l0 (lGo l0 v3))))
 |_,_,_=>none
noncomputable def OL:Cfg (X:=els):={KN with lp:=(74,58,{keep:=yf,m:=1,mv:=FX.mv,ctx:=0,con:=some ((LM).con Lm)})::KN.lp}
noncomputable def gD:=(Sig.cons false (Dat.sl mb (.span:El)) Sig.nil)
noncomputable def lO:=(Res.int .i64)
noncomputable def JH:Cfg (X:=els):={OL with E:=(74,(gD).con lO (fun x=>(df x.1)) (fun x=>EF x.1))::OL.E}
def Gi:Pat (X:=els):={tm:=[(.is (.slW 0 4)), .any, .any,(.is (.slW 1 4)),(.is (.int .i64)),(.is (.int .i64)),(.is .bool), .any, .any, .any, .any, .any, .any, .any, .any, .any, .any, .any, .any, .any, .any, .any, .any, .any, .any, .any, .any, .any, .any, .any, .any, .any, .any, .any, .any, .any, .any, .any, .any, .any, .any, .any, .any, .any, .any, .any, .any, .any, .any, .any, .any, .any, .any, .any, .any, .any, .any, .any, .any, .any, .any, .any, .any, .any, .any, .any, .any, .any, .any, .any, .any, .any, .any, .any, .any, .any, .any, .any, .any, .any, .any, .any],hp:=[(.vec (.span:El) false),(.vec (.span:El) true)]}
def tA:List Nat:=[0,3,4,5,6]
def Hb:List Nat:=[2,3]
noncomputable def Bv:bJ (X:=els):={keep:=tA,m:=1,mv:=[(.slot 3,(.span:El))]}
def u6 (l0 l1:List (Span)) (v4 v5:Int) (v6:Bool):St (X:=els):={tm:=[.is (.sl 0 0 4 (List.length l0) none), .any, .any, .is (.sl 1 0 4 (List.length l1) none), .is (.int .i64 v4), .is (.int .i64 v5), .is (.bool v6), .any, .any, .any, .any, .any, .any, .any, .any, .any, .any, .any, .any, .any, .any, .any, .any, .any, .any, .any, .any, .any, .any, .any, .any, .any, .any, .any, .any, .any, .any, .any, .any, .any, .any, .any, .any, .any, .any, .any, .any, .any, .any, .any, .any, .any, .any, .any, .any, .any, .any, .any, .any, .any, .any, .any, .any, .any, .any, .any, .any, .any, .any, .any, .any, .any, .any, .any, .any, .any, .any, .any, .any, .any, .any, .any],hp:=[Blk.vec El.span l0 false,Blk.vec El.span l1 true]}
def xH (l0 l1:List (Span)):St (X:=els):=({tm:=[.any, .any, .any, .is (.sl 1 0 4 (List.length l1) none), .any, .any, .any, .any, .any, .any, .any, .any, .any, .any, .any, .any, .any, .any, .any, .any, .any, .any, .any, .any, .any, .any, .any, .any, .any, .any, .any, .any, .any, .any, .any, .any, .any, .any, .any, .any, .any, .any, .any, .any, .any, .any, .any, .any, .any, .any, .any, .any, .any, .any, .any, .any, .any, .any, .any, .any, .any, .any, .any, .any, .any, .any, .any, .any, .any, .any, .any, .any, .any, .any, .any, .any, .any, .any, .any, .any, .any, .any],hp:=[Blk.vec El.span l0 false,Blk.vec El.span l1 true]}:St (X:=els))
noncomputable def KO:Code:=((aN [false,false,true,true,true,true,true] (Tryz.f37.body.getD .skip)).getD .skip|>fun c=>match c with| .loop c=>c|c=>c)
noncomputable def zw (F d n:Nat) (s:St (X:=els)):Option (Ex×St (X:=els)):=iter none (fun s' K'=>exec JH none (bY JH none F d) F 37 504 KO s' (aX none Bv K')) n s (fun e s=>some (e,cf Hb s))
noncomputable def F1:List LV→List (Blk (X:=els))→List SV→cm
 | [⟨El.span,l0⟩,⟨El.span,l1⟩],[],xs=>aa xs fun v4 xs=>aa xs fun v5 xs=>gJ xs fun v6 xs=>cy xs (some (decide (l0.length≤500)&&(l1.length==0&&(v5==(bm l0 v4).1&&v6==(bm l0 v4).2)),[], .exit 0,(xH l0 (rV l0 (aS l0) v4 v5 v6 []))))
 |_,_,_=>none
noncomputable def P6:Cfg (X:=els):={JH with lp:=(37,252,{keep:=tA,m:=1,mv:=Bv.mv,ctx:=0,con:=some ((Gi).con F1)})::JH.lp}
noncomputable def eP:=(Sig.cons false (Dat.sl mb (.span:El)) Sig.nil)
noncomputable def eE:=(Out.one (Own.sl (.span:El)))
noncomputable def K6:Cfg (X:=els):={P6 with H:=(37,(eP).gS eE (fun x=>(zg x.1)) (fun x=>yP x.1))::P6.H}
def Hd:Pat (X:=els):={tm:=[.any, .any,(.is (.int .i64)),(.is (.lit (AV.ptr 2 0))), .any, .any, .any,(.is (.slW 4 4)),(.is (.int .i64)),(.is (.int .i64)), .any, .any, .any, .any, .any, .any, .any, .any, .any, .any, .any, .any, .any, .any, .any, .any, .any, .any, .any, .any, .any, .any, .any, .any, .any, .any, .any, .any, .any, .any],hp:=[(.vec (.int:El) false),(.vec (.aV:El) false),(.raw [(.int .i64),(.int .i64),(.int .i64),(.slW 0 1),(.int .i64),(.int .i64),(.int .i64),(.int .i64),(.int .i64),(.int .i64),(.int .i64),(.int .i64),(.int .i64),(.int .i64),(.int .i64),(.int .i64),(.int .i64),(.int .i64),(.int .i64),(.int .i64),(.int .i64),(.int .i64),(.int .i64),(.int .i64),(.int .i64),(.int .i64),(.int .i64),(.int .i64),(.int .i64),(.int .i64),(.int .i64),(.int .i64),(.int .i64),(.int .i64),(.int .i64), .bool,(.slW 1 7)]), .dead,(.vec (.span:El) true)]}
def sY:List Nat:=[2,3,7,8,9]
def Hs:List Nat:=[2,3,6,7,8]
noncomputable def Bw:bJ (X:=els):={keep:=sY,m:=4,mv:=[(.slot 7,(.span:El))]}
def yJ (l0:List (Int)) (l1:List (ag)) (l3:List (Span)) (Q0 Q1 Q2 Q4 Q5 Q6 Q7 Q8 Q9 Q10 Q11 Q12 Q13 Q14 Q15 Q16 Q17 Q18 Q19 Q20 Q21 Q22 Q23 Q24 Q25 Q26 Q27 Q28 Q29 Q30 Q31 Q32 Q33 Q34:Int) (Q35:Bool) (v2 v8 v9:Int):St (X:=els):={tm:=[.any, .any, .is (.int .i64 v2), .is (.ptr 2 0), .any, .any, .any, .is (.sl 4 0 4 (List.length l3) none), .is (.int .i64 v8), .is (.int .i64 v9), .any, .any, .any, .any, .any, .any, .any, .any, .any, .any, .any, .any, .any, .any, .any, .any, .any, .any, .any, .any, .any, .any, .any, .any, .any, .any, .any, .any, .any, .any],hp:=[Blk.vec El.int l0 false,Blk.vec El.aV l1 false, .raw [.int .i64 Q0, .int .i64 Q1, .int .i64 Q2, .sl 0 0 1 (List.length l0) none, .int .i64 Q4, .int .i64 Q5, .int .i64 Q6, .int .i64 Q7, .int .i64 Q8, .int .i64 Q9, .int .i64 Q10, .int .i64 Q11, .int .i64 Q12, .int .i64 Q13, .int .i64 Q14, .int .i64 Q15, .int .i64 Q16, .int .i64 Q17, .int .i64 Q18, .int .i64 Q19, .int .i64 Q20, .int .i64 Q21, .int .i64 Q22, .int .i64 Q23, .int .i64 Q24, .int .i64 Q25, .int .i64 Q26, .int .i64 Q27, .int .i64 Q28, .int .i64 Q29, .int .i64 Q30, .int .i64 Q31, .int .i64 Q32, .int .i64 Q33, .int .i64 Q34, .bool Q35, .sl 1 0 7 (List.length l1) none], .dead,Blk.vec El.span l3 true]}
def w6 (l0:List (Int)) (l1:List (ag)) (l3:List (Span)) (Q0 Q1 Q2 Q4 Q5 Q6 Q7 Q8 Q9 Q10 Q11 Q12 Q13 Q14 Q15 Q16 Q17 Q18 Q19 Q20 Q21 Q22 Q23 Q24 Q25 Q26 Q27 Q28 Q29 Q30 Q31 Q32 Q33 Q34:Int) (Q35:Bool) (v2 v8:Int):St (X:=els):=({tm:=[.any, .any, .is (.int .i64 v2), .is (.ptr 2 0), .any, .any, .any, .is (.sl 4 0 4 (List.length l3) none), .is (.int .i64 v8), .any, .any, .any, .any, .any, .any, .any, .any, .any, .any, .any, .any, .any, .any, .any, .any, .any, .any, .any, .any, .any, .any, .any, .any, .any, .any, .any, .any, .any, .any, .any],hp:=[Blk.vec El.int l0 false,Blk.vec El.aV l1 false, .raw [.int .i64 Q0, .int .i64 Q1, .int .i64 Q2, .sl 0 0 1 (List.length l0) none, .int .i64 Q4, .int .i64 Q5, .int .i64 Q6, .int .i64 Q7, .int .i64 Q8, .int .i64 Q9, .int .i64 Q10, .int .i64 Q11, .int .i64 Q12, .int .i64 Q13, .int .i64 Q14, .int .i64 Q15, .int .i64 Q16, .int .i64 Q17, .int .i64 Q18, .int .i64 Q19, .int .i64 Q20, .int .i64 Q21, .int .i64 Q22, .int .i64 Q23, .int .i64 Q24, .int .i64 Q25, .int .i64 Q26, .int .i64 Q27, .int .i64 Q28, .int .i64 Q29, .int .i64 Q30, .int .i64 Q31, .int .i64 Q32, .int .i64 Q33, .int .i64 Q34, .bool Q35, .sl 1 0 7 (List.length l1) none], .dead,Blk.vec El.span l3 true]}:St (X:=els))
noncomputable def K4:Code:=((aN [false,true,false,false,true,false,false,true,false,true,true] (Tryz.f17.body.getD .skip)).getD .skip|>fun c=>match c with| .loop c=>c|c=>c)
noncomputable def Dq (F d n:Nat) (s:St (X:=els)):Option (Ex×St (X:=els)):=iter none (fun s' K'=>exec K6 none (bY K6 none F d) F 17 7460 K4 s' (aX none Bw K')) n s (fun e s=>some (e,cf Hs s))
noncomputable def FK:List LV→List (Blk (X:=els))→List SV→cm
 | [⟨El.int,l0⟩,⟨El.aV,l1⟩,⟨El.span,l3⟩],[],xs=>aa xs fun Q0 xs=>aa xs fun Q1 xs=>aa xs fun Q2 xs=>aa xs fun Q4 xs=>aa xs fun Q5 xs=>aa xs fun Q6 xs=>aa xs fun Q7 xs=>aa xs fun Q8 xs=>aa xs fun Q9 xs=>aa xs fun Q10 xs=>aa xs fun Q11 xs=>aa xs fun Q12 xs=>aa xs fun Q13 xs=>aa xs fun Q14 xs=>aa xs fun Q15 xs=>aa xs fun Q16 xs=>aa xs fun Q17 xs=>aa xs fun Q18 xs=>aa xs fun Q19 xs=>aa xs fun Q20 xs=>aa xs fun Q21 xs=>aa xs fun Q22 xs=>aa xs fun Q23 xs=>aa xs fun Q24 xs=>aa xs fun Q25 xs=>aa xs fun Q26 xs=>aa xs fun Q27 xs=>aa xs fun Q28 xs=>aa xs fun Q29 xs=>aa xs fun Q30 xs=>aa xs fun Q31 xs=>aa xs fun Q32 xs=>aa xs fun Q33 xs=>aa xs fun Q34 xs=>gJ xs fun Q35 xs=>aa xs fun v2 xs=>aa xs fun v8 xs=>aa xs fun v9 xs=>cy xs (some (decide (l0.length≤1048576)&&(decide (l1.length≤1000)&&(decide (l3.length≤100000)&&(v9==0&&(af (⟨Q0,Q1,Q2,l0,⟨Q4,Q5,Q6,Q7,Q8,Q9,Q10⟩,Q11,Q12,⟨Q13,Q14,⟨Q15,Q16,Q17,Q18⟩,⟨Q19,Q20,Q21,Q22⟩⟩,⟨Q23,Q24,Q25,Q26,Q27,Q28,Q29,Q30,Q31,Q32,Q33,Q34⟩,Q35,l1⟩:Config)==0&&du v8)))),[], .exit 2,(w6 l0 l1 (l3++bn (⟨Q0,Q1,Q2,l0,⟨Q4,Q5,Q6,Q7,Q8,Q9,Q10⟩,Q11,Q12,⟨Q13,Q14,⟨Q15,Q16,Q17,Q18⟩,⟨Q19,Q20,Q21,Q22⟩⟩,⟨Q23,Q24,Q25,Q26,Q27,Q28,Q29,Q30,Q31,Q32,Q33,Q34⟩,Q35,l1⟩:Config) v8 l1) Q0 Q1 Q2 Q4 Q5 Q6 Q7 Q8 Q9 Q10 Q11 Q12 Q13 Q14 Q15 Q16 Q17 Q18 Q19 Q20 Q21 Q22 Q23 Q24 Q25 Q26 Q27 Q28 Q29 Q30 Q31 Q32 Q33 Q34 Q35 v2 v8)))
 |_,_,_=>none
noncomputable def JJ:Cfg (X:=els):={K6 with lp:=(17,3730,{keep:=sY,m:=4,mv:=Bw.mv,ctx:=0,con:=some ((Hd).con FK)})::K6.lp}
def GD:Pat (X:=els):={tm:=[.any, .any,(.is (.int .i64)),(.is (.lit (AV.ptr 2 0))), .any, .any, .any,(.is (.slW 3 4)),(.is (.int .i64)), .any, .any, .any, .any, .any, .any, .any, .any, .any, .any, .any, .any, .any, .any, .any, .any, .any, .any, .any, .any, .any, .any, .any, .any, .any, .any, .any, .any, .any, .any, .any],hp:=[(.vec (.int:El) false),(.vec (.aV:El) false),(.raw [(.int .i64),(.int .i64),(.int .i64),(.slW 0 1),(.int .i64),(.int .i64),(.int .i64),(.int .i64),(.int .i64),(.int .i64),(.int .i64),(.int .i64),(.int .i64),(.int .i64),(.int .i64),(.int .i64),(.int .i64),(.int .i64),(.int .i64),(.int .i64),(.int .i64),(.int .i64),(.int .i64),(.int .i64),(.int .i64),(.int .i64),(.int .i64),(.int .i64),(.int .i64),(.int .i64),(.int .i64),(.int .i64),(.int .i64),(.int .i64),(.int .i64), .bool,(.slW 1 7)]),(.vec (.span:El) true)]}
def sP:List Nat:=[2,3,7,8]
def He:List Nat:=[6,7]
noncomputable def Bp:bJ (X:=els):={keep:=sP,m:=3,mv:=[(.slot 7,(.span:El))]}
def C6 (l0:List (Int)) (l1:List (ag)) (l3:List (Span)) (Q0 Q1 Q2 Q4 Q5 Q6 Q7 Q8 Q9 Q10 Q11 Q12 Q13 Q14 Q15 Q16 Q17 Q18 Q19 Q20 Q21 Q22 Q23 Q24 Q25 Q26 Q27 Q28 Q29 Q30 Q31 Q32 Q33 Q34:Int) (Q35:Bool) (v2 v8:Int):St (X:=els):={tm:=[.any, .any, .is (.int .i64 v2), .is (.ptr 2 0), .any, .any, .any, .is (.sl 3 0 4 (List.length l3) none), .is (.int .i64 v8), .any, .any, .any, .any, .any, .any, .any, .any, .any, .any, .any, .any, .any, .any, .any, .any, .any, .any, .any, .any, .any, .any, .any, .any, .any, .any, .any, .any, .any, .any, .any],hp:=[Blk.vec El.int l0 false,Blk.vec El.aV l1 false, .raw [.int .i64 Q0, .int .i64 Q1, .int .i64 Q2, .sl 0 0 1 (List.length l0) none, .int .i64 Q4, .int .i64 Q5, .int .i64 Q6, .int .i64 Q7, .int .i64 Q8, .int .i64 Q9, .int .i64 Q10, .int .i64 Q11, .int .i64 Q12, .int .i64 Q13, .int .i64 Q14, .int .i64 Q15, .int .i64 Q16, .int .i64 Q17, .int .i64 Q18, .int .i64 Q19, .int .i64 Q20, .int .i64 Q21, .int .i64 Q22, .int .i64 Q23, .int .i64 Q24, .int .i64 Q25, .int .i64 Q26, .int .i64 Q27, .int .i64 Q28, .int .i64 Q29, .int .i64 Q30, .int .i64 Q31, .int .i64 Q32, .int .i64 Q33, .int .i64 Q34, .bool Q35, .sl 1 0 7 (List.length l1) none],Blk.vec El.span l3 true]}
def xX (l0:List (Int)) (l1:List (ag)) (l3:List (Span)) (Q0 Q1 Q2 Q4 Q5 Q6 Q7 Q8 Q9 Q10 Q11 Q12 Q13 Q14 Q15 Q16 Q17 Q18 Q19 Q20 Q21 Q22 Q23 Q24 Q25 Q26 Q27 Q28 Q29 Q30 Q31 Q32 Q33 Q34:Int) (Q35:Bool):St (X:=els):=({tm:=[.any, .any, .any, .any, .any, .any, .any, .is (.sl 3 0 4 (List.length l3) none), .any, .any, .any, .any, .any, .any, .any, .any, .any, .any, .any, .any, .any, .any, .any, .any, .any, .any, .any, .any, .any, .any, .any, .any, .any, .any, .any, .any, .any, .any, .any, .any],hp:=[Blk.vec El.int l0 false,Blk.vec El.aV l1 false, .raw [.int .i64 Q0, .int .i64 Q1, .int .i64 Q2, .sl 0 0 1 (List.length l0) none, .int .i64 Q4, .int .i64 Q5, .int .i64 Q6, .int .i64 Q7, .int .i64 Q8, .int .i64 Q9, .int .i64 Q10, .int .i64 Q11, .int .i64 Q12, .int .i64 Q13, .int .i64 Q14, .int .i64 Q15, .int .i64 Q16, .int .i64 Q17, .int .i64 Q18, .int .i64 Q19, .int .i64 Q20, .int .i64 Q21, .int .i64 Q22, .int .i64 Q23, .int .i64 Q24, .int .i64 Q25, .int .i64 Q26, .int .i64 Q27, .int .i64 Q28, .int .i64 Q29, .int .i64 Q30, .int .i64 Q31, .int .i64 Q32, .int .i64 Q33, .int .i64 Q34, .bool Q35, .sl 1 0 7 (List.length l1) none],Blk.vec El.span l3 true]}:St (X:=els))
noncomputable def Jx:Code:=((aN [false,true,false,true,true] (Tryz.f17.body.getD .skip)).getD .skip|>fun c=>match c with| .loop c=>c|c=>c)
noncomputable def GN (F d n:Nat) (s:St (X:=els)):Option (Ex×St (X:=els)):=iter none (fun s' K'=>exec JJ none (bY JJ none F d) F 17 116 Jx s' (aX none Bp K')) n s (fun e s=>some (e,cf He s))
noncomputable def GC:List LV→List (Blk (X:=els))→List SV→cm
 | [⟨El.int,l0⟩,⟨El.aV,l1⟩,⟨El.span,l3⟩],[],xs=>aa xs fun Q0 xs=>aa xs fun Q1 xs=>aa xs fun Q2 xs=>aa xs fun Q4 xs=>aa xs fun Q5 xs=>aa xs fun Q6 xs=>aa xs fun Q7 xs=>aa xs fun Q8 xs=>aa xs fun Q9 xs=>aa xs fun Q10 xs=>aa xs fun Q11 xs=>aa xs fun Q12 xs=>aa xs fun Q13 xs=>aa xs fun Q14 xs=>aa xs fun Q15 xs=>aa xs fun Q16 xs=>aa xs fun Q17 xs=>aa xs fun Q18 xs=>aa xs fun Q19 xs=>aa xs fun Q20 xs=>aa xs fun Q21 xs=>aa xs fun Q22 xs=>aa xs fun Q23 xs=>aa xs fun Q24 xs=>aa xs fun Q25 xs=>aa xs fun Q26 xs=>aa xs fun Q27 xs=>aa xs fun Q28 xs=>aa xs fun Q29 xs=>aa xs fun Q30 xs=>aa xs fun Q31 xs=>aa xs fun Q32 xs=>aa xs fun Q33 xs=>aa xs fun Q34 xs=>gJ xs fun Q35 xs=>aa xs fun v2 xs=>aa xs fun v8 xs=>cy xs (some (decide (l0.length≤1048576)&&(decide (l1.length≤1000)&&(l3.length==0&&(fg v8 v2&&af (⟨Q0,Q1,Q2,l0,⟨Q4,Q5,Q6,Q7,Q8,Q9,Q10⟩,Q11,Q12,⟨Q13,Q14,⟨Q15,Q16,Q17,Q18⟩,⟨Q19,Q20,Q21,Q22⟩⟩,⟨Q23,Q24,Q25,Q26,Q27,Q28,Q29,Q30,Q31,Q32,Q33,Q34⟩,Q35,l1⟩:Config)==0))),[], .exit 0,(xX l0 l1 (cD (⟨Q0,Q1,Q2,l0,⟨Q4,Q5,Q6,Q7,Q8,Q9,Q10⟩,Q11,Q12,⟨Q13,Q14,⟨Q15,Q16,Q17,Q18⟩,⟨Q19,Q20,Q21,Q22⟩⟩,⟨Q23,Q24,Q25,Q26,Q27,Q28,Q29,Q30,Q31,Q32,Q33,Q34⟩,Q35,l1⟩:Config) (v2-v8+1).toNat v8) Q0 Q1 Q2 Q4 Q5 Q6 Q7 Q8 Q9 Q10 Q11 Q12 Q13 Q14 Q15 Q16 Q17 Q18 Q19 Q20 Q21 Q22 Q23 Q24 Q25 Q26 Q27 Q28 Q29 Q30 Q31 Q32 Q33 Q34 Q35)))
 |_,_,_=>none
noncomputable def Rp:Cfg (X:=els):={JJ with lp:=(17,58,{keep:=sP,m:=3,mv:=Bp.mv,ctx:=0,con:=some ((GD).con GC)})::JJ.lp}
noncomputable def gE:=(Sig.cons true bG (Sig.cons false (Dat.ah (Cel.int .i64)) (Sig.cons false (Dat.ah (Cel.int .i64)) Sig.nil)))
noncomputable def gg:=(Out.one (Own.sl (.span:El)))
noncomputable def QE:Cfg (X:=els):={Rp with H:=(17,(gE).gS gg (fun x=>(jG x.1 x.2.1 x.2.2.1)) (fun x=>zD x.1 x.2.1 x.2.2.1))::Rp.H}
noncomputable def iL:=(Sig.cons true bG (Sig.cons false (Dat.ah (Cel.int .i64)) Sig.nil))
noncomputable def mW:=(Res.agg Vu)
noncomputable def Ss:Cfg (X:=els):={QE with E:=(20,(iL).con mW (fun x=>(Sf x.1 x.2.1)) (fun x=>EZ x.1 x.2.1))::QE.E}
noncomputable def b8:=(Sig.cons true bG (Sig.cons false (Dat.ah (Cel.int .i64)) Sig.nil))
end Go.Proofs.YtfhepbbkggdlcaaGreatDoor.Px.PxT
