/- The contracts of a seat's functions. -/
import Derived.Test.YtdadgkgkdgnihaaPxVTypes
import Derived.Test.YtdadgkgkdgnihaaPxSpecSpan
import Derived.Test.YtdadgkgkdgnihaaPxSpecSpan5
set_option linter.unusedVariables false
set_option linter.unusedSimpArgs false
namespace Go.Proofs.Ytdadgkgkdgnihaa.Px.PxV
open Go Go.Proofs
noncomputable def fS:=(Sig.cons true (Dat.dd jH) (Sig.cons false (Dat.dd (Cel.int .i64)) Sig.nil))
noncomputable def jA:=Res.bool
noncomputable def k1:Cfg (X:=els):={k0 with E:=(29,(fS).con jA (fun x=>(inS x.1 x.2.1)) (fun _=>true))::k0.E}
noncomputable def qN:=(Sig.cons true (Dat.dd jH) (Sig.cons true (Dat.dd jH) Sig.nil))
noncomputable def uR:=Res.bool
noncomputable def k2:Cfg (X:=els):={k1 with E:=(33,(qN).con uR (fun x=>(dA x.1 x.2.1)) (fun _=>true))::k1.E}
noncomputable def dS:=(Sig.cons false (Dat.sl dz (.span:El)) Sig.nil)
noncomputable def dI:=(Out.one (Own.sl (.span:El)))
noncomputable def k3:Cfg (X:=els):={k2 with H:=(11,(dS).eo dI (fun x=>(Bm x.1)) (fun x=>aE x.1))::k2.H}
def qM:Pat (X:=els):={tm:=[(.is (.slW 0 4)),(.is (.slW 1 4)), .any, .any, .any,(.is (.int .i64)), .any, .any, .any, .any, .any, .any, .any, .any, .any, .any, .any, .any, .any, .any, .any, .any, .any, .any, .any, .any],hp:=[(.vec (.span:El) false),(.vec (.span:El) false)]}
def jo:List Nat:=[0,1,5]
def qZ:List Nat:=[4]
noncomputable def nD:bj (X:=els):={keep:=jo,m:=2,mv:=[]}
def nV (l0 l1:List (Span)) (v5:Int):St (X:=els):={tm:=[.is (.sl 0 0 4 (List.length l0) none), .is (.sl 1 0 4 (List.length l1) none), .any, .any, .any, .is (.int .i64 v5), .any, .any, .any, .any, .any, .any, .any, .any, .any, .any, .any, .any, .any, .any, .any, .any, .any, .any, .any, .any],hp:=[Blk.vec El.span l0 false,Blk.vec El.span l1 false]}
def kE (l0 l1:List (Span)):St (X:=els):=({tm:=[.any, .any, .any, .any, .is (.bool false), .any, .any, .any, .any, .any, .any, .any, .any, .any, .any, .any, .any, .any, .any, .any, .any, .any, .any, .any, .any, .any],hp:=[Blk.vec El.span l0 false,Blk.vec El.span l1 false]}:St (X:=els))
def kC (l0 l1:List (Span)):St (X:=els):=({tm:=[.any, .any, .any, .any, .any, .any, .any, .any, .any, .any, .any, .any, .any, .any, .any, .any, .any, .any, .any, .any, .any, .any, .any, .any, .any, .any],hp:=[Blk.vec El.span l0 false,Blk.vec El.span l1 false]}:St (X:=els))
noncomputable def ug:Code:=((aG [false,true,false,true,true] (Try.f13.body.getD .skip)).getD .skip|>fun c=>match c with| .loop c=>c|c=>c)
noncomputable def ql (F d n:Nat) (s:St (X:=els)):Option (Ex×St (X:=els)):=iter none (fun s' K'=>exec k3 none (bA k3 none F d) F 13 116 ug s' (aV none nD K')) n s (fun e s=>some (e,bY qZ s))
noncomputable def qD:List LV→List (Blk (X:=els))→List SV→cg
 | [⟨El.span,l0⟩,⟨El.span,l1⟩],[],xs=>az xs fun v5 xs=>cS xs (some (decide (l0.length≤1048576)&&(l0.length==l1.length&&v5==0),[(bK l0 l1, .exit 0,(kC l0 l1))], .ret,(kE l0 l1)))
 |_,_,_=>none
noncomputable def k4:Cfg (X:=els):={k3 with lp:=(13,58,{keep:=jo,m:=2,mv:=nD.mv,ctx:=0,con:=some ((qM).con qD)})::k3.lp}
noncomputable def dj:=(Sig.cons false (Dat.sl dz (.span:El)) (Sig.cons false (Dat.sl dz (.span:El)) Sig.nil))
noncomputable def dp:=Res.bool
noncomputable def k5:Cfg (X:=els):={k4 with E:=(13,(dj).con dp (fun x=>(bK x.1 x.2.1)) (fun x=>eD x.1 x.2.1))::k4.E}
def lg:Pat (X:=els):={tm:=[(.is (.slW 0 4)),(.is (.int .i64)), .any, .any, .any,(.is (.int .i64)),(.is (.lit (AV.fn 33 [] []))), .any, .any,(.is (.slW 0 4)),(.is (.int .i64)),(.is (.int .i64)), .any, .any, .any, .any, .any, .any, .any, .any, .any, .any, .any, .any, .any, .any, .any, .any, .any, .any, .any, .any, .any, .any, .any, .any],hp:=[(.vec (.span:El) false)]}
def fI:List Nat:=[0,1,5,6,9,10,11]
def ma:List Nat:=[4,5]
noncomputable def jd:bj (X:=els):={keep:=fI,m:=1,mv:=[]}
def gi (l0:List (Span)) (v1 v5 v10 v11:Int):St (X:=els):={tm:=[.is (.sl 0 0 4 (List.length l0) none), .is (.int .i64 v1), .any, .any, .any, .is (.int .i64 v5), .is (AV.fn 33 [] []), .any, .any, .is (.sl 0 0 4 (List.length l0) none), .is (.int .i64 v10), .is (.int .i64 v11), .any, .any, .any, .any, .any, .any, .any, .any, .any, .any, .any, .any, .any, .any, .any, .any, .any, .any, .any, .any, .any, .any, .any, .any],hp:=[Blk.vec El.span l0 false]}
def gu (l0:List (Span)) (v5:Int):St (X:=els):=({tm:=[.any, .any, .any, .any, .any, .is (.int .i64 v5), .any, .any, .any, .any, .any, .any, .any, .any, .any, .any, .any, .any, .any, .any, .any, .any, .any, .any, .any, .any, .any, .any, .any, .any, .any, .any, .any, .any, .any, .any],hp:=[Blk.vec El.span l0 false]}:St (X:=els))
noncomputable def oh:Code:=((aG [false,true,false,true,true,true] (Try.f23.body.getD .skip)).getD .skip|>fun c=>match c with| .loop c=>c|c=>c)
noncomputable def im (F d n:Nat) (s:St (X:=els)):Option (Ex×St (X:=els)):=iter none (fun s' K'=>exec k5 none (bA k5 none F d) F 23 244 oh s' (aV none jd K')) n s (fun e s=>some (e,bY ma s))
noncomputable def lu:List LV→List (Blk (X:=els))→List SV→cg
 | [⟨El.span,l0⟩],[],xs=>az xs fun v1 xs=>az xs fun v5 xs=>az xs fun v10 xs=>az xs fun v11 xs=>cS xs (some (decide (l0.length≤1048576)&&(v10==(l0.length:Int)&&(v11==0&&v5== -1)),[], .exit 0,(gu l0 (ag l0 v1))))
 |_,_,_=>none
noncomputable def k6:Cfg (X:=els):={k5 with lp:=(23,122,{keep:=fI,m:=1,mv:=jd.mv,ctx:=0,con:=some ((lg).con lu)})::k5.lp}
noncomputable def dm:=(Sig.cons false (Dat.sl dz (.span:El)) (Sig.cons false (Dat.dd (Cel.int .i64)) Sig.nil))
noncomputable def fC:=(Res.int .i64)
noncomputable def k7:Cfg (X:=els):={k6 with E:=(23,(dm).con fC (fun x=>(ag x.1 x.2.1)) (fun x=>aL x.1 x.2.1))::k6.E}
def qh:Pat (X:=els):={tm:=[(.is (.slW 0 4)),(.is (.lit (AV.fn 28 [] [AV.ptr 1 0]))), .any, .any, .any, .any, .any,(.is (.int .i64)),(.is (.int .i64)), .any, .any, .any, .any, .any, .any, .any, .any, .any, .any],hp:=[(.vec (.span:El) false),(.raw [(.int .i64)]),(.raw [(.int .i64),(.int .i64),(.int .i64),(.int .i64)])]}
def iX:List Nat:=[0,1,7,8]
def qY:List Nat:=[4]
noncomputable def nB:bj (X:=els):={keep:=iX,m:=3,mv:=[]}
def nP (l0:List (Span)) (P0 Q0 Q1 Q2 Q3 v7 v8:Int):St (X:=els):={tm:=[.is (.sl 0 0 4 (List.length l0) none), .is (AV.fn 28 [] [.ptr 1 0]), .any, .any, .any, .any, .any, .is (.int .i64 v7), .is (.int .i64 v8), .any, .any, .any, .any, .any, .any, .any, .any, .any, .any],hp:=[Blk.vec El.span l0 false, .raw [.int .i64 P0], .raw [.int .i64 Q0, .int .i64 Q1, .int .i64 Q2, .int .i64 Q3]]}
def kS (l0:List (Span)) (P0 Q0 Q1 Q2 Q3 v8:Int):St (X:=els):=({tm:=[.any, .any, .any, .any, .is (.int .i64 v8), .any, .any, .any, .any, .any, .any, .any, .any, .any, .any, .any, .any, .any, .any],hp:=[Blk.vec El.span l0 false, .raw [.int .i64 P0], .raw [.int .i64 Q0, .int .i64 Q1, .int .i64 Q2, .int .i64 Q3], .raw [.int .i64 (Span.from_ (List.getD l0 (0+Int.toNat v8) {from_:=0,to_:=0,mode:=0,prio:=0})), .int .i64 (Span.to_ (List.getD l0 (0+Int.toNat v8) {from_:=0,to_:=0,mode:=0,prio:=0})), .int .i64 (Span.mode (List.getD l0 (0+Int.toNat v8) {from_:=0,to_:=0,mode:=0,prio:=0})), .int .i64 (Span.prio (List.getD l0 (0+Int.toNat v8) {from_:=0,to_:=0,mode:=0,prio:=0}))]]}:St (X:=els))
def ku (l0:List (Span)) (P0 Q0 Q1 Q2 Q3:Int):St (X:=els):=({tm:=[.any, .any, .any, .any, .any, .any, .any, .any, .any, .any, .any, .any, .any, .any, .any, .any, .any, .any, .any],hp:=[Blk.vec El.span l0 false, .raw [.int .i64 P0], .raw [.int .i64 Q0, .int .i64 Q1, .int .i64 Q2, .int .i64 Q3]]}:St (X:=els))
noncomputable def ua:Code:=((aG [false,true,false,true] (Try.f27.body.getD .skip)).getD .skip|>fun c=>match c with| .loop c=>c|c=>c)
noncomputable def qy (F d n:Nat) (s:St (X:=els)):Option (Ex×St (X:=els)):=iter none (fun s' K'=>exec k7 none (bA k7 none F d) F 27 52 ua s' (aV none nB K')) n s (fun e s=>some (e,bY qY s))
noncomputable def pY:List LV→List (Blk (X:=els))→List SV→cg
 | [⟨El.span,l0⟩],[],xs=>az xs fun P0 xs=>az xs fun Q0 xs=>az xs fun Q1 xs=>az xs fun Q2 xs=>az xs fun Q3 xs=>az xs fun v7 xs=>az xs fun v8 xs=>cS xs (some (decide (l0.length≤1048576)&&(v7==(l0.length:Int)&&v8==0),[(!c7 l0 P0, .exit 0,(ku l0 P0 Q0 Q1 Q2 Q3))], .ret,(kS l0 P0 Q0 Q1 Q2 Q3 (atIdx l0 P0))))
 |_,_,_=>none
noncomputable def k8:Cfg (X:=els):={k7 with lp:=(27,26,{keep:=iX,m:=3,mv:=nB.mv,ctx:=1003,con:=some ((qh).con pY)})::k7.lp}
noncomputable def l5:=(Sig.cons false (Dat.sl dz (.span:El)) (Sig.cons false (Dat.dd (Cel.int .i64)) Sig.nil))
noncomputable def pC:=(Res.AD (Res.agg jH) Res.bool)
noncomputable def k9:Cfg (X:=els):={k8 with E:=(15,(l5).con pC (fun x=>(fX x.1 x.2.1)) (fun x=>aL x.1 x.2.1))::k8.E}
def u9:Pat (X:=els):={tm:=[(.is (.slW 0 4)),(.is (.int .i64)), .any, .any,(.is (.lit (AV.ptr 1 0))), .any,(.is (.int .i64)), .any, .any, .any, .any, .any, .any, .any, .any, .any, .any, .any, .any, .any, .any, .any, .any, .any, .any, .any, .any, .any, .any, .any, .any, .any, .any, .any],hp:=[(.vec (.span:El) false),(.raw [(.int .i64),(.int .i64),(.int .i64),(.int .i64)])]}
def kP:List Nat:=[0,1,4,6]
def tY:List Nat:=[4,5]
noncomputable def rj:bj (X:=els):={keep:=kP,m:=2,mv:=[]}
def rD (l0:List (Span)) (P0 P1 P2 P3 v1 v6:Int):St (X:=els):={tm:=[.is (.sl 0 0 4 (List.length l0) none), .is (.int .i64 v1), .any, .any, .is (.ptr 1 0), .any, .is (.int .i64 v6), .any, .any, .any, .any, .any, .any, .any, .any, .any, .any, .any, .any, .any, .any, .any, .any, .any, .any, .any, .any, .any, .any, .any, .any, .any, .any, .any],hp:=[Blk.vec El.span l0 false, .raw [.int .i64 P0, .int .i64 P1, .int .i64 P2, .int .i64 P3]]}
def nu (l0:List (Span)) (v6:Int):St (X:=els):=({tm:=[.any, .any, .any, .any, .is (.ptr 1 0), .is (.bool true), .any, .any, .any, .any, .any, .any, .any, .any, .any, .any, .any, .any, .any, .any, .any, .any, .any, .any, .any, .any, .any, .any, .any, .any, .any, .any, .any, .any],hp:=[Blk.vec El.span l0 false, .raw [.int .i64 (Span.from_ (List.getD l0 (0+Int.toNat v6) {from_:=0,to_:=0,mode:=0,prio:=0})), .int .i64 (Span.to_ (List.getD l0 (0+Int.toNat v6) {from_:=0,to_:=0,mode:=0,prio:=0})), .int .i64 (Span.mode (List.getD l0 (0+Int.toNat v6) {from_:=0,to_:=0,mode:=0,prio:=0})), .int .i64 (Span.prio (List.getD l0 (0+Int.toNat v6) {from_:=0,to_:=0,mode:=0,prio:=0}))]]}:St (X:=els))
def ny (l0:List (Span)) (P0 P1 P2 P3:Int):St (X:=els):=({tm:=[.any, .any, .any, .any, .is (.ptr 1 0), .any, .any, .any, .any, .any, .any, .any, .any, .any, .any, .any, .any, .any, .any, .any, .any, .any, .any, .any, .any, .any, .any, .any, .any, .any, .any, .any, .any, .any],hp:=[Blk.vec El.span l0 false, .raw [.int .i64 P0, .int .i64 P1, .int .i64 P2, .int .i64 P3]]}:St (X:=els))
noncomputable def yt:Code:=((aG [false,true,false,true] (Try.f16.body.getD .skip)).getD .skip|>fun c=>match c with| .loop c=>c|c=>c)
noncomputable def u6 (F d n:Nat) (s:St (X:=els)):Option (Ex×St (X:=els)):=iter none (fun s' K'=>exec k9 none (bA k9 none F d) F 16 52 yt s' (aV none rj K')) n s (fun e s=>some (e,bY tY s))
noncomputable def vH:List LV→List (Blk (X:=els))→List SV→cg
 | [⟨El.span,l0⟩],[],xs=>az xs fun P0 xs=>az xs fun P1 xs=>az xs fun P2 xs=>az xs fun P3 xs=>az xs fun v1 xs=>az xs fun v6 xs=>cS xs (some (decide (l0.length≤1048576)&&v6==0,[(!c7 l0 v1, .exit 0,(ny l0 P0 P1 P2 P3))], .ret,(nu l0 (atIdx l0 v1))))
 |_,_,_=>none
noncomputable def k10:Cfg (X:=els):={k9 with lp:=(16,26,{keep:=kP,m:=2,mv:=rj.mv,ctx:=0,con:=some ((u9).con vH)})::k9.lp}
noncomputable def ez:=(Sig.cons false (Dat.sl dz (.span:El)) (Sig.cons false (Dat.dd (Cel.int .i64)) Sig.nil))
noncomputable def gX:=(Res.AD (Res.agg jH) Res.bool)
noncomputable def k11:Cfg (X:=els):={k10 with E:=(16,(ez).con gX (fun x=>(fX x.1 x.2.1)) (fun x=>aL x.1 x.2.1))::k10.E}
def uJ:Pat (X:=els):={tm:=[.any,(.is (.int .i64)),(.is (.int .i64)), .any, .any, .any, .any,(.is (.slW 1 4)), .any, .any,(.is (.slW 0 4)),(.is (.int .i64)),(.is (.int .i64)), .any, .any, .any, .any, .any, .any, .any, .any, .any, .any, .any, .any, .any, .any, .any, .any, .any, .any, .any, .any, .any, .any, .any, .any],hp:=[(.vec (.span:El) false),(.vec (.span:El) true)]}
def lI:List Nat:=[1,2,7,10,11,12]
def tX:List Nat:=[6,7]
noncomputable def qC:bj (X:=els):={keep:=lI,m:=1,mv:=[(.slot 7,(.span:El))]}
def py (l0 l1:List (Span)) (v1 v2 v11 v12:Int):St (X:=els):={tm:=[.any, .is (.int .i64 v1), .is (.int .i64 v2), .any, .any, .any, .any, .is (.sl 1 0 4 (List.length l1) none), .any, .any, .is (.sl 0 0 4 (List.length l0) none), .is (.int .i64 v11), .is (.int .i64 v12), .any, .any, .any, .any, .any, .any, .any, .any, .any, .any, .any, .any, .any, .any, .any, .any, .any, .any, .any, .any, .any, .any, .any, .any],hp:=[Blk.vec El.span l0 false,Blk.vec El.span l1 true]}
def nC (l0 l1:List (Span)):St (X:=els):=({tm:=[.any, .any, .any, .any, .any, .any, .any, .is (.sl 1 0 4 (List.length l1) none), .any, .any, .any, .any, .any, .any, .any, .any, .any, .any, .any, .any, .any, .any, .any, .any, .any, .any, .any, .any, .any, .any, .any, .any, .any, .any, .any, .any, .any],hp:=[Blk.vec El.span l0 false,Blk.vec El.span l1 true]}:St (X:=els))
noncomputable def yF:Code:=((aG [false,true,false,true,true] (Try.f17.body.getD .skip)).getD .skip|>fun c=>match c with| .loop c=>c|c=>c)
noncomputable def rP (F d n:Nat) (s:St (X:=els)):Option (Ex×St (X:=els)):=iter none (fun s' K'=>exec k11 none (bA k11 none F d) F 17 116 yF s' (aV none qC K')) n s (fun e s=>some (e,bY tX s))
noncomputable def vm:List LV→List (Blk (X:=els))→List SV→cg
 | [⟨El.span,l0⟩,⟨El.span,l1⟩],[],xs=>az xs fun v1 xs=>az xs fun v2 xs=>az xs fun v11 xs=>az xs fun v12 xs=>cS xs (some (decide (l0.length≤1048576)&&(v11==(l0.length:Int)&&(v12==0&&l1.length==0)),[], .exit 0,(nC l0 (bP l0 v1 v2))))
 |_,_,_=>none
noncomputable def k12:Cfg (X:=els):={k11 with lp:=(17,58,{keep:=lI,m:=1,mv:=qC.mv,ctx:=0,con:=some ((uJ).con vm)})::k11.lp}
noncomputable def jP:=(Sig.cons false (Dat.sl dz (.span:El)) (Sig.cons false (Dat.dd (Cel.int .i64)) (Sig.cons false (Dat.dd (Cel.int .i64)) Sig.nil)))
noncomputable def jQ:=(Out.one (Own.sl (.span:El)))
noncomputable def k13:Cfg (X:=els):={k12 with H:=(17,(jP).eo jQ (fun x=>(bP x.1 x.2.1 x.2.2.1)) (fun x=>cj x.1 x.2.1 x.2.2.1))::k12.H}
def qI:Pat (X:=els):={tm:=[(.is (.slW 0 4)),(.is (.int .i64)),(.is (.int .i64)), .any, .any, .any, .any,(.is (.slW 1 4)),(.is (.int .i64)), .any, .any, .any, .any, .any, .any, .any, .any, .any, .any, .any, .any, .any, .any, .any, .any, .any, .any, .any, .any, .any, .any, .any, .any, .any, .any, .any, .any, .any, .any, .any, .any, .any],hp:=[(.vec (.span:El) false),(.vec (.span:El) true)]}
def ja:List Nat:=[0,1,2,7,8]
def qQ:List Nat:=[6,7]
noncomputable def nF:bj (X:=els):={keep:=ja,m:=1,mv:=[(.slot 7,(.span:El))]}
def ew (l0 l1:List (Span)) (v1 v2 v8:Int):St (X:=els):={tm:=[.is (.sl 0 0 4 (List.length l0) none), .is (.int .i64 v1), .is (.int .i64 v2), .any, .any, .any, .any, .is (.sl 1 0 4 (List.length l1) none), .is (.int .i64 v8), .any, .any, .any, .any, .any, .any, .any, .any, .any, .any, .any, .any, .any, .any, .any, .any, .any, .any, .any, .any, .any, .any, .any, .any, .any, .any, .any, .any, .any, .any, .any, .any, .any],hp:=[Blk.vec El.span l0 false,Blk.vec El.span l1 true]}
def ll (l0 l1:List (Span)):St (X:=els):=({tm:=[.any, .any, .any, .any, .any, .any, .any, .is (.sl 1 0 4 (List.length l1) none), .any, .any, .any, .any, .any, .any, .any, .any, .any, .any, .any, .any, .any, .any, .any, .any, .any, .any, .any, .any, .any, .any, .any, .any, .any, .any, .any, .any, .any, .any, .any, .any, .any, .any],hp:=[Blk.vec El.span l0 false,Blk.vec El.span l1 true]}:St (X:=els))
noncomputable def tu:Code:=((aG [false,true,false,true,true] (Try.f18.body.getD .skip)).getD .skip|>fun c=>match c with| .loop c=>c|c=>c)
noncomputable def eY (F d n:Nat) (s:St (X:=els)):Option (Ex×St (X:=els)):=iter none (fun s' K'=>exec k13 none (bA k13 none F d) F 18 116 tu s' (aV none nF K')) n s (fun e s=>some (e,bY qQ s))
noncomputable def qR:List LV→List (Blk (X:=els))→List SV→cg
 | [⟨El.span,l0⟩,⟨El.span,l1⟩],[],xs=>az xs fun v1 xs=>az xs fun v2 xs=>az xs fun v8 xs=>cS xs (some (decide (l0.length≤1048576)&&(v8==0&&l1.length==0),[], .exit 0,(ll l0 (bP l0 v1 v2))))
 |_,_,_=>none
noncomputable def k14:Cfg (X:=els):={k13 with lp:=(18,58,{keep:=ja,m:=1,mv:=nF.mv,ctx:=0,con:=some ((qI).con qR)})::k13.lp}
noncomputable def dP:=(Sig.cons false (Dat.sl dz (.span:El)) (Sig.cons false (Dat.dd (Cel.int .i64)) (Sig.cons false (Dat.dd (Cel.int .i64)) Sig.nil)))
noncomputable def dL:=(Out.one (Own.sl (.span:El)))
noncomputable def k15:Cfg (X:=els):={k14 with H:=(18,(dP).eo dL (fun x=>(bP x.1 x.2.1 x.2.2.1)) (fun x=>cj x.1 x.2.1 x.2.2.1))::k14.H}
def nm:Pat (X:=els):={tm:=[(.is (.slW 0 4)),(.is (.lit (AV.fn 20 [] []))), .any, .any, .any, .any, .any,(.is (.int .i64)),(.is (.int .i64)), .any, .any, .any, .any, .any, .any, .any, .any, .any, .any],hp:=[(.vec (.span:El) false),(.raw [(.slW 0 4)])]}
def gJ:List Nat:=[0,1,7,8]
def nJ:List Nat:=[4]
noncomputable def kO:bj (X:=els):={keep:=gJ,m:=2,mv:=[]}
def ky (l0:List (Span)) (v7 v8:Int):St (X:=els):={tm:=[.is (.sl 0 0 4 (List.length l0) none), .is (AV.fn 20 [] []), .any, .any, .any, .any, .any, .is (.int .i64 v7), .is (.int .i64 v8), .any, .any, .any, .any, .any, .any, .any, .any, .any, .any],hp:=[Blk.vec El.span l0 false, .raw [.sl 0 0 4 (List.length l0) none]]}
def jq (l0:List (Span)) (v8:Int):St (X:=els):=({tm:=[.any, .any, .any, .any, .is (.int .i64 v8), .any, .any, .any, .any, .any, .any, .any, .any, .any, .any, .any, .any, .any, .any],hp:=[Blk.vec El.span l0 false, .raw [.sl 0 0 4 (List.length l0) none], .raw [.int .i64 (Span.from_ (List.getD l0 (0+Int.toNat v8) {from_:=0,to_:=0,mode:=0,prio:=0})), .int .i64 (Span.to_ (List.getD l0 (0+Int.toNat v8) {from_:=0,to_:=0,mode:=0,prio:=0})), .int .i64 (Span.mode (List.getD l0 (0+Int.toNat v8) {from_:=0,to_:=0,mode:=0,prio:=0})), .int .i64 (Span.prio (List.getD l0 (0+Int.toNat v8) {from_:=0,to_:=0,mode:=0,prio:=0}))]]}:St (X:=els))
def jm (l0:List (Span)):St (X:=els):=({tm:=[.any, .any, .any, .any, .any, .any, .any, .any, .any, .any, .any, .any, .any, .any, .any, .any, .any, .any, .any],hp:=[Blk.vec El.span l0 false, .raw [.sl 0 0 4 (List.length l0) none]]}:St (X:=els))
noncomputable def qH:Code:=((aG [false,true,false,true] (Try.f27.body.getD .skip)).getD .skip|>fun c=>match c with| .loop c=>c|c=>c)
noncomputable def mW (F d n:Nat) (s:St (X:=els)):Option (Ex×St (X:=els)):=iter none (fun s' K'=>exec k15 none (bA k15 none F d) F 27 52 qH s' (aV none kO K')) n s (fun e s=>some (e,bY nJ s))
noncomputable def nA:List LV→List (Blk (X:=els))→List SV→cg
 | [⟨El.span,l0⟩],[],xs=>az xs fun v7 xs=>az xs fun v8 xs=>cS xs (some (decide (l0.length≤1048576)&&(v7==(l0.length:Int)&&v8==0),[(l0.all fun s=> !dF s, .exit 0,(jm l0))], .ret,(jq l0 (ud l0))))
 |_,_,_=>none
noncomputable def k16:Cfg (X:=els):={k15 with lp:=(27,26,{keep:=gJ,m:=2,mv:=kO.mv,ctx:=1002,con:=some ((nm).con nA)})::k15.lp}
def qt:Pat (X:=els):={tm:=[.any, .any, .any,(.is (.lit (AV.ptr 3 0))), .any, .any,(.is (.slW 0 4)),(.is (.int .i64)),(.is (.int .i64)), .any, .any, .any, .any, .any, .any, .any, .any, .any, .any, .any, .any, .any, .any, .any, .any],hp:=[(.vec (.span:El) false),(.raw [(.slW 0 4)]),(.raw [(.lit (AV.val (Value.slice none 0 0)))]),(.raw [(.slW 4 1)]),(.vec (.int:El) true)]}
def jc:List Nat:=[3,6,7,8]
def qE:List Nat:=[2,3]
noncomputable def nk:bj (X:=els):={keep:=jc,m:=4,mv:=[(.cell 3 0,(.int:El))]}
def nK (l0:List (Span)) (l4:List (Int)) (v7 v8:Int):St (X:=els):={tm:=[.any, .any, .any, .is (.ptr 3 0), .any, .any, .is (.sl 0 0 4 (List.length l0) none), .is (.int .i64 v7), .is (.int .i64 v8), .any, .any, .any, .any, .any, .any, .any, .any, .any, .any, .any, .any, .any, .any, .any, .any],hp:=[Blk.vec El.span l0 false, .raw [.sl 0 0 4 (List.length l0) none], .raw [.val (.slice none 0 0)], .raw [.sl 4 0 1 (List.length l4) none],Blk.vec El.int l4 true]}
def kM (l0:List (Span)) (l4:List (Int)):St (X:=els):=({tm:=[.any, .any, .any, .is (.ptr 3 0), .any, .any, .any, .any, .any, .any, .any, .any, .any, .any, .any, .any, .any, .any, .any, .any, .any, .any, .any, .any, .any],hp:=[Blk.vec El.span l0 false, .raw [.sl 0 0 4 (List.length l0) none], .raw [.val (.slice none 0 0)], .raw [.sl 4 0 1 (List.length l4) none],Blk.vec El.int l4 true]}:St (X:=els))
noncomputable def tP:Code:=((aG [false,true,false,true,true] (Try.f22.body.getD .skip)).getD .skip|>fun c=>match c with| .loop c=>c|c=>c)
noncomputable def qb (F d n:Nat) (s:St (X:=els)):Option (Ex×St (X:=els)):=iter none (fun s' K'=>exec k16 none (bA k16 none F d) F 22 116 tP s' (aV none nk K')) n s (fun e s=>some (e,bY qE s))
noncomputable def qV:List LV→List (Blk (X:=els))→List SV→cg
 | [⟨El.span,l0⟩,⟨El.int,l4⟩],[],xs=>az xs fun v7 xs=>az xs fun v8 xs=>cS xs (some (decide (l0.length≤1000)&&(v7==(l0.length:Int)&&(v8==0&&l4.length==0)),[], .exit 0,(kM l0 (ax l0))))
 |_,_,_=>none
noncomputable def k17:Cfg (X:=els):={k16 with lp:=(22,58,{keep:=jc,m:=4,mv:=nk.mv,ctx:=0,con:=some ((qt).con qV)})::k16.lp}
def uW:Pat (X:=els):={tm:=[(.is (.lit (AV.yld 6))),(.is (.lit (AV.ptr 3 0))), .any,(.is (.int .i64)), .any, .any, .any, .any, .any, .any, .any, .any, .any, .any, .any, .any, .any, .any, .any, .any, .any, .any],hp:=[(.vec (.span:El) false),(.raw [(.slW 0 4)]),(.raw [(.slW 7 4)]),(.raw [(.slW 4 1)]),(.vec (.int:El) true), .dfr,(.rcd 0 [.any,(.is (.lit (AV.ptr 1 0))), .any, .any, .any,(.is (.lit (AV.ptr 2 0))), .any, .any, .any, .any, .any, .any, .any, .any, .any, .any, .any, .any, .any,(.is (.lit (AV.fn 32 [] [AV.ptr 3 0]))), .any, .any, .any, .any, .any, .any, .any, .any, .any, .any, .any, .any, .any, .any, .any, .any, .any, .any, .any, .any, .any, .any, .any, .any, .any, .any, .any, .any, .any, .any, .any, .any, .any, .any, .any, .any, .any, .any, .any, .any, .any, .any, .any, .any, .any, .any, .any, .any, .any, .any, .any]),(.vec (.span:El) true)]}
def lJ:List Nat:=[0,1,3]
def tQ:List Nat:=[]
noncomputable def qn:bj (X:=els):={keep:=lJ,m:=7,mv:=[(.cell 2 0,(.span:El))]}
def ow (l0:List (Span)) (l4:List (Int)) (l7:List (Span)) (v3:Int):St (X:=els):={tm:=[.is (AV.yld 6), .is (.ptr 3 0), .any, .is (.int .i64 v3), .any, .any, .any, .any, .any, .any, .any, .any, .any, .any, .any, .any, .any, .any, .any, .any, .any, .any],hp:=[Blk.vec El.span l0 false, .raw [.sl 0 0 4 (List.length l0) none], .raw [.sl 7 0 4 (List.length l7) none], .raw [.sl 4 0 1 (List.length l4) none],Blk.vec El.int l4 true,Blk.dfr,Blk.rcd RS.ready 0 [.any, .is (.ptr 1 0), .any, .any, .any, .is (.ptr 2 0), .any, .any, .any, .any, .any, .any, .any, .any, .any, .any, .any, .any, .any, .is (AV.fn 32 [] [.ptr 3 0]), .any, .any, .any, .any, .any, .any, .any, .any, .any, .any, .any, .any, .any, .any, .any, .any, .any, .any, .any, .any, .any, .any, .any, .any, .any, .any, .any, .any, .any, .any, .any, .any, .any, .any, .any, .any, .any, .any, .any, .any, .any, .any, .any, .any, .any, .any, .any, .any, .any, .any, .any],Blk.vec El.span l7 true]}
def nr (l0:List (Span)) (l4:List (Int)) (l7:List (Span)):St (X:=els):=({tm:=[.any, .any, .any, .any, .any, .any, .any, .any, .any, .any, .any, .any, .any, .any, .any, .any, .any, .any, .any, .any, .any, .any],hp:=[Blk.vec El.span l0 false, .raw [.sl 0 0 4 (List.length l0) none], .raw [.sl 7 0 4 (List.length l7) none], .raw [.sl 4 0 1 (List.length l4) none],Blk.vec El.int l4 true,Blk.dfr,Blk.rcd RS.ready 0 [.any, .is (.ptr 1 0), .any, .any, .any, .is (.ptr 2 0), .any, .any, .any, .any, .any, .any, .any, .any, .any, .any, .any, .any, .any, .is (AV.fn 32 [] [.ptr 3 0]), .any, .any, .any, .any, .any, .any, .any, .any, .any, .any, .any, .any, .any, .any, .any, .any, .any, .any, .any, .any, .any, .any, .any, .any, .any, .any, .any, .any, .any, .any, .any, .any, .any, .any, .any, .any, .any, .any, .any, .any, .any, .any, .any, .any, .any, .any, .any, .any, .any, .any, .any],Blk.vec El.span l7 true]}:St (X:=els))
noncomputable def yb:Code:=((aG [false,true] (Try.f32.body.getD .skip)).getD .skip|>fun c=>match c with| .loop c=>c|c=>c)
noncomputable def pR (F d n:Nat) (s:St (X:=els)):Option (Ex×St (X:=els)):=iter none (fun s' K'=>exec k17 none (bA k17 none F d) F 32 12 yb s' (aV none qn K')) n s (fun e s=>some (e,bY tQ s))
noncomputable def vF:List LV→List (Blk (X:=els))→List SV→cg
 | [⟨El.span,l0⟩,⟨El.int,l4⟩,⟨El.span,l7⟩],[],xs=>az xs fun v3 xs=>cS xs (some (decide (l0.length≤1048576)&&(decide (l4.length≤1000)&&(v3==1&&l7.length==0)),[], .exit 0,(nr l0 l4 (c8 l0 l4 []))))
 |_,_,_=>none
noncomputable def k18:Cfg (X:=els):={k17 with lp:=(32,6,{keep:=lJ,m:=7,mv:=qn.mv,ctx:=1,con:=some ((uW).con vF)})::k17.lp}
noncomputable def fg:=(Sig.cons false (Dat.sl dz (.span:El)) Sig.nil)
noncomputable def fh:=(Out.tup (rM.cons (Out.one (Own.sl (.span:El))) (rM.last (Out.one (Own.dd (Cel.int .i64))))))
noncomputable def k19:Cfg (X:=els):={k18 with H:=(10,(fg).eo fh (fun x=>(aM x.1)) (fun x=>aE x.1))::k18.H}
def uB:Pat (X:=els):={tm:=[(.is (.slW 0 4)), .any, .any,(.is (.int .i64)), .any, .any, .any, .any, .any, .any, .any, .any, .any, .any, .any, .any, .any, .any, .any, .any, .any, .any, .any, .any],hp:=[(.vec (.span:El) false)]}
def lF:List Nat:=[0,3]
def tN:List Nat:=[0,2]
noncomputable def qm:bj (X:=els):={keep:=lF,m:=1,mv:=[]}
def ry (l0:List (Span)) (v3:Int):St (X:=els):={tm:=[.is (.sl 0 0 4 (List.length l0) none), .any, .any, .is (.int .i64 v3), .any, .any, .any, .any, .any, .any, .any, .any, .any, .any, .any, .any, .any, .any, .any, .any, .any, .any, .any, .any],hp:=[Blk.vec El.span l0 false]}
def mZ (l0:List (Span)):St (X:=els):=({tm:=[.is (.sl 0 0 4 (List.length l0) none), .any, .is (.bool false), .any, .any, .any, .any, .any, .any, .any, .any, .any, .any, .any, .any, .any, .any, .any, .any, .any, .any, .any, .any, .any],hp:=[Blk.vec El.span l0 false]}:St (X:=els))
def nE (l0:List (Span)):St (X:=els):=({tm:=[.is (.sl 0 0 4 (List.length l0) none), .any, .any, .any, .any, .any, .any, .any, .any, .any, .any, .any, .any, .any, .any, .any, .any, .any, .any, .any, .any, .any, .any, .any],hp:=[Blk.vec El.span l0 false]}:St (X:=els))
noncomputable def wZ:Code:=((aG [false,true,false,true] (Try.f12.body.getD .skip)).getD .skip|>fun c=>match c with| .loop c=>c|c=>c)
noncomputable def vc (F d n:Nat) (s:St (X:=els)):Option (Ex×St (X:=els)):=iter none (fun s' K'=>exec k19 none (bA k19 none F d) F 12 52 wZ s' (aV none qm K')) n s (fun e s=>some (e,bY tN s))
noncomputable def vB:List LV→List (Blk (X:=els))→List SV→cg
 | [⟨El.span,l0⟩],[],xs=>az xs fun v3 xs=>cS xs (some (decide (l0.length≤1048576)&&v3==0,[(l0.all fun s=> !dF s, .exit 0,(nE l0))], .ret,(mZ l0)))
 |_,_,_=>none
noncomputable def k20:Cfg (X:=els):={k19 with lp:=(12,26,{keep:=lF,m:=1,mv:=qm.mv,ctx:=0,con:=some ((uB).con vB)})::k19.lp}
noncomputable def dQ:=(Sig.cons false (Dat.sl dz (.span:El)) Sig.nil)
noncomputable def gj:=Res.bool
noncomputable def k21:Cfg (X:=els):={k20 with E:=(12,(dQ).con gj (fun x=>(kK x.1)) (fun x=>aE x.1))::k20.E}
noncomputable def dh:=(Sig.cons true (Dat.dd jH) (Sig.cons true (Dat.dd jH) Sig.nil))
noncomputable def fy:=Res.bool
noncomputable def k22:Cfg (X:=els):={k21 with E:=(34,(dh).con fy (fun x=>(oZ x.1 x.2.1)) (fun _=>true))::k21.E}
def yT:Pat (X:=els):={tm:=[(.is (.slW 0 4)),(.is (.int .i64)), .any, .any, .any,(.is (.int .i64)),(.is (.int .i64)), .any, .any, .any, .any, .any, .any, .any, .any, .any, .any, .any, .any, .any, .any, .any, .any, .any, .any, .any, .any, .any, .any, .any, .any, .any, .any, .any, .any, .any, .any, .any, .any, .any, .any, .any, .any, .any, .any],hp:=[(.vec (.span:El) false)]}
def np:List Nat:=[0,1,5,6]
def x7:List Nat:=[4,5]
noncomputable def uV:bj (X:=els):={keep:=np,m:=1,mv:=[]}
def rX (l0:List (Span)) (v1 v5 v6:Int):St (X:=els):={tm:=[.is (.sl 0 0 4 (List.length l0) none), .is (.int .i64 v1), .any, .any, .any, .is (.int .i64 v5), .is (.int .i64 v6), .any, .any, .any, .any, .any, .any, .any, .any, .any, .any, .any, .any, .any, .any, .any, .any, .any, .any, .any, .any, .any, .any, .any, .any, .any, .any, .any, .any, .any, .any, .any, .any, .any, .any, .any, .any, .any, .any],hp:=[Blk.vec El.span l0 false]}
def qj (l0:List (Span)) (v5:Int):St (X:=els):=({tm:=[.any, .any, .any, .any, .any, .is (.int .i64 v5), .any, .any, .any, .any, .any, .any, .any, .any, .any, .any, .any, .any, .any, .any, .any, .any, .any, .any, .any, .any, .any, .any, .any, .any, .any, .any, .any, .any, .any, .any, .any, .any, .any, .any, .any, .any, .any, .any, .any],hp:=[Blk.vec El.span l0 false]}:St (X:=els))
noncomputable def AA:Code:=((aG [false,true,false,true,true] (Try.f26.body.getD .skip)).getD .skip|>fun c=>match c with| .loop c=>c|c=>c)
noncomputable def sQ (F d n:Nat) (s:St (X:=els)):Option (Ex×St (X:=els)):=iter none (fun s' K'=>exec k22 none (bA k22 none F d) F 26 116 AA s' (aV none uV K')) n s (fun e s=>some (e,bY x7 s))
noncomputable def yJ:List LV→List (Blk (X:=els))→List SV→cg
 | [⟨El.span,l0⟩],[],xs=>az xs fun v1 xs=>az xs fun v5 xs=>az xs fun v6 xs=>cS xs (some (decide (l0.length≤1048576)&&(v5== -1&&v6==0),[], .exit 0,(qj l0 (ag l0 v1))))
 |_,_,_=>none
noncomputable def k23:Cfg (X:=els):={k22 with lp:=(26,58,{keep:=np,m:=1,mv:=uV.mv,ctx:=0,con:=some ((yT).con yJ)})::k22.lp}
noncomputable def bG:=(Sig.cons false (Dat.sl dz (.span:El)) (Sig.cons false (Dat.dd (Cel.int .i64)) Sig.nil))
noncomputable def c9:=(Res.int .i64)
noncomputable def k24:Cfg (X:=els):={k23 with E:=(26,(bG).con c9 (fun x=>(ag x.1 x.2.1)) (fun x=>aL x.1 x.2.1))::k23.E}
def vp:Pat (X:=els):={tm:=[(.is (.slW 0 4)),(.is (.int .i64)), .any, .any, .any, .any,(.is (.int .i64)),(.is .bool),(.is (.int .i64)), .any, .any, .any, .any, .any, .any, .any, .any, .any, .any, .any, .any, .any, .any, .any, .any, .any, .any, .any, .any, .any, .any, .any, .any, .any, .any, .any, .any, .any, .any, .any, .any, .any, .any, .any, .any, .any, .any, .any, .any, .any, .any, .any, .any, .any, .any, .any, .any, .any, .any, .any, .any, .any, .any, .any, .any, .any, .any],hp:=[(.vec (.span:El) false)]}
def lC:List Nat:=[0,1,6,7,8]
def th:List Nat:=[4,5,6,7]
noncomputable def qW:bj (X:=els):={keep:=lC,m:=1,mv:=[]}
def mo (l0:List (Span)) (v1 v6:Int) (v7:Bool) (v8:Int):St (X:=els):={tm:=[.is (.sl 0 0 4 (List.length l0) none), .is (.int .i64 v1), .any, .any, .any, .any, .is (.int .i64 v6), .is (.bool v7), .is (.int .i64 v8), .any, .any, .any, .any, .any, .any, .any, .any, .any, .any, .any, .any, .any, .any, .any, .any, .any, .any, .any, .any, .any, .any, .any, .any, .any, .any, .any, .any, .any, .any, .any, .any, .any, .any, .any, .any, .any, .any, .any, .any, .any, .any, .any, .any, .any, .any, .any, .any, .any, .any, .any, .any, .any, .any, .any, .any, .any, .any],hp:=[Blk.vec El.span l0 false]}
def nd (l0:List (Span)) (v6:Int) (v7:Bool):St (X:=els):=({tm:=[.any, .any, .any, .any, .any, .any, .is (.int .i64 v6), .is (.bool v7), .any, .any, .any, .any, .any, .any, .any, .any, .any, .any, .any, .any, .any, .any, .any, .any, .any, .any, .any, .any, .any, .any, .any, .any, .any, .any, .any, .any, .any, .any, .any, .any, .any, .any, .any, .any, .any, .any, .any, .any, .any, .any, .any, .any, .any, .any, .any, .any, .any, .any, .any, .any, .any, .any, .any, .any, .any, .any, .any],hp:=[Blk.vec El.span l0 false]}:St (X:=els))
noncomputable def xh:Code:=((aG [false,true,false,true,true,true] (Try.f25.body.getD .skip)).getD .skip|>fun c=>match c with| .loop c=>c|c=>c)
noncomputable def oS (F d n:Nat) (s:St (X:=els)):Option (Ex×St (X:=els)):=iter none (fun s' K'=>exec k24 none (bA k24 none F d) F 25 244 xh s' (aV none qW K')) n s (fun e s=>some (e,bY th s))
noncomputable def vC:List LV→List (Blk (X:=els))→List SV→cg
 | [⟨El.span,l0⟩],[],xs=>az xs fun v1 xs=>az xs fun v6 xs=>vg xs fun v7 xs=>az xs fun v8 xs=>cS xs (some (decide (l0.length≤1048576)&&(v6==0&&(v7==false&&v8==0)),[], .exit 0,(nd l0 (aI l0 v1).1 (aI l0 v1).2)))
 |_,_,_=>none
noncomputable def k25:Cfg (X:=els):={k24 with lp:=(25,122,{keep:=lC,m:=1,mv:=qW.mv,ctx:=0,con:=some ((vp).con vC)})::k24.lp}
noncomputable def dB:=(Sig.cons false (Dat.sl dz (.span:El)) (Sig.cons false (Dat.dd (Cel.int .i64)) Sig.nil))
noncomputable def fE:=(Res.AD (Res.int .i64) Res.bool)
noncomputable def k26:Cfg (X:=els):={k25 with E:=(25,(dB).con fE (fun x=>(aI x.1 x.2.1)) (fun x=>aL x.1 x.2.1))::k25.E}
def uX:Pat (X:=els):={tm:=[(.is (.slW 0 4)), .any, .any,(.is (.int .i64)),(.is (.int .i64)), .any, .any, .any, .any, .any, .any, .any, .any, .any, .any, .any, .any, .any, .any, .any, .any, .any, .any, .any, .any, .any, .any, .any],hp:=[(.vec (.span:El) false)]}
def lr:List Nat:=[0,3,4]
def tn:List Nat:=[2,3]
noncomputable def qF:bj (X:=els):={keep:=lr,m:=1,mv:=[]}
def pT (l0:List (Span)) (v3 v4:Int):St (X:=els):={tm:=[.is (.sl 0 0 4 (List.length l0) none), .any, .any, .is (.int .i64 v3), .is (.int .i64 v4), .any, .any, .any, .any, .any, .any, .any, .any, .any, .any, .any, .any, .any, .any, .any, .any, .any, .any, .any, .any, .any, .any, .any],hp:=[Blk.vec El.span l0 false]}
def nb (l0:List (Span)) (v3:Int):St (X:=els):=({tm:=[.any, .any, .any, .is (.int .i64 v3), .any, .any, .any, .any, .any, .any, .any, .any, .any, .any, .any, .any, .any, .any, .any, .any, .any, .any, .any, .any, .any, .any, .any, .any],hp:=[Blk.vec El.span l0 false]}:St (X:=els))
noncomputable def w8:Code:=((aG [false,true,false,true,true] (Try.f24.body.getD .skip)).getD .skip|>fun c=>match c with| .loop c=>c|c=>c)
noncomputable def sO (F d n:Nat) (s:St (X:=els)):Option (Ex×St (X:=els)):=iter none (fun s' K'=>exec k26 none (bA k26 none F d) F 24 116 w8 s' (aV none qF K')) n s (fun e s=>some (e,bY tn s))
noncomputable def uQ:List LV→List (Blk (X:=els))→List SV→cg
 | [⟨El.span,l0⟩],[],xs=>az xs fun v3 xs=>az xs fun v4 xs=>cS xs (some (decide (l0.length≤1048576)&&v4==0,[], .exit 0,(nb l0 (lGo l0 v3))))
 |_,_,_=>none
noncomputable def k27:Cfg (X:=els):={k26 with lp:=(24,58,{keep:=lr,m:=1,mv:=qF.mv,ctx:=0,con:=some ((uX).con uQ)})::k26.lp}
noncomputable def cX:=(Sig.cons false (Dat.sl dz (.span:El)) Sig.nil)
noncomputable def fi:=(Res.int .i64)
noncomputable def k28:Cfg (X:=els):={k27 with E:=(24,(cX).con fi (fun x=>(bJ x.1)) (fun x=>pM x.1))::k27.E}
def qi:Pat (X:=els):={tm:=[(.is (.slW 0 4)), .any, .any,(.is (.slW 1 4)),(.is (.int .i64)),(.is (.int .i64)),(.is .bool), .any, .any, .any, .any, .any, .any, .any, .any, .any, .any, .any, .any, .any, .any, .any, .any, .any, .any, .any, .any, .any, .any, .any, .any, .any, .any, .any, .any, .any, .any, .any, .any, .any, .any, .any, .any, .any, .any, .any, .any, .any, .any, .any, .any, .any, .any, .any, .any, .any, .any, .any, .any, .any, .any, .any, .any, .any, .any, .any, .any, .any, .any, .any, .any, .any, .any, .any, .any, .any, .any, .any, .any, .any, .any, .any],hp:=[(.vec (.span:El) false),(.vec (.span:El) true)]}
def iZ:List Nat:=[0,3,4,5,6]
def qa:List Nat:=[2,3]
noncomputable def mU:bj (X:=els):={keep:=iZ,m:=1,mv:=[(.slot 3,(.span:El))]}
def j7 (l0 l1:List (Span)) (v4 v5:Int) (v6:Bool):St (X:=els):={tm:=[.is (.sl 0 0 4 (List.length l0) none), .any, .any, .is (.sl 1 0 4 (List.length l1) none), .is (.int .i64 v4), .is (.int .i64 v5), .is (.bool v6), .any, .any, .any, .any, .any, .any, .any, .any, .any, .any, .any, .any, .any, .any, .any, .any, .any, .any, .any, .any, .any, .any, .any, .any, .any, .any, .any, .any, .any, .any, .any, .any, .any, .any, .any, .any, .any, .any, .any, .any, .any, .any, .any, .any, .any, .any, .any, .any, .any, .any, .any, .any, .any, .any, .any, .any, .any, .any, .any, .any, .any, .any, .any, .any, .any, .any, .any, .any, .any, .any, .any, .any, .any, .any, .any],hp:=[Blk.vec El.span l0 false,Blk.vec El.span l1 true]}
def kB (l0 l1:List (Span)):St (X:=els):=({tm:=[.any, .any, .any, .is (.sl 1 0 4 (List.length l1) none), .any, .any, .any, .any, .any, .any, .any, .any, .any, .any, .any, .any, .any, .any, .any, .any, .any, .any, .any, .any, .any, .any, .any, .any, .any, .any, .any, .any, .any, .any, .any, .any, .any, .any, .any, .any, .any, .any, .any, .any, .any, .any, .any, .any, .any, .any, .any, .any, .any, .any, .any, .any, .any, .any, .any, .any, .any, .any, .any, .any, .any, .any, .any, .any, .any, .any, .any, .any, .any, .any, .any, .any, .any, .any, .any, .any, .any, .any],hp:=[Blk.vec El.span l0 false,Blk.vec El.span l1 true]}:St (X:=els))
noncomputable def uu:Code:=((aG [false,false,true,true,true,true,true] (Try.f14.body.getD .skip)).getD .skip|>fun c=>match c with| .loop c=>c|c=>c)
noncomputable def lV (F d n:Nat) (s:St (X:=els)):Option (Ex×St (X:=els)):=iter none (fun s' K'=>exec k28 none (bA k28 none F d) F 14 504 uu s' (aV none mU K')) n s (fun e s=>some (e,bY qa s))
noncomputable def qB:List LV→List (Blk (X:=els))→List SV→cg
 | [⟨El.span,l0⟩,⟨El.span,l1⟩],[],xs=>az xs fun v4 xs=>az xs fun v5 xs=>vg xs fun v6 xs=>cS xs (some (decide (l0.length≤500)&&(l1.length==0&&(v5==(aI l0 v4).1&&v6==(aI l0 v4).2)),[], .exit 0,(kB l0 (kF l0 (ax l0) v4 v5 v6 []))))
 |_,_,_=>none
noncomputable def k29:Cfg (X:=els):={k28 with lp:=(14,252,{keep:=iZ,m:=1,mv:=mU.mv,ctx:=0,con:=some ((qi).con qB)})::k28.lp}
noncomputable def ck:=(Sig.cons false (Dat.sl dz (.span:El)) Sig.nil)
noncomputable def ct:=(Out.one (Own.sl (.span:El)))
noncomputable def k30:Cfg (X:=els):={k29 with H:=(14,(ck).eo ct (fun x=>(Aw x.1)) (fun x=>ub x.1))::k29.H}
noncomputable def fe:=Sig.nil
noncomputable def fa:=Res.bool
noncomputable def k31:Cfg (X:=els):={k30 with E:=(9,(fe).con fa (fun _=>true) (fun _=>true))::k30.E}
def u5:Pat (X:=els):={tm:=[(.is (.slW 0 4)), .any, .any,(.is (.lit (AV.ptr 1 0))), .any,(.is (.int .i64)),(.is (.int .i64)), .any, .any, .any, .any, .any, .any, .any, .any, .any, .any, .any, .any, .any, .any, .any, .any, .any, .any, .any, .any, .any, .any, .any, .any, .any, .any, .any, .any, .any, .any, .any, .any, .any, .any, .any, .any, .any, .any, .any, .any, .any, .any, .any, .any, .any, .any, .any, .any, .any, .any, .any, .any, .any, .any, .any, .any, .any, .any, .any, .any, .any, .any, .any, .any, .any, .any, .any, .any, .any, .any, .any, .any, .any, .any, .any, .any, .any, .any, .any, .any, .any, .any, .any, .any, .any, .any, .any, .any, .any, .any, .any, .any, .any, .any, .any, .any, .any, .any, .any, .any, .any, .any, .any, .any, .any, .any, .any, .any, .any, .any, .any, .any, .any, .any, .any, .any, .any, .any, .any, .any, .any, .any, .any, .any, .any, .any, .any, .any, .any, .any, .any, .any],hp:=[(.vec (.span:El) false),(.raw [(.int .i64),(.int .i64),(.int .i64),(.int .i64)])]}
def lh:List Nat:=[0,3,5,6]
def uf:List Nat:=[0,3,4,5,40,41,44,45,46,47,48,80,81,84,85,88,89,90,93,94,95,98,99,100,101,102,103,104,107,108,109,110,111,112,113,116,117,118,119,120,121,122,125,126,127,128,129,130,131,132,133,134,135,136,137]
noncomputable def qO:bj (X:=els):={keep:=lh,m:=2,mv:=[]}
def sH (l0:List (Span)) (P0 P1 P2 P3 v5 v6:Int):St (X:=els):={tm:=[.is (.sl 0 0 4 (List.length l0) none), .any, .any, .is (.ptr 1 0), .any, .is (.int .i64 v5), .is (.int .i64 v6), .any, .any, .any, .any, .any, .any, .any, .any, .any, .any, .any, .any, .any, .any, .any, .any, .any, .any, .any, .any, .any, .any, .any, .any, .any, .any, .any, .any, .any, .any, .any, .any, .any, .any, .any, .any, .any, .any, .any, .any, .any, .any, .any, .any, .any, .any, .any, .any, .any, .any, .any, .any, .any, .any, .any, .any, .any, .any, .any, .any, .any, .any, .any, .any, .any, .any, .any, .any, .any, .any, .any, .any, .any, .any, .any, .any, .any, .any, .any, .any, .any, .any, .any, .any, .any, .any, .any, .any, .any, .any, .any, .any, .any, .any, .any, .any, .any, .any, .any, .any, .any, .any, .any, .any, .any, .any, .any, .any, .any, .any, .any, .any, .any, .any, .any, .any, .any, .any, .any, .any, .any, .any, .any, .any, .any, .any, .any, .any, .any, .any, .any, .any],hp:=[Blk.vec El.span l0 false, .raw [.int .i64 P0, .int .i64 P1, .int .i64 P2, .int .i64 P3]]}
def mX (l0:List (Span)) (P0 P1 P2 P3 v5:Int):St (X:=els):=({tm:=[.is (.sl 0 0 4 (List.length l0) none), .any, .any, .is (.ptr 1 0), .any, .is (.int .i64 v5), .any, .any, .any, .any, .any, .any, .any, .any, .any, .any, .any, .any, .any, .any, .any, .any, .any, .any, .any, .any, .any, .any, .any, .any, .any, .any, .any, .any, .any, .any, .any, .any, .any, .any, .any, .any, .any, .any, .any, .any, .any, .any, .any, .any, .any, .any, .any, .any, .any, .any, .any, .any, .any, .any, .any, .any, .any, .any, .any, .any, .any, .any, .any, .any, .any, .any, .any, .any, .any, .any, .any, .any, .any, .any, .any, .any, .any, .any, .any, .any, .any, .any, .any, .any, .any, .any, .any, .any, .any, .any, .any, .any, .any, .any, .any, .any, .any, .any, .any, .any, .any, .any, .any, .any, .any, .any, .any, .any, .any, .any, .any, .any, .any, .any, .any, .any, .any, .any, .any, .any, .any, .any, .any, .any, .any, .any, .any, .any, .any, .any, .any, .any, .any],hp:=[Blk.vec El.span l0 false, .raw [.int .i64 P0, .int .i64 P1, .int .i64 P2, .int .i64 P3]]}:St (X:=els))
noncomputable def yo:Code:=((aG [false,true,false,true,true,true] (Try.f8.body.getD .skip)).getD .skip|>fun c=>match c with| .loop c=>c|c=>c)
noncomputable def uS (F d n:Nat) (s:St (X:=els)):Option (Ex×St (X:=els)):=iter none (fun s' K'=>exec k31 none (bA k31 none F d) F 8 244 yo s' (aV none qO K')) n s (fun e s=>some (e,bY uf s))
noncomputable def uE:List LV→List (Blk (X:=els))→List SV→cg
 | [⟨El.span,l0⟩],[],xs=>az xs fun P0 xs=>az xs fun P1 xs=>az xs fun P2 xs=>az xs fun P3 xs=>az xs fun v5 xs=>az xs fun v6 xs=>cS xs (some (decide (l0.length≤1048576)&&(v5==0&&v6==0),[], .exit 0,(mX l0 P0 P1 P2 P3 (ig l0 v5))))
 |_,_,_=>none
noncomputable def k32:Cfg (X:=els):={k31 with lp:=(8,122,{keep:=lh,m:=2,mv:=qO.mv,ctx:=0,con:=some ((u5).con uE)})::k31.lp}
def vu:Pat (X:=els):={tm:=[(.is (.slW 15 4)), .any, .any,(.is (.int .i64)), .any, .any, .any, .any, .any, .any, .any, .any, .any, .any, .any],hp:=[(.vec (.span:El) false), .dead,(.vec (.span:El) true),(.vec (.span:El) true), .dead,(.raw [(.int .i64),(.int .i64),(.int .i64),(.int .i64)]),(.vec (.span:El) true),(.vec (.span:El) true), .dead,(.vec (.span:El) true),(.vec (.span:El) true),(.vec (.span:El) true),(.vec (.span:El) true),(.vec (.span:El) true), .dead,(.vec (.span:El) true)]}
def kr:List Nat:=[0,3]
def tc:List Nat:=[0,2]
noncomputable def qx:bj (X:=els):={keep:=kr,m:=15,mv:=[(.slot 0,(.span:El))]}
def rQ (l0 l2 l3 l6 l7 l9 l10 l11 l12 l13 l15:List (Span)) (U0 U1 U2 U3 v3:Int):St (X:=els):={tm:=[.is (.sl 15 0 4 (List.length l15) none), .any, .any, .is (.int .i64 v3), .any, .any, .any, .any, .any, .any, .any, .any, .any, .any, .any],hp:=[Blk.vec El.span l0 false, .dead,Blk.vec El.span l2 true,Blk.vec El.span l3 true, .dead, .raw [.int .i64 U0, .int .i64 U1, .int .i64 U2, .int .i64 U3],Blk.vec El.span l6 true,Blk.vec El.span l7 true, .dead,Blk.vec El.span l9 true,Blk.vec El.span l10 true,Blk.vec El.span l11 true,Blk.vec El.span l12 true,Blk.vec El.span l13 true, .dead,Blk.vec El.span l15 true]}
def mT (l0 l2 l3 l6 l7 l9 l10 l11 l12 l13 l15:List (Span)) (U0 U1 U2 U3:Int):St (X:=els):=({tm:=[.is (.sl 15 0 4 (List.length l15) none), .any, .any, .any, .any, .any, .any, .any, .any, .any, .any, .any, .any, .any, .any],hp:=[Blk.vec El.span l0 false, .dead,Blk.vec El.span l2 true,Blk.vec El.span l3 true, .dead, .raw [.int .i64 U0, .int .i64 U1, .int .i64 U2, .int .i64 U3],Blk.vec El.span l6 true,Blk.vec El.span l7 true, .dead,Blk.vec El.span l9 true,Blk.vec El.span l10 true,Blk.vec El.span l11 true,Blk.vec El.span l12 true,Blk.vec El.span l13 true, .dead,Blk.vec El.span l15 true]}:St (X:=els))
noncomputable def xi:Code:=((aG [false,true,false,true] (Try.f19.body.getD .skip)).getD .skip|>fun c=>match c with| .loop c=>c|c=>c)
noncomputable def uC (F d n:Nat) (s:St (X:=els)):Option (Ex×St (X:=els)):=iter none (fun s' K'=>exec k32 none (bA k32 none F d) F 19 52 xi s' (aV none qx K')) n s (fun e s=>some (e,bY tc s))
noncomputable def vA:List LV→List (Blk (X:=els))→List SV→cg
 | [⟨El.span,l0⟩,⟨El.span,l2⟩,⟨El.span,l3⟩,⟨El.span,l6⟩,⟨El.span,l7⟩,⟨El.span,l9⟩,⟨El.span,l10⟩,⟨El.span,l11⟩,⟨El.span,l12⟩,⟨El.span,l13⟩,⟨El.span,l15⟩],[],xs=>az xs fun U0 xs=>az xs fun U1 xs=>az xs fun U2 xs=>az xs fun U3 xs=>az xs fun v3 xs=>cS xs (some (decide (l15.length≤1048576)&&v3==0,[], .exit 0,(mT l0 l2 l3 l6 l7 l9 l10 l11 l12 l13 (aO l15) U0 U1 U2 U3)))
 |_,_,_=>none
noncomputable def k33:Cfg (X:=els):={k32 with lp:=(19,26,{keep:=kr,m:=15,mv:=qx.mv,ctx:=113015,con:=some ((vu).con vA)})::k32.lp}
def uU:Pat (X:=els):={tm:=[(.is (.slW 18 4)), .any, .any,(.is (.int .i64)), .any, .any, .any, .any, .any, .any, .any, .any, .any, .any, .any],hp:=[(.vec (.span:El) false), .dead,(.vec (.span:El) true),(.vec (.span:El) true), .dead,(.raw [(.int .i64),(.int .i64),(.int .i64),(.int .i64)]),(.vec (.span:El) true),(.vec (.span:El) true), .dead,(.vec (.span:El) true),(.vec (.span:El) true),(.vec (.span:El) true),(.vec (.span:El) true),(.vec (.span:El) true), .dead,(.vec (.span:El) true),(.vec (.span:El) true), .dead,(.vec (.span:El) true)]}
def lH:List Nat:=[0,3]
def tr:List Nat:=[0,2]
noncomputable def qL:bj (X:=els):={keep:=lH,m:=18,mv:=[(.slot 0,(.span:El))]}
def rZ (l0 l2 l3 l6 l7 l9 l10 l11 l12 l13 l15 l16 l18:List (Span)) (U0 U1 U2 U3 v3:Int):St (X:=els):={tm:=[.is (.sl 18 0 4 (List.length l18) none), .any, .any, .is (.int .i64 v3), .any, .any, .any, .any, .any, .any, .any, .any, .any, .any, .any],hp:=[Blk.vec El.span l0 false, .dead,Blk.vec El.span l2 true,Blk.vec El.span l3 true, .dead, .raw [.int .i64 U0, .int .i64 U1, .int .i64 U2, .int .i64 U3],Blk.vec El.span l6 true,Blk.vec El.span l7 true, .dead,Blk.vec El.span l9 true,Blk.vec El.span l10 true,Blk.vec El.span l11 true,Blk.vec El.span l12 true,Blk.vec El.span l13 true, .dead,Blk.vec El.span l15 true,Blk.vec El.span l16 true, .dead,Blk.vec El.span l18 true]}
def nG (l0 l2 l3 l6 l7 l9 l10 l11 l12 l13 l15 l16 l18:List (Span)) (U0 U1 U2 U3:Int):St (X:=els):=({tm:=[.is (.sl 18 0 4 (List.length l18) none), .any, .any, .any, .any, .any, .any, .any, .any, .any, .any, .any, .any, .any, .any],hp:=[Blk.vec El.span l0 false, .dead,Blk.vec El.span l2 true,Blk.vec El.span l3 true, .dead, .raw [.int .i64 U0, .int .i64 U1, .int .i64 U2, .int .i64 U3],Blk.vec El.span l6 true,Blk.vec El.span l7 true, .dead,Blk.vec El.span l9 true,Blk.vec El.span l10 true,Blk.vec El.span l11 true,Blk.vec El.span l12 true,Blk.vec El.span l13 true, .dead,Blk.vec El.span l15 true,Blk.vec El.span l16 true, .dead,Blk.vec El.span l18 true]}:St (X:=els))
noncomputable def yk:Code:=((aG [false,true,false,true] (Try.f19.body.getD .skip)).getD .skip|>fun c=>match c with| .loop c=>c|c=>c)
noncomputable def vv (F d n:Nat) (s:St (X:=els)):Option (Ex×St (X:=els)):=iter none (fun s' K'=>exec k33 none (bA k33 none F d) F 19 52 yk s' (aV none qL K')) n s (fun e s=>some (e,bY tr s))
noncomputable def vG:List LV→List (Blk (X:=els))→List SV→cg
 | [⟨El.span,l0⟩,⟨El.span,l2⟩,⟨El.span,l3⟩,⟨El.span,l6⟩,⟨El.span,l7⟩,⟨El.span,l9⟩,⟨El.span,l10⟩,⟨El.span,l11⟩,⟨El.span,l12⟩,⟨El.span,l13⟩,⟨El.span,l15⟩,⟨El.span,l16⟩,⟨El.span,l18⟩],[],xs=>az xs fun U0 xs=>az xs fun U1 xs=>az xs fun U2 xs=>az xs fun U3 xs=>az xs fun v3 xs=>cS xs (some (decide (l18.length≤1048576)&&v3==0,[], .exit 0,(nG l0 l2 l3 l6 l7 l9 l10 l11 l12 l13 l15 l16 (aO l18) U0 U1 U2 U3)))
 |_,_,_=>none
noncomputable def k34:Cfg (X:=els):={k33 with lp:=(19,26,{keep:=lH,m:=18,mv:=qL.mv,ctx:=127018,con:=some ((uU).con vG)})::k33.lp}
def vI:Pat (X:=els):={tm:=[(.is (.slW 15 4)), .any, .any,(.is (.int .i64)), .any, .any, .any, .any, .any, .any, .any, .any, .any, .any, .any],hp:=[(.vec (.span:El) false), .dead,(.vec (.span:El) true),(.vec (.span:El) true),(.raw [(.int .i64),(.int .i64),(.int .i64),(.int .i64)]), .dead,(.vec (.span:El) true),(.vec (.span:El) true), .dead,(.vec (.span:El) true),(.vec (.span:El) true),(.vec (.span:El) true),(.vec (.span:El) true),(.vec (.span:El) true), .dead,(.vec (.span:El) true)]}
def lx:List Nat:=[0,3]
def sS:List Nat:=[0,2]
noncomputable def qg:bj (X:=els):={keep:=lx,m:=15,mv:=[(.slot 0,(.span:El))]}
def rT (l0 l2 l3 l6 l7 l9 l10 l11 l12 l13 l15:List (Span)) (S0 S1 S2 S3 v3:Int):St (X:=els):={tm:=[.is (.sl 15 0 4 (List.length l15) none), .any, .any, .is (.int .i64 v3), .any, .any, .any, .any, .any, .any, .any, .any, .any, .any, .any],hp:=[Blk.vec El.span l0 false, .dead,Blk.vec El.span l2 true,Blk.vec El.span l3 true, .raw [.int .i64 S0, .int .i64 S1, .int .i64 S2, .int .i64 S3], .dead,Blk.vec El.span l6 true,Blk.vec El.span l7 true, .dead,Blk.vec El.span l9 true,Blk.vec El.span l10 true,Blk.vec El.span l11 true,Blk.vec El.span l12 true,Blk.vec El.span l13 true, .dead,Blk.vec El.span l15 true]}
def mY (l0 l2 l3 l6 l7 l9 l10 l11 l12 l13 l15:List (Span)) (S0 S1 S2 S3:Int):St (X:=els):=({tm:=[.is (.sl 15 0 4 (List.length l15) none), .any, .any, .any, .any, .any, .any, .any, .any, .any, .any, .any, .any, .any, .any],hp:=[Blk.vec El.span l0 false, .dead,Blk.vec El.span l2 true,Blk.vec El.span l3 true, .raw [.int .i64 S0, .int .i64 S1, .int .i64 S2, .int .i64 S3], .dead,Blk.vec El.span l6 true,Blk.vec El.span l7 true, .dead,Blk.vec El.span l9 true,Blk.vec El.span l10 true,Blk.vec El.span l11 true,Blk.vec El.span l12 true,Blk.vec El.span l13 true, .dead,Blk.vec El.span l15 true]}:St (X:=els))
noncomputable def xK:Code:=((aG [false,true,false,true] (Try.f19.body.getD .skip)).getD .skip|>fun c=>match c with| .loop c=>c|c=>c)
noncomputable def uM (F d n:Nat) (s:St (X:=els)):Option (Ex×St (X:=els)):=iter none (fun s' K'=>exec k34 none (bA k34 none F d) F 19 52 xK s' (aV none qg K')) n s (fun e s=>some (e,bY sS s))
noncomputable def uF:List LV→List (Blk (X:=els))→List SV→cg
 | [⟨El.span,l0⟩,⟨El.span,l2⟩,⟨El.span,l3⟩,⟨El.span,l6⟩,⟨El.span,l7⟩,⟨El.span,l9⟩,⟨El.span,l10⟩,⟨El.span,l11⟩,⟨El.span,l12⟩,⟨El.span,l13⟩,⟨El.span,l15⟩],[],xs=>az xs fun S0 xs=>az xs fun S1 xs=>az xs fun S2 xs=>az xs fun S3 xs=>az xs fun v3 xs=>cS xs (some (decide (l15.length≤1048576)&&v3==0,[], .exit 0,(mY l0 l2 l3 l6 l7 l9 l10 l11 l12 l13 (aO l15) S0 S1 S2 S3)))
 |_,_,_=>none
noncomputable def k35:Cfg (X:=els):={k34 with lp:=(19,26,{keep:=lx,m:=15,mv:=qg.mv,ctx:=114015,con:=some ((vI).con uF)})::k34.lp}
def uH:Pat (X:=els):={tm:=[(.is (.slW 18 4)), .any, .any,(.is (.int .i64)), .any, .any, .any, .any, .any, .any, .any, .any, .any, .any, .any],hp:=[(.vec (.span:El) false), .dead,(.vec (.span:El) true),(.vec (.span:El) true),(.raw [(.int .i64),(.int .i64),(.int .i64),(.int .i64)]), .dead,(.vec (.span:El) true),(.vec (.span:El) true), .dead,(.vec (.span:El) true),(.vec (.span:El) true),(.vec (.span:El) true),(.vec (.span:El) true),(.vec (.span:El) true), .dead,(.vec (.span:El) true),(.vec (.span:El) true), .dead,(.vec (.span:El) true)]}
def kD:List Nat:=[0,3]
def tC:List Nat:=[0,2]
noncomputable def q8:bj (X:=els):={keep:=kD,m:=18,mv:=[(.slot 0,(.span:El))]}
def rI (l0 l2 l3 l6 l7 l9 l10 l11 l12 l13 l15 l16 l18:List (Span)) (S0 S1 S2 S3 v3:Int):St (X:=els):={tm:=[.is (.sl 18 0 4 (List.length l18) none), .any, .any, .is (.int .i64 v3), .any, .any, .any, .any, .any, .any, .any, .any, .any, .any, .any],hp:=[Blk.vec El.span l0 false, .dead,Blk.vec El.span l2 true,Blk.vec El.span l3 true, .raw [.int .i64 S0, .int .i64 S1, .int .i64 S2, .int .i64 S3], .dead,Blk.vec El.span l6 true,Blk.vec El.span l7 true, .dead,Blk.vec El.span l9 true,Blk.vec El.span l10 true,Blk.vec El.span l11 true,Blk.vec El.span l12 true,Blk.vec El.span l13 true, .dead,Blk.vec El.span l15 true,Blk.vec El.span l16 true, .dead,Blk.vec El.span l18 true]}
def nq (l0 l2 l3 l6 l7 l9 l10 l11 l12 l13 l15 l16 l18:List (Span)) (S0 S1 S2 S3:Int):St (X:=els):=({tm:=[.is (.sl 18 0 4 (List.length l18) none), .any, .any, .any, .any, .any, .any, .any, .any, .any, .any, .any, .any, .any, .any],hp:=[Blk.vec El.span l0 false, .dead,Blk.vec El.span l2 true,Blk.vec El.span l3 true, .raw [.int .i64 S0, .int .i64 S1, .int .i64 S2, .int .i64 S3], .dead,Blk.vec El.span l6 true,Blk.vec El.span l7 true, .dead,Blk.vec El.span l9 true,Blk.vec El.span l10 true,Blk.vec El.span l11 true,Blk.vec El.span l12 true,Blk.vec El.span l13 true, .dead,Blk.vec El.span l15 true,Blk.vec El.span l16 true, .dead,Blk.vec El.span l18 true]}:St (X:=els))
noncomputable def xk:Code:=((aG [false,true,false,true] (Try.f19.body.getD .skip)).getD .skip|>fun c=>match c with| .loop c=>c|c=>c)
noncomputable def uY (F d n:Nat) (s:St (X:=els)):Option (Ex×St (X:=els)):=iter none (fun s' K'=>exec k35 none (bA k35 none F d) F 19 52 xk s' (aV none q8 K')) n s (fun e s=>some (e,bY tC s))
noncomputable def vi:List LV→List (Blk (X:=els))→List SV→cg
 | [⟨El.span,l0⟩,⟨El.span,l2⟩,⟨El.span,l3⟩,⟨El.span,l6⟩,⟨El.span,l7⟩,⟨El.span,l9⟩,⟨El.span,l10⟩,⟨El.span,l11⟩,⟨El.span,l12⟩,⟨El.span,l13⟩,⟨El.span,l15⟩,⟨El.span,l16⟩,⟨El.span,l18⟩],[],xs=>az xs fun S0 xs=>az xs fun S1 xs=>az xs fun S2 xs=>az xs fun S3 xs=>az xs fun v3 xs=>cS xs (some (decide (l18.length≤1048576)&&v3==0,[], .exit 0,(nq l0 l2 l3 l6 l7 l9 l10 l11 l12 l13 l15 l16 (aO l18) S0 S1 S2 S3)))
 |_,_,_=>none
noncomputable def k36:Cfg (X:=els):={k35 with lp:=(19,26,{keep:=kD,m:=18,mv:=q8.mv,ctx:=128018,con:=some ((uH).con vi)})::k35.lp}
noncomputable def aJ:=(Sig.cons false (Dat.sl dz (.span:El)) (Sig.cons true (Dat.dd jH) Sig.nil))
end Go.Proofs.Ytdadgkgkdgnihaa.Px.PxV
