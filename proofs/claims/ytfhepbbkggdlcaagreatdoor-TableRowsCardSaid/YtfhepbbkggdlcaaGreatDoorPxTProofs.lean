/- What is said of functions that other seats have, too. -/
import Derived.Test.YtfhepbbkggdlcaaGreatDoorPxTSteps
import Derived.Test.YtfhepbbkggdlcaaGreatDoorPxIdx
import Derived.Test.YtfhepbbkggdlcaaGreatDoorPxSpecGreg
set_option linter.unusedVariables false
set_option linter.unusedSimpArgs false
namespace Go.Proofs.YtfhepbbkggdlcaaGreatDoor.Px.PxT
open Go Go.Proofs
theorem PZ (l0:List (Int)) (l1:List (ag)) (Q0 Q1 Q2 Q4 Q5 Q6 Q7 Q8 Q9 Q10 Q11 Q12 Q13 Q14 Q15 Q16 Q17 Q18 Q19 Q20 Q21 Q22 Q23 Q24 Q25 Q26 Q27 Q28 Q29 Q30 Q31 Q32 Q33 Q34:Int) (Q35 v3:Bool) (v12 v13:Int) (F d:Nat):∀(suf pre:List Int) (v:Bool) (n:Nat),suf.length<n→(pre++suf).length≤1048576→
  B4 F (d+3) n (xc (pre++suf) l1 Q0 Q1 Q2 Q4 Q5 Q6 Q7 Q8 Q9 Q10 Q11 Q12 Q13 Q14 Q15 Q16 Q17 Q18 Q19 Q20 Q21 Q22 Q23 Q24 Q25 Q26 Q27 Q28 Q29 Q30 Q31 Q32 Q33 Q34 Q35 v (((pre++suf).length:Nat):Int) ((pre.length:Nat):Int))=some (.exit 0,(tU (pre++suf) l1 Q0 Q1 Q2 Q4 Q5 Q6 Q7 Q8 Q9 Q10 Q11 Q12 Q13 Q14 Q15 Q16 Q17 Q18 Q19 Q20 Q21 Q22 Q23 Q24 Q25 Q26 Q27 Q28 Q29 Q30 Q31 Q32 Q33 Q34 Q35 (v&&FY (IntKind.i64.wrap (Q0-1)) pre.getLast? suf))):=by
 intro suf
 induction suf with
 |nil=>
  intro pre v n hn hl
  obtain⟨n,rfl⟩:∃k,n=k+1:=⟨n-1,by omega⟩
  rw[Du,dP,XV]
  simp[Ed,FY]
 |cons x suf ih=>
  intro pre v n hn hl
  obtain⟨n,rfl⟩:∃k,n=k+1:=⟨n-1,by omega⟩
  have ih':=ih (pre++[x]) (v&&(inB x 0 (IntKind.i64.wrap (Q0-1))&&(pre.length==0||decide (pre.getLast?.getD 0<x)))) n (by simp at hn;omega) (by simpa using hl)
  have hpl:pre.length+(suf.length+1)≤1048576:=by simpa using hl
  rw[Du]
  simp only[dZ,eW,Bool.and_self,XU,di,dX,cE hl]
  rw[←cD]at ih'
  have hacc:(bif bif v then inB x 0 (IntKind.wrap IntKind.i64 (Q0-1))else false then bif((pre.length:Nat):Int)==0 then true else decide (List.getD (pre++x::suf) (0+Int.toNat (IntKind.wrap IntKind.i64 ((pre.length:Int)-1))) 0<x)else false)=(v&&(inB x 0 (IntKind.i64.wrap (Q0-1))&&(pre.length==0||decide (pre.getLast?.getD 0<x)))):=by
   cases v
   ·rfl
   ·cases inB x 0 (IntKind.wrap IntKind.i64 (Q0-1))
    ·rfl
    ·rcases cU pre with rfl|⟨q,p,rfl⟩
     ·simp
     ·rw[IntWalk.i64_in _ (by simp at hpl⊢;omega),Iv,T2]
      simp
  rw[hacc]
  have g1:(decide (0≤IntKind.wrap IntKind.i64 ((pre.length:Int)-1))&&decide (IntKind.wrap IntKind.i64 ((pre.length:Int)-1)<(((pre++x::suf).length:Nat):Int))|| !((bif v then inB x 0 (IntKind.wrap IntKind.i64 (Q0-1))else false)&& !((pre.length:Nat):Int)==0))=true:=by
   rcases cU pre with rfl|⟨q,p,rfl⟩
   ·simp
   ·rw[IntWalk.i64_in _ (by simp at hpl⊢;omega)]
    simp
    try omega
  have g2:(decide (0+Int.toNat (IntKind.wrap IntKind.i64 ((pre.length:Int)-1))<(pre++x::suf).length)|| !((bif v then inB x 0 (IntKind.wrap IntKind.i64 (Q0-1))else false)&& !((pre.length:Nat):Int)==0))=true:=by
   rcases cU pre with rfl|⟨q,p,rfl⟩
   ·simp
   ·rw[IntWalk.i64_in _ (by simp at hpl⊢;omega)]
    simp
    try omega
  rw[g1,XU,g2,XU]
  rw[ih']
  congr 3
  rcases cU pre with rfl|⟨q,p,rfl⟩
  ·simp[Ed,FY,Bool.and_assoc]
  ·simp[Ed,FY,Bool.and_assoc]
theorem KR (l0:List (Int)) (l1:List (ag)) (Q0 Q1 Q2 Q4 Q5 Q6 Q7 Q8 Q9 Q10 Q11 Q12 Q13 Q14 Q15 Q16 Q17 Q18 Q19 Q20 Q21 Q22 Q23 Q24 Q25 Q26 Q27 Q28 Q29 Q30 Q31 Q32 Q33 Q34:Int) (Q35 v3:Bool) (v12 v13:Int) (hg:(decide (l0.length≤1048576)&&(v12==(l0.length:Int)&&v13==0))=true):∃N d,B4 N d N (xc l0 l1 Q0 Q1 Q2 Q4 Q5 Q6 Q7 Q8 Q9 Q10 Q11 Q12 Q13 Q14 Q15 Q16 Q17 Q18 Q19 Q20 Q21 Q22 Q23 Q24 Q25 Q26 Q27 Q28 Q29 Q30 Q31 Q32 Q33 Q34 Q35 v3 v12 v13)=some (a7 Prod.mk [] (.exit 0) (tU l0 l1 Q0 Q1 Q2 Q4 Q5 Q6 Q7 Q8 Q9 Q10 Q11 Q12 Q13 Q14 Q15 Q16 Q17 Q18 Q19 Q20 Q21 Q22 Q23 Q24 Q25 Q26 Q27 Q28 Q29 Q30 Q31 Q32 Q33 Q34 Q35 (v3&&FY (IntKind.i64.wrap (Q0-1)) none l0))):=by
 simp only[XR,XT,beq_iff_eq]at hg
 obtain⟨h1,rfl,rfl⟩:=hg
 have:=PZ l0 l1 Q0 Q1 Q2 Q4 Q5 Q6 Q7 Q8 Q9 Q10 Q11 Q12 Q13 Q14 Q15 Q16 Q17 Q18 Q19 Q20 Q21 Q22 Q23 Q24 Q25 Q26 Q27 Q28 Q29 Q30 Q31 Q32 Q33 Q34 Q35 v3 0 0 (l0.length+3) 0 l0 [] v3 (l0.length+3) (by omega) (by simpa using h1)
 exact⟨l0.length+3,3,by simpa[a7]using this⟩
theorem To (l0:List (Int)) (l1:List (ag)) (Q0 Q1 Q2 Q4 Q5 Q6 Q7 Q8 Q9 Q10 Q11 Q12 Q13 Q14 Q15 Q16 Q17 Q18 Q19 Q20 Q21 Q22 Q23 Q24 Q25 Q26 Q27 Q28 Q29 Q30 Q31 Q32 Q33 Q34:Int) (Q35:Bool) (v7 v8:Int) (F d:Nat):∀(suf pre:List ag) (n:Nat),suf.length<n→(pre++suf).length≤1048576→
  FO F (d+3) n (Eb l0 (pre++suf) Q0 Q1 Q2 Q4 Q5 Q6 Q7 Q8 Q9 Q10 Q11 Q12 Q13 Q14 Q15 Q16 Q17 Q18 Q19 Q20 Q21 Q22 Q23 Q24 Q25 Q26 Q27 Q28 Q29 Q30 Q31 Q32 Q33 Q34 Q35 (((pre++suf).length:Nat):Int) ((pre.length:Nat):Int))=cond (suf.all bl) (some (.exit 0,(xS l0 (pre++suf) Q0 Q1 Q2 Q4 Q5 Q6 Q7 Q8 Q9 Q10 Q11 Q12 Q13 Q14 Q15 Q16 Q17 Q18 Q19 Q20 Q21 Q22 Q23 Q24 Q25 Q26 Q27 Q28 Q29 Q30 Q31 Q32 Q33 Q34 Q35))) (some (.ret,(yQ l0 (pre++suf) Q0 Q1 Q2 Q4 Q5 Q6 Q7 Q8 Q9 Q10 Q11 Q12 Q13 Q14 Q15 Q16 Q17 Q18 Q19 Q20 Q21 Q22 Q23 Q24 Q25 Q26 Q27 Q28 Q29 Q30 Q31 Q32 Q33 Q34 Q35 ((pre.length+suf.findIdx (fun w=> !bl w):Nat):Int)))):=by
 intro suf
 induction suf with
 |nil=>
  intro pre n hn hl
  obtain⟨n,rfl⟩:∃k,n=k+1:=⟨n-1,by omega⟩
  rw[E8,dP,XV]
  rfl
 |cons x suf ih=>
  intro pre n hn hl
  obtain⟨n,rfl⟩:∃k,n=k+1:=⟨n-1,by omega⟩
  have ih':=ih (pre++[x]) n (by simp at hn;omega) (by simpa using hl)
  rw[E8]
  simp only[dZ,eW,Bool.and_self,XU,di,dX,cE hl]
  rw[←cD]at ih'
  cases hw:bl x
  ·have:(ak x != 0)=true:=by simp[ak,hw,dF]
   rw[this,XU]
   simp[hw,List.findIdx_cons]
  ·have:(ak x != 0)=false:=by simp[ak,hw,dF]
   rw[this,XV,ih']
   simp only[List.all_cons,hw,Bool.true_and,List.findIdx_cons,Bool.not_true,XV,List.length_append,List.length_singleton]
   rw[show pre.length+1+suf.findIdx (fun w=> !bl w)=pre.length+(suf.findIdx (fun w=> !bl w)+1) by omega]
theorem N3 (l0:List (Int)) (l1:List (ag)) (Q0 Q1 Q2 Q4 Q5 Q6 Q7 Q8 Q9 Q10 Q11 Q12 Q13 Q14 Q15 Q16 Q17 Q18 Q19 Q20 Q21 Q22 Q23 Q24 Q25 Q26 Q27 Q28 Q29 Q30 Q31 Q32 Q33 Q34:Int) (Q35:Bool) (v7 v8:Int) (hg:(decide (l1.length≤1048576)&&(v7==(l1.length:Int)&&v8==0))=true):∃N d,FO N d N (Eb l0 l1 Q0 Q1 Q2 Q4 Q5 Q6 Q7 Q8 Q9 Q10 Q11 Q12 Q13 Q14 Q15 Q16 Q17 Q18 Q19 Q20 Q21 Q22 Q23 Q24 Q25 Q26 Q27 Q28 Q29 Q30 Q31 Q32 Q33 Q34 Q35 v7 v8)=some (a7 Prod.mk [(l1.all bl, .exit 0,(xS l0 l1 Q0 Q1 Q2 Q4 Q5 Q6 Q7 Q8 Q9 Q10 Q11 Q12 Q13 Q14 Q15 Q16 Q17 Q18 Q19 Q20 Q21 Q22 Q23 Q24 Q25 Q26 Q27 Q28 Q29 Q30 Q31 Q32 Q33 Q34 Q35))] (.ret) (yQ l0 l1 Q0 Q1 Q2 Q4 Q5 Q6 Q7 Q8 Q9 Q10 Q11 Q12 Q13 Q14 Q15 Q16 Q17 Q18 Q19 Q20 Q21 Q22 Q23 Q24 Q25 Q26 Q27 Q28 Q29 Q30 Q31 Q32 Q33 Q34 Q35 (Cf l1))):=by
 simp only[XR,XT,beq_iff_eq]at hg
 obtain⟨h1,rfl,rfl⟩:=hg
 have:=To l0 l1 Q0 Q1 Q2 Q4 Q5 Q6 Q7 Q8 Q9 Q10 Q11 Q12 Q13 Q14 Q15 Q16 Q17 Q18 Q19 Q20 Q21 Q22 Q23 Q24 Q25 Q26 Q27 Q28 Q29 Q30 Q31 Q32 Q33 Q34 Q35 0 0 (l1.length+3) 0 l1 [] (l1.length+3) (by omega) (by simpa using h1)
 refine⟨l1.length+3,3,?_⟩
 simp only[List.nil_append,List.length_nil,Nat.zero_add]at this
 rw[show((0:Nat):Int)=0 from rfl]at this
 rw[this]
 cases h:l1.all bl<;>simp[a7,h,Cf]
theorem A3 (a0:Bool) (a1:Int):∃F d,run k21 F d 88 Tryz.f88 nu (a0,a1,())=some (vi.enc (dF a0 a1)):=by
 refine⟨200,6,?_⟩
 rw[zf]
 cases a0<;>rfl
theorem AU (a0:Config):∃F d,run k23 F d 57 Tryz.f57 nJ (a0,())=some (nP.enc (cF a0)):=by
 refine⟨200,6,?_⟩
 rw[y8]
 simp only[nP,Res.int,cF,Fs,eH,qh,Bool.true_and,Bool.and_true,Bool.and_self,XU,XV,bn,cC]
theorem zH (a0:Config) (hg:aX a0=true):∃F d,run k25 F d 58 Tryz.f58 me (a0,())=some (lK.enc (cA a0)):=by
 refine⟨200,6,?_⟩
 rw[ym]
 simp only[aX,XR,XT]at hg
 simp only[eH,qh,Bool.true_and,Bool.and_true,Bool.and_self,XU,XV,bn,cC,hg.1,decide_true,BEq.rfl]
 simp only[lK,Res.int,cA,HG]
 congr 5
 simp
 omega
theorem wg (a0:Config) (hg:aX a0=true):∃F d,run k29 F d 63 Tryz.f63 jI (a0,())=some (jf.enc (bj a0)):=by
 refine⟨200,6,?_⟩
 rw[uQ]
 simp only[aX,XR,XT]at hg
 simp only[eH,qh,Bool.true_and,Bool.and_true,Bool.and_self,XU,XV,bn,cC,hg.2,decide_true,BEq.rfl]
 simp only[jf,Res.int,bj,dF]
 by_cases h:a0.ae.length>16
 ·simp[h,show((a0.ae.length:Nat):Int)>16 by omega]
 ·simp only[h,show¬((a0.ae.length:Nat):Int)>16 by omega,decide_false,XV]
  cases a0.ae.all bl<;>rfl
theorem zX (a0:Config) (hg:aX a0=true):∃F d,run k30 F d 27 Tryz.f27 ml (a0,())=some (lN.enc (af a0)):=by
 refine⟨200,6,?_⟩
 rw[yH]
 simp only[eH,qh,Bool.true_and,Bool.and_true,Bool.and_self,XU,XV,bn,cC,hg]
 simp only[lN,Res.int,af,orE,bne]
 cases h1:(cF a0==0)<;>cases h2:(cA a0==0)<;>cases h3:(bZ a0==0)<;>cases h4:(ao a0.aK==0)<;>cases h5:(ax a0.sun==0)<;>cases h6:(bj a0==0)<;>simp_all
theorem vD (a0:Config):∃F d,run k31 F d 9 Tryz.f9 jh (a0,())=some (jr.enc (DC a0)):=by
 refine⟨200,6,?_⟩
 rw[uS]
 simp only[jr,Res.bool,DC,bn]
 refine congrArg (fun b=>some (AV.bool b)) ?_
 rw[Bool.eq_iff_iff]
 simp
 omega
theorem yS (a0:ag):∃F d,run k22 F d 92 Tryz.f92 ku (a0,())=some (kG.enc (ak a0)):=by
 refine⟨200,6,?_⟩
 rw[wC]
 simp only[kG,Res.int,ak,bl,kC,bn,cC,Xv]
 cases a0.kind==1<;>cases a0.kind==2<;>cases a0.kind==3<;>cases a0.kind==4<;>simp only[XU,XV,Bool.and_assoc,Bool.true_and,Bool.false_and,Bool.and_false]<;>rfl
theorem zU (a0:Config):∃F d,run k26 F d 59 Tryz.f59 l6 (a0,())=some (lY.enc (bZ a0)):=by
 refine⟨200,6,?_⟩
 rw[yj]
 simp only[lY,Res.int,bZ]
 congr 3
 simp only[w6,mc,inB,bn,cC,Bool.cond_eq_ite]
 rw[Bool.eq_iff_iff]
 simp only[XR,XT]
 (repeat' split)<;>simp_all<;>omega
theorem wb (a0:Config) (hg:aX a0=true):∃F d,kd k32 F d 12 Tryz.f12 jA jL (a0,())=some (RZ a0):=by
 refine⟨200,6,?_⟩
 rw[uj]
 simp only[aX,XR,XT]at hg
 have e1:Nat.ble a0.stops.length 1048576=true:=by simpa using hg.1
 have e2:Nat.ble a0.ae.length 1048576=true:=by simpa using hg.2
 simp only[eH,qh,Bool.true_and,Bool.and_true,Bool.and_self,XU,XV,bn,cC,e1,e2,List.nil_append,RZ]
theorem DL (x a b:Int):(bif decide (x<a)then true else decide (x>b))= !inB x a b:=by
 rw[Bool.eq_iff_iff];simp[inB];try omega
theorem LZ (x a b:Int):(bif decide (x>b)then true else decide (x<a))= !inB x a b:=by
 rw[Bool.eq_iff_iff];simp[inB];try omega
theorem bx {x y a b:Int} (hx:inB x a b=true) (hy:inB y a b=true) (h: -10000≤a) (h':b≤10000):IntKind.wrap IntKind.i64 (y-x)=y-x:=by
 rw[bG]at hx hy
 exact IntWalk.i64_in _ (by omega)
theorem VN (x y:Int):List.getD [x,y] 0 0=x:=rfl
theorem Wg (x y:Int):List.getD [x,y] 1 0=y:=rfl
theorem Jd (x:nU):(nU.month x==0&&(nU.ck x==0&&(nU.weekday x==0&&(nU.minute x==0&&true))))=decide (x=mO):=by
 cases x;rw[Bool.eq_iff_iff];simp[mO]
theorem Ue {x y:Int} (hx:inB x 1 12=true) (hy:inB y 1 12=true):inB (IntKind.wrap IntKind.i64 ((bif decide (y>x)then y else x)-bif decide (y<x)then y else x)) 2 10=inB (apart x y) 2 10:=by
 rw[bG]at hx hy
 unfold apart
 by_cases h:x≤y
 ·by_cases h2:y≤x
  ·have:x=y:=by omega
   subst this
   simp[IntKind.wrap,IntKind.bits,IntKind.signed,inB]
  ·simp only[show y>x by omega,show¬y<x by omega,decide_true,decide_false,XU,XV,if_pos h]
   rw[IntWalk.i64_in _ (by omega)]
 ·simp only[show¬y>x by omega,show y<x by omega,decide_true,decide_false,XU,XV,if_neg h]
  rw[IntWalk.i64_in _ (by omega)]
theorem Da (a0:bc):∃F d,run k12 F d 51 Tryz.f51 oP (a0,())=some (pH.enc (ao a0)):=by
 refine⟨200,6,?_⟩
 rw[Bb]
 simp only[pH,Res.int,ao,kA,gS,Jd]
 cases h1:inB a0.base (-720) 840
 ·rfl
 cases h2:inB a0.shift 0 120
 ·rfl
 have h2':=bG.1 h2
 by_cases h3:a0.shift=0
 ·simp only[h3,show decide ((0:Int)>0)=false from rfl,show((0:Int)==0)=true from rfl]
  cases decide (a0.on=mO)<;>cases decide (a0.off=mO)<;>rfl
 ·have e1:decide (a0.shift>0)=true:=by simp;omega
  have e2:(a0.shift==0)=false:=by simp;omega
  rw[e1,e2]
  cases g1:inB a0.on.month 1 12
  ·rfl
  cases g2:inB a0.on.ck 1 5
  ·rfl
  cases g3:inB a0.on.weekday 0 6
  ·rfl
  cases g4:inB a0.on.minute 0 1439
  ·rfl
  cases g5:inB a0.off.month 1 12
  ·rfl
  cases g6:inB a0.off.ck 1 5
  ·rfl
  cases g7:inB a0.off.weekday 0 6
  ·rfl
  cases g8:inB a0.off.minute 0 1439
  ·rfl
  rw[Ue g1 g5]
  cases inB (apart a0.on.month a0.off.month) 2 10<;>rfl
theorem zw (a0:Sun):∃F d,run k27 F d 62 Tryz.f62 lM (a0,())=some (mi.enc (ax a0)):=by
 refine⟨200,6,?_⟩
 rw[yX]
 simp only[mi,Res.int,ax,gH,List.all_cons,List.all_nil,HZ,List.cons_append,List.nil_append,DL,VN,Wg]
 cases h0:inB a0.m0 900 1320
 ·rfl
 cases h1:inB a0.m1 900 1320
 ·rfl
 cases h2:inB a0.m2 900 1320
 ·rfl
 cases h3:inB a0.m3 900 1320
 ·rfl
 cases h4:inB a0.m4 900 1320
 ·rfl
 cases h5:inB a0.m5 900 1320
 ·rfl
 cases h6:inB a0.m6 900 1320
 ·rfl
 cases h7:inB a0.m7 900 1320
 ·rfl
 cases h8:inB a0.m8 900 1320
 ·rfl
 cases h9:inB a0.m9 900 1320
 ·rfl
 cases h10:inB a0.m10 900 1320
 ·rfl
 cases h11:inB a0.m11 900 1320
 ·rfl
 simp only[bx h0 h1 (by omega) (by omega),bx h1 h2 (by omega) (by omega),bx h2 h3 (by omega) (by omega),bx h3 h4 (by omega) (by omega),bx h4 h5 (by omega) (by omega),bx h5 h6 (by omega) (by omega),bx h6 h7 (by omega) (by omega),bx h7 h8 (by omega) (by omega),bx h8 h9 (by omega) (by omega),bx h9 h10 (by omega) (by omega),bx h10 h11 (by omega) (by omega),bx h11 h0 (by omega) (by omega),LZ]
 cases inB (a0.m1-a0.m0) (-120) 120
 ·rfl
 cases inB (a0.m2-a0.m1) (-120) 120
 ·rfl
 cases inB (a0.m3-a0.m2) (-120) 120
 ·rfl
 cases inB (a0.m4-a0.m3) (-120) 120
 ·rfl
 cases inB (a0.m5-a0.m4) (-120) 120
 ·rfl
 cases inB (a0.m6-a0.m5) (-120) 120
 ·rfl
 cases inB (a0.m7-a0.m6) (-120) 120
 ·rfl
 cases inB (a0.m8-a0.m7) (-120) 120
 ·rfl
 cases inB (a0.m9-a0.m8) (-120) 120
 ·rfl
 cases inB (a0.m10-a0.m9) (-120) 120
 ·rfl
 cases inB (a0.m11-a0.m10) (-120) 120
 ·rfl
 cases inB (a0.m0-a0.m11) (-120) 120
 ·rfl
 rfl
end Go.Proofs.YtfhepbbkggdlcaaGreatDoor.Px.PxT


namespace Go.Proofs.YtfhepbbkggdlcaaGreatDoor.Px.PxT
open Go Go.Proofs
theorem L5 {a b K:Int} (hb:1≤b) (h0:0≤K) (h1: -K≤a) (h2:a≤K): -K≤a/b∧a/b≤K:=by
 have hm:K*1≤K*b:=Int.mul_le_mul_of_nonneg_left hb h0
 constructor
 ·rw[Int.le_ediv_iff_mul_le (by omega),Int.neg_mul]
  omega
 ·apply Int.ediv_le_of_le_mul (by omega)
  omega
theorem FN (a0:Int) (a1:Int) (hg:bD a0 a1=true):∃F d,run k2 F d 78 Tryz.f78 vE (a0,a1,())=some (Dk.enc (Me a0 a1)):=by
 refine⟨200,6,?_⟩
 rw[EI]
 simp only[bD,byB,big,XR,XT]at hg
 have e1:decide (a1<1)=false:=by simp;omega
 have e2:(a1 != 0)=true:=by rw[bne_iff_ne];omega
 obtain⟨d1,d2,d3,d4⟩:=yI (a:=a0) (b:=a1) (by omega)
 obtain⟨q1,q2⟩:=L5 (a:=a0) (b:=a1) (K:=1000000000000) (by omega) (by omega) (by omega) (by omega)
 simp only[e1,e2,XU,XV]
 by_cases h:a0.tmod a1<0
 ·obtain⟨f1,f2⟩:=d1 h
  rw[decide_eq_true h,XU,wrI (n:=a0.tdiv a1) (by omega),wrI (by omega),←f1]
  rfl
 ·obtain⟨f1,f2⟩:=d2 (by omega)
  rw[decide_eq_false h,XV,wrI (n:=a0.tdiv a1) (by omega),←f1]
  rfl
theorem G8 (a0:Int) (a1:Int) (hg:bD a0 a1=true):∃F d,run k3 F d 128 Tryz.f128 wJ (a0,a1,())=some (Dd.enc (MK a0 a1)):=by
 refine⟨200,6,?_⟩
 rw[EM]
 simp only[bD,byB,big,XR,XT]at hg
 have e1:decide (a1<1)=false:=by simp;omega
 have e2:(a1 != 0)=true:=by rw[bne_iff_ne];omega
 obtain⟨d1,d2,d3,d4⟩:=yI (a:=a0) (b:=a1) (by omega)
 simp only[e1,e2,XU,XV]
 by_cases h:a0.tmod a1<0
 ·obtain⟨f1,f2⟩:=d1 h
  rw[decide_eq_true h,XU,wrI (by omega),←f2]
  rfl
 ·obtain⟨f1,f2⟩:=d2 (by omega)
  rw[decide_eq_false h,XV,←f2]
  rfl
theorem E3 {a b r:Int} (hb:1≤b) (h0:0≤r) (h1:r<b):(r-a%b)%b=(if r-a%b≥0 then r-a%b else r-a%b+b)∧0≤(r-a%b)%b∧(r-a%b)%b<b:=by
 have e2:=Int.emod_nonneg a (show b≠0 by omega)
 have e3:=Int.emod_lt_of_pos a (show 0<b by omega)
 refine⟨?_,Int.emod_nonneg _ (by omega),Int.emod_lt_of_pos _ (by omega)⟩
 split
 ·exact Int.emod_eq_of_lt (by omega) (by omega)
 ·rw[←Int.add_emod_right,Int.emod_eq_of_lt (by omega) (by omega)]
theorem EB (a0:Int) (a1:Int) (a2:Int) (hg:zD a0 a1 a2=true):∃F d,run k4 F d 119 Tryz.f119 sm (a0,a1,a2,())=some (Ao.enc (II a0 a1 a2)):=by
 refine⟨200,6,?_⟩
 rw[De]
 simp only[zD,XR,XT]at hg
 obtain⟨hd,hr0,hr1⟩:=hg
 have hd':=hd
 simp only[bD,byB,big,XR,XT]at hd'
 obtain⟨n1,n2,n3⟩:=E3 (a:=a0) (b:=a1) (r:=a2) (by omega) hr0 hr1
 have e2:=Int.emod_nonneg a0 (show a1≠0 by omega)
 have e3:=Int.emod_lt_of_pos a0 (show 0<a1 by omega)
 have g1:(bif decide (a2<0)then true else decide (a2≥a1))=false:=by
  have:decide (a2<0)=false:=by simp;omega
  rw[this,XV];simp;omega
 rw[hd,g1]
 simp only[Bool.and_self,Bool.true_and,XU,XV]
 rw[wrI (n:=a2-a0%a1) (by omega)]
 by_cases h:a2-a0%a1≥0
 ·rw[if_pos h]at n1
  have g2:decide (a0>9223372036854775807-(a2-a0%a1))=false:=by simp;omega
  rw[decide_eq_true h,XU,wrI (n:=9223372036854775807-(a2-a0%a1)) (by omega),g2,XV,wrI (by omega),←n1]
  rfl
 ·rw[if_neg h]at n1
  rw[decide_eq_false h,XV,wrI (n:=a2-a0%a1+a1) (by omega),wrI (n:=9223372036854775807-(a2-a0%a1+a1)) (by omega)]
  have g2:decide (a0>9223372036854775807-(a2-a0%a1+a1))=false:=by simp;omega
  rw[g2,XV,wrI (by omega),←n1]
  rfl
theorem Eu (a0:Int):∃F d,run k5 F d 87 Tryz.f87 si (a0,())=some (ss.enc (dU a0)):=by
 refine⟨200,6,?_⟩
 rw[DI]
 simp only[ss,Res.bool,dU]
 cases Int.tmod a0 4==0<;>cases Int.tmod a0 100 != 0<;>rfl
theorem EC (a0:Int) (a1:Int):∃F d,run k6 F d 54 Tryz.f54 rR (a0,a1,())=some (sD.enc (ai a0 a1)):=by
 refine⟨200,6,?_⟩
 rw[DX]
 simp only[sD,Res.int,ai]
 have hc:(bif bif bif decide (a0<1)then true else decide (a0>9999)then true else decide (a1<1)then true else decide (a1>12))= !bm a0 a1:=by
  rw[Bool.eq_iff_iff]
  by_cases h1:a0<1<;>by_cases h2:a0>9999<;>by_cases h3:a1<1<;>by_cases h4:a1>12<;>simp[bm,h1,h2,h3,h4]<;>omega
 rw[hc]
 cases hm:bm a0 a1 with
 |false=>rfl
 |true=>
  simp only[bm,XR,XT]at hm
  simp only[Bool.not_true,XV,XU]
  rw[show(bif a1==2 then dU a0 else false)=(a1==2&&dU a0) by cases a1==2<;>rfl]
  cases (a1==2&&dU a0)with
  |true=>rfl
  |false=>
   simp only[XV]
   rw[wrI (n:=a1-1) (by omega)]
   have g1:decide (0≤a1-1)=true:=by simp;omega
   have g2:decide (a1-1<((12:Nat):Int))=true:=by simp;omega
   have g3:Nat.ble (0+Int.toNat (a1-1)*1+1) 12=true:=by simp;omega
   rw[g1,g2,Bool.and_self,XU,g3,XU,Nat.zero_add,Nat.mul_one]
   rfl
theorem CO (a0:Int):∃F d,run k7 F d 56 Tryz.f56 oN (a0,())=some (yg.enc (Pj a0)):=by
 refine⟨200,6,?_⟩
 rw[Bc]
 have k:∀n:Nat,n<12→IntKind.wrap IntKind.i64 (aE a0 n+ai a0 ((n:Int)+1))=aE a0 (n+1):=fun n hn=>by
  have h1:=dQ a0 n
  have h2:=dm a0 ((n:Int)+1)
  exact wrI (by omega)
 have w:∀n:Int,0≤n→n≤20→IntKind.wrap IntKind.i64 (n+1)=n+1:=fun n h1 h2=>wrI (by omega)
 have m1:IntKind.wrap IntKind.i64 (1+1)=2:=rfl
 have m2:IntKind.wrap IntKind.i64 (2+1)=3:=rfl
 have m3:IntKind.wrap IntKind.i64 (3+1)=4:=rfl
 have m4:IntKind.wrap IntKind.i64 (4+1)=5:=rfl
 have m5:IntKind.wrap IntKind.i64 (5+1)=6:=rfl
 have m6:IntKind.wrap IntKind.i64 (6+1)=7:=rfl
 have m7:IntKind.wrap IntKind.i64 (7+1)=8:=rfl
 have m8:IntKind.wrap IntKind.i64 (8+1)=9:=rfl
 have m9:IntKind.wrap IntKind.i64 (9+1)=10:=rfl
 have m10:IntKind.wrap IntKind.i64 (10+1)=11:=rfl
 have m11:IntKind.wrap IntKind.i64 (11+1)=12:=rfl
 have s0:IntKind.wrap IntKind.i64 (0+ai a0 1)=aE a0 1:=k 0 (by omega)
 have s1:IntKind.wrap IntKind.i64 (aE a0 1+ai a0 2)=aE a0 2:=k 1 (by omega)
 have s2:IntKind.wrap IntKind.i64 (aE a0 2+ai a0 3)=aE a0 3:=k 2 (by omega)
 have s3:IntKind.wrap IntKind.i64 (aE a0 3+ai a0 4)=aE a0 4:=k 3 (by omega)
 have s4:IntKind.wrap IntKind.i64 (aE a0 4+ai a0 5)=aE a0 5:=k 4 (by omega)
 have s5:IntKind.wrap IntKind.i64 (aE a0 5+ai a0 6)=aE a0 6:=k 5 (by omega)
 have s6:IntKind.wrap IntKind.i64 (aE a0 6+ai a0 7)=aE a0 7:=k 6 (by omega)
 have s7:IntKind.wrap IntKind.i64 (aE a0 7+ai a0 8)=aE a0 8:=k 7 (by omega)
 have s8:IntKind.wrap IntKind.i64 (aE a0 8+ai a0 9)=aE a0 9:=k 8 (by omega)
 have s9:IntKind.wrap IntKind.i64 (aE a0 9+ai a0 10)=aE a0 10:=k 9 (by omega)
 have s10:IntKind.wrap IntKind.i64 (aE a0 10+ai a0 11)=aE a0 11:=k 10 (by omega)
 have s11:IntKind.wrap IntKind.i64 (aE a0 11+ai a0 12)=aE a0 12:=k 11 (by omega)
 simp only[m1,m2,m3,m4,m5,m6,m7,m8,m9,m10,m11,s0,s1,s2,s3,s4,s5,s6,s7,s8,s9,s10,s11]
 rfl
theorem A8 (a0:Int) (hg:qx a0=true):∃F d,run k8 F d 55 Tryz.f55 nH (a0,())=some (nK.enc (aF a0)):=by
 refine⟨200,6,?_⟩
 rw[zR]
 simp only[qx,XR,XT]at hg
 simp only[nK,Res.int,aF]
 have t4:Int.tdiv (a0-1) 4=(a0-1)/4:=Int.tdiv_eq_ediv_of_nonneg (by omega)
 have t100:Int.tdiv (a0-1) 100=(a0-1)/100:=Int.tdiv_eq_ediv_of_nonneg (by omega)
 have t400:Int.tdiv (a0-1) 400=(a0-1)/400:=Int.tdiv_eq_ediv_of_nonneg (by omega)
 rw[wrI (n:=a0-1) (by omega),t4,t100,t400,wrI (n:=365*(a0-1)) (by omega),wrI (n:=(a0-1)/4) (by omega),wrI (n:=(a0-1)/100) (by omega),wrI (n:=(a0-1)/400) (by omega),
  wrI (n:=365*(a0-1)+(a0-1)/4) (by omega),wrI (n:=365*(a0-1)+(a0-1)/4-(a0-1)/100) (by omega),wrI (by omega)]
theorem SY {y:Int} {k:Nat} (h:k<13):cP [0,aE y 1,aE y 2,aE y 3,aE y 4,aE y 5,aE y 6,aE y 7,aE y 8,aE y 9,aE y 10,aE y 11,aE y 12] k=aE y k:=by
 have:k=0∨k=1∨k=2∨k=3∨k=4∨k=5∨k=6∨k=7∨k=8∨k=9∨k=10∨k=11∨k=12:=by omega
 rcases this with rfl|rfl|rfl|rfl|rfl|rfl|rfl|rfl|rfl|rfl|rfl|rfl|rfl<;>rfl
theorem GH (a0:Date):∃F d,run k9 F d 25 Tryz.f25 wz (a0,())=some (Dq.enc (uZ a0)):=by
 refine⟨200,6,?_⟩
 rw[EO]
 unfold uZ
 rw[show(bif decide (a0.day<1)then true else decide (a0.day>ai a0.year a0.month))=(decide (a0.day<1)||decide (a0.day>ai a0.year a0.month)) by cases decide (a0.day<1)<;>rfl]
 cases hb:(decide (a0.day<1)||decide (a0.day>ai a0.year a0.month))with
 |true=>rfl
 |false=>
  simp only[Bool.or_eq_false_iff,decide_eq_false_iff_not]at hb
  obtain⟨r1,r2,r3⟩:=dm a0.year a0.month
  obtain⟨y1,y2,m1,m2⟩:=r3 (by omega)
  have hy:qx a0.year=true:=by simp only[qx,XR,XT];omega
  have hbf:=cV (y:=a0.year) y1 (by omega)
  have hs:=dQ a0.year (a0.month-1).toNat
  rw[hy,wrI (n:=a0.month-1) (by omega)]
  have g1:decide (0≤a0.month-1)=true:=by simp;omega
  have g2:decide (a0.month-1<((13:Nat):Int))=true:=by simp;omega
  simp only[g1,g2,Bool.and_self,Bool.true_and,XU,XV,Nat.mul_one]
  rw[SY (by omega),wrI (n:=aF a0.year+aE a0.year (a0.month-1).toNat) (by omega),wrI (by omega)]
  rfl
theorem I0 (a0:Int):∃F d,run k10 F d 79 Tryz.f79 zi (a0,())=some (Fz.enc (ofG a0)):=by
 refine⟨200,6,?_⟩
 rw[Gg]
 unfold ofG
 rw[show(bif decide (a0<1)then true else decide (a0>3652059))=(decide (a0<1)||decide (a0>3652059)) by cases decide (a0<1)<;>rfl]
 cases hb:(decide (a0<1)||decide (a0>3652059))with
 |true=>rfl
 |false=>
  simp only[Bool.or_eq_false_iff,decide_eq_false_iff_not]at hb
  obtain⟨y1,y2,l1,l2,_⟩:=nn (n:=a0) (by omega) (by omega)
  have w:∀s:Int,(0≤s∧s≤1000)→IntKind.wrap IntKind.i64 (IntKind.wrap IntKind.i64 (lfG a0-s)+1)=lfG a0-s+1:=fun s hs=>by
   rw[wrI (n:=lfG a0-s) (by omega),wrI (by omega)]
  have hs:∀k:Nat,k≤12→0≤aE (yrG a0) k∧aE (yrG a0) k≤1000:=fun k hk=>by have:=dQ (yrG a0) k;omega
  simp only[w 0 (by omega),w _ (hs 1 (by omega)),w _ (hs 2 (by omega)),w _ (hs 3 (by omega)),w _ (hs 4 (by omega)),w _ (hs 5 (by omega)),w _ (hs 6 (by omega)),w _ (hs 7 (by omega)),w _ (hs 8 (by omega)),w _ (hs 9 (by omega)),w _ (hs 10 (by omega)),w _ (hs 11 (by omega)),XV]
  unfold oG
  simp only[oC]
  cases h1:decide (lfG a0<aE (yrG a0) 1)with
  |true=>simp only[h1,XU,XV,XU];rfl
  |false=>
   cases h2:decide (lfG a0<aE (yrG a0) 2)with
   |true=>simp only[h2,XU,XV,h1];rfl
   |false=>
    cases h3:decide (lfG a0<aE (yrG a0) 3)with
    |true=>simp only[h3,XU,XV,h1,h2];rfl
    |false=>
     cases h4:decide (lfG a0<aE (yrG a0) 4)with
     |true=>simp only[h4,XU,XV,h1,h2,h3];rfl
     |false=>
      cases h5:decide (lfG a0<aE (yrG a0) 5)with
      |true=>simp only[h5,XU,XV,h1,h2,h3,h4];rfl
      |false=>
       cases h6:decide (lfG a0<aE (yrG a0) 6)with
       |true=>simp only[h6,XU,XV,h1,h2,h3,h4,h5];rfl
       |false=>
        cases h7:decide (lfG a0<aE (yrG a0) 7)with
        |true=>simp only[h7,XU,XV,h1,h2,h3,h4,h5,h6];rfl
        |false=>
         cases h8:decide (lfG a0<aE (yrG a0) 8)with
         |true=>simp only[h8,XU,XV,h1,h2,h3,h4,h5,h6,h7];rfl
         |false=>
          cases h9:decide (lfG a0<aE (yrG a0) 9)with
          |true=>simp only[h9,XU,XV,h1,h2,h3,h4,h5,h6,h7,h8];rfl
          |false=>
           cases h10:decide (lfG a0<aE (yrG a0) 10)with
           |true=>simp only[h10,XU,XV,h1,h2,h3,h4,h5,h6,h7,h8,h9];rfl
           |false=>
            cases h11:decide (lfG a0<aE (yrG a0) 11)with
            |true=>simp only[h11,XU,XV,h1,h2,h3,h4,h5,h6,h7,h8,h9,h10];rfl
            |false=>
             simp only[h1,h2,h3,h4,h5,h6,h7,h8,h9,h10,h11,XU,XV];rfl
theorem OZ {y m:Int} (h:ai y m≠0):uZ ⟨y,m,1⟩=(aN y m,0)∧1≤aN y m∧aN y m≤3800000∧1≤ai y m∧ai y m≤31:=by
 obtain⟨r1,r2,r3⟩:=dm y m
 obtain⟨y1,y2,m1,m2⟩:=r3 h
 have hbf:=cV (y:=y) y1 (by omega)
 have hs:=dQ y (m-1).toNat
 have e1:decide ((1:Int)<1)=false:=rfl
 have e2:decide ((1:Int)>ai y m)=false:=by simp;omega
 refine⟨?_,by unfold aN;omega,by unfold aN;omega,by omega,r2⟩
 unfold uZ
 simp only[e1,e2,Bool.or_self,XV,aN]
theorem Ch {y m w:Int} (h:ai y m≠0) (hw0:0≤w) (hw1:w≤6):aN y m≤cz y m w∧cz y m w≤aN y m+6:=by
 have:=E3 (a:=aN y m) (b:=7) (r:=w) (by omega) hw0 (by omega)
 unfold cz
 omega
theorem FM (a0:Int) (a1:Int) (a2:Int) (a3:Int):∃F d,run k11 F d 106 Tryz.f106 wy (a0,a1,a2,a3,())=some (CL.enc (kE a0 a1 a2 a3)):=by
 refine⟨200,6,?_⟩
 rw[EG]
 unfold kE
 cases hd:ai a0 a1==0 with
 |true=>rfl
 |false=>
  have hd0:ai a0 a1≠0:=by simpa using hd
  obtain⟨f0,f1,f2,f3,f4⟩:=OZ hd0
  rw[XV,XV]
  rw[show(bif bif decide (a2<0)then true else decide (a2>6)then true else bif a3 != -1 then bif decide (a3<1)then true else decide (a3>5)else false)=dO a2 a3 by
   unfold dO
   cases decide (a2<0)<;>cases decide (a2>6)<;>cases (a3 != -1)<;>cases decide (a3<1)<;>rfl]
  cases hb:dO a2 a3 with
  |true=>rfl
  |false=>
   simp only[dO,Bool.or_eq_false_iff,Bool.and_eq_false_iff,decide_eq_false_iff_not,bne_eq_false_iff_eq]at hb
   obtain⟨⟨w0,w1⟩,hk⟩:=hb
   have hk':a3= -1∨(1≤a3∧a3≤5):=by
    rcases hk with h|⟨h1,h2⟩
    ·exact .inl h
    ·exact .inr (by omega)
   obtain⟨g1,g2⟩:=Ch hd0 (w:=a2) (by omega) (by omega)
   have ho:zD (aN a0 a1) 7 a2=true:=by simp only[zD,bD,byB,big,XR,XT];omega
   have hfr:aN a0 a1+(a2-aN a0 a1%7)%7=cz a0 a1 a2:=rfl
   simp only[f0,ho,hfr,Bool.and_self,Bool.true_and,XU,XV]
   cases h1:a3== -1 with
   |true=>
    rw[XU,XU]
    rw[wrI (n:=aN a0 a1+ai a0 a1) (by omega),wrI (n:=aN a0 a1+ai a0 a1-1) (by omega),wrI (n:=aN a0 a1+ai a0 a1-1-cz a0 a1 a2) (by omega)]
    have hq:Int.tdiv (aN a0 a1+ai a0 a1-1-cz a0 a1 a2) 7=(aN a0 a1+ai a0 a1-1-cz a0 a1 a2)/7:=by
     apply Int.tdiv_eq_ediv_of_nonneg
     have:=sP hd0
     omega
    rw[hq,wrI (n:=(aN a0 a1+ai a0 a1-1-cz a0 a1 a2)/7) (by omega),wrI (n:=(aN a0 a1+ai a0 a1-1-cz a0 a1 a2)/7*7) (by omega),wrI (by omega)]
    rfl
   |false=>
    have hk2:1≤a3∧a3≤5:=by
     rcases hk' with h|h
     ·rw[h]at h1;cases h1
     ·exact h
    rw[XV,XV]
    rw[wrI (n:=a3-1) (by omega),wrI (n:=7*(a3-1)) (by omega),wrI (n:=cz a0 a1 a2+7*(a3-1)) (by omega),wrI (n:=aN a0 a1+ai a0 a1) (by omega)]
    cases decide (cz a0 a1 a2+7*(a3-1)≥aN a0 a1+ai a0 a1)<;>rfl
theorem Fm (y m w k:Int):0≤(kE y m w k).1∧(kE y m w k).1≤4000000:=by
 unfold kE
 cases hd:ai y m==0 with
 |true=>simp
 |false=>
  have hd0:ai y m≠0:=by simpa using hd
  obtain⟨f0,f1,f2,f3,f4⟩:=OZ hd0
  rw[XV]
  cases hb:dO w k with
  |true=>simp
  |false=>
   simp only[dO,Bool.or_eq_false_iff,Bool.and_eq_false_iff,decide_eq_false_iff_not,bne_eq_false_iff_eq]at hb
   obtain⟨⟨w0,w1⟩,hk⟩:=hb
   obtain⟨g1,g2⟩:=Ch hd0 (w:=w) (by omega) (by omega)
   rw[XV]
   cases h1:k== -1 with
   |true=>
    have:=sP hd0
    simp only[XU]
    omega
   |false=>
    have hk2:1≤k∧k≤5:=by
     rcases hk with h|⟨h1',h2⟩
     ·rw[h]at h1;cases h1
     ·omega
    simp only[XV]
    cases decide (cz y m w+7*(k-1)≥aN y m+ai y m)
    ·simp only[XV];omega
    ·simp
theorem EK (a0:bc) (a1:nU) (a2:Int) (hg:er a0 a1 a2=true):∃F d,run k13 F d 84 Tryz.f84 sX (a0,a1,a2,())=some (rJ.enc (bW a0 a1 a2)):=by
 refine⟨200,6,?_⟩
 rw[Dy]
 simp only[er,lit,XR,XT]at hg
 simp only[rJ,Res.int,bW]
 have w:∀k,IntKind.wrap IntKind.i64 (IntKind.wrap IntKind.i64 (IntKind.wrap IntKind.i64 ((kE a2 a1.month a1.weekday k).1*1440)+a1.minute)-a0.base)=(kE a2 a1.month a1.weekday k).1*1440+a1.minute-a0.base:=fun k=>by
  have:=Fm a2 a1.month a1.weekday k
  rw[wrI (n:=(kE a2 a1.month a1.weekday k).1*1440) (by omega),wrI (n:=(kE a2 a1.month a1.weekday k).1*1440+a1.minute) (by omega),wrI (by omega)]
 rw[w,w]
 cases a1.ck==5<;>rfl
theorem R7 (t a b:Int):(bif bif bif decide (a<b)then decide (a≤t)else false then decide (t<b)else false then true else bif decide (b<a)then bif decide (t<b)then true else decide (a≤t)else false)=Ke t a b:=by
 unfold Ke
 cases decide (a<b)<;>cases decide (a≤t)<;>cases decide (t<b)<;>cases decide (b<a)<;>rfl
theorem Ct (a0:bc) (a1:Int) (hg:dj a0 a1=true):∃F d,run k14 F d 47 Tryz.f47 pS (a0,a1,())=some (pq.enc (bK a0 a1)):=by
 refine⟨200,6,?_⟩
 rw[Bd]
 simp only[dj,iI,XR]at hg
 obtain⟨⟨b1,b2,b3⟩,b4⟩:=hg
 have b1':=b1
 simp only[lit,mid,XR,XT]at b1' b4
 simp only[pq,Res.int,bK]
 cases h0:a0.shift==0 with
 |true=>rfl
 |false=>
  have w:IntKind.wrap IntKind.i64 (a1+a0.base)=a1+a0.base:=wrI (by omega)
  have ho:bD (a1+a0.base) 1440=true:=by simp only[bD,byB,big,XR,XT];omega
  have k1:∀y,er a0 a0.on y=true:=fun y=>by simp only[er,b1,b2,Bool.and_self]
  have k2:∀y,er a0 a0.off y=true:=fun y=>by simp only[er,b1,b3,Bool.and_self]
  have hy:(ofG ((a1+a0.base)/1440)).1.year=cK a0 a1:=rfl
  simp only[w,ho,k1,k2,hy,Bool.and_self,Bool.true_and,XU,XV,R7]
  cases Ke a1 (bW a0 a0.on (cK a0 a1)) (bW a0 a0.off (cK a0 a1))<;>rfl
theorem LD {z:bc} (h:ao z=0):(-720≤z.base∧z.base≤840)∧(0≤z.shift∧z.shift≤120)∧iI z=true∧(z.shift≠0→kA z=true):=by
 unfold ao at h
 cases h1:inB z.base (-720) 840 with
 |false=>rw[h1]at h;simp at h
 |true=>
  rw[h1,XU]at h
  cases h2:inB z.shift 0 120 with
  |false=>rw[h2]at h;simp at h
  |true=>
   rw[h2,XU]at h
   rw[bG]at h1 h2
   by_cases h3:z.shift=0
   ·rw[h3]at h
    simp only[beq_self_eq_true,XU]at h
    cases h4:(decide (z.on=mO)&&decide (z.off=mO))with
    |false=>rw[h4]at h;simp at h
    |true=>
     simp only[XR,XT]at h4
     refine⟨h1,h2,?_,fun hne=>absurd h3 hne⟩
     simp only[iI,lit,h4.1,h4.2,mO,XR,XT]
     omega
   ·have e:(z.shift==0)=false:=by rw[beq_eq_false_iff_ne];exact h3
    rw[e,XV]at h
    cases h4:kA z with
    |false=>rw[h4]at h;simp at h
    |true=>
     refine⟨h1,h2,?_,fun _=>rfl⟩
     simp only[kA,gS,XR,bG]at h4
     simp only[iI,lit,XR,XT]
     omega
theorem xU (a0:bc) (a1:Int) (a2:Int):∃F d,kd k15 F d 53 Tryz.f53 kK kq (a0,a1,a2,())=some (qn a0 a1 a2):=by
 refine⟨200,6,?_⟩
 rw[vY]
 unfold qn
 cases hz:ao a0 != 0 with
 |true=>rfl
 |false=>
  have hz0:ao a0=0:=by simpa using hz
  obtain⟨p1,p2,p3,_⟩:=LD hz0
  rw[XV,XV]
  rw[show(bif !inB a1 401 3651998 then true else !inB a2 0 1439)=(!inB a1 401 3651998|| !inB a2 0 1439) by cases inB a1 401 3651998<;>rfl]
  cases hb:(!inB a1 401 3651998|| !inB a2 0 1439)with
  |true=>rfl
  |false=>
   simp only[Bool.or_eq_false_iff,Bool.not_eq_false']at hb
   rw[bG,bG]at hb
   rw[XV,XV]
   have w1:IntKind.wrap IntKind.i64 (a1*1440)=a1*1440:=wrI (by omega)
   have w2:IntKind.wrap IntKind.i64 (a1*1440+a2)=a1*1440+a2:=wrI (by omega)
   have w3:IntKind.wrap IntKind.i64 (a1*1440+a2-a0.base)=a1*1440+a2-a0.base:=wrI (by omega)
   have w4:IntKind.wrap IntKind.i64 (a1*1440+a2-a0.base-a0.shift)=a1*1440+a2-a0.base-a0.shift:=wrI (by omega)
   have o1:dj a0 (a1*1440+a2-a0.base)=true:=by simp only[dj,p3,mid,Bool.true_and,XR,XT];omega
   have o2:dj a0 (a1*1440+a2-a0.base-a0.shift)=true:=by simp only[dj,p3,mid,Bool.true_and,XR,XT];omega
   simp only[w1,w2,w3,w4,o1,o2,Bool.and_self,Bool.true_and,Bool.true_or,XU]
   rw[show(bif decide (a0.shift>0)then decide (bK a0 (a1*1440+a2-a0.base-a0.shift)>0)else false)=(decide (a0.shift>0)&&decide (bK a0 (a1*1440+a2-a0.base-a0.shift)>0)) by cases decide (a0.shift>0)<;>rfl]
   cases (decide (a0.shift>0)&&decide (bK a0 (a1*1440+a2-a0.base-a0.shift)>0))<;>cases bK a0 (a1*1440+a2-a0.base)==0<;>rfl
theorem whole (z:bc):(⟨z.base,z.shift,⟨z.on.month,z.on.ck,z.on.weekday,z.on.minute⟩,⟨z.off.month,z.off.ck,z.off.weekday,z.off.minute⟩⟩:bc)=z:=rfl
theorem xH {t:Int} (h:0≤t) (h2:t≤5258868000):IntKind.wrap IntKind.i64 (Int.tdiv t 1440)=t/1440∧Int.tmod t 1440=t%1440:=by
 rw[Int.tdiv_eq_ediv_of_nonneg h,Int.tmod_eq_emod_of_nonneg h]
 exact⟨wrI (by omega),rfl⟩
theorem Gq {α:Type} (l:List α):decide (((l.length:Nat):Int)>0)= !l.isEmpty∧decide (0<((l.length:Nat):Int))= !l.isEmpty∧decide (0<l.length)= !l.isEmpty∧(((l.length:Nat):Int)==0)=l.isEmpty:=by
 cases l with
 |nil=>exact⟨rfl,rfl,rfl,rfl⟩
 |cons x l=>
  refine⟨by simp,by simp,by simp,?_⟩
  simp only[List.isEmpty_cons,List.length_cons,beq_eq_false_iff_ne]
  omega
theorem Tm (O0 O1 O2 O3 O4 O5 O6 O7 O8 O9 v9:Int) (F d:Nat) (z:bc) (hz:z=(⟨O0,O1,⟨O2,O3,O4,O5⟩,⟨O6,O7,O8,O9⟩⟩:bc)):∀(k:Nat) (t:Int) (n:Nat),0≤t→t+k≤5258868000→bY (gq z) k t=true→k<n→
  zb F (d+3) n (wI O0 O1 O2 O3 O4 O5 O6 O7 O8 O9 t)=some (.ret,(re O0 O1 O2 O3 O4 O5 O6 O7 O8 O9 (br (gq z) k t))):=by
 have step:∀(t:Int) (n:Nat),0≤t→t≤5258868000→zb F (d+3) (n+1) (wI O0 O1 O2 O3 O4 O5 O6 O7 O8 O9 t)=cond (gq z t).isEmpty (zb F (d+3) n (wI O0 O1 O2 O3 O4 O5 O6 O7 O8 O9 (t+1))) (some (.ret,(re O0 O1 O2 O3 O4 O5 O6 O7 O8 O9 t))):=by
  intro t n h0 h1
  obtain⟨d1,d2⟩:=xH h0 h1
  have hl:=Gq (gq z t)
  unfold gq at hl⊢
  rw[Np,d1,d2,←hz,hl.1,hl.2.2.1,wrI (n:=t+1) (by omega)]
  cases ((qn z (t/1440) (t%1440)).1).isEmpty<;>rfl
 intro k
 induction k with
 |zero=>
  intro t n h0 h1 hr hn
  obtain⟨n,rfl⟩:∃k,n=k+1:=⟨n-1,by omega⟩
  rw[step t n h0 (by omega)]
  simp only[bY,Bool.not_eq_true']at hr
  rw[hr]
  rfl
 |succ k ih=>
  intro t n h0 h1 hr hn
  obtain⟨n,rfl⟩:∃k,n=k+1:=⟨n-1,by omega⟩
  rw[step t n h0 (by omega)]
  simp only[bY,Bool.or_eq_true,Bool.not_eq_true']at hr
  simp only[br]
  cases he:(gq z t).isEmpty with
  |false=>rfl
  |true=>
   rw[he]at hr
   rw[XU,XU]
   refine ih (t+1) n (by omega) (by omega) ?_ (by omega)
   rcases hr with h|h
   ·cases h
   ·exact h
theorem MW (O0 O1 O2 O3 O4 O5 O6 O7 O8 O9 v9:Int) (hg:(ao (⟨O0,O1,⟨O2,O3,O4,O5⟩,⟨O6,O7,O8,O9⟩⟩:bc)==0&&(fJ v9&&bY (gq (⟨O0,O1,⟨O2,O3,O4,O5⟩,⟨O6,O7,O8,O9⟩⟩:bc)) 200 v9))=true):∃N d,zb N d N (wI O0 O1 O2 O3 O4 O5 O6 O7 O8 O9 v9)=some (a7 Prod.mk [] (.ret) (re O0 O1 O2 O3 O4 O5 O6 O7 O8 O9 (br (gq (⟨O0,O1,⟨O2,O3,O4,O5⟩,⟨O6,O7,O8,O9⟩⟩:bc)) 200 v9))):=by
 simp only[XR,beq_iff_eq]at hg
 obtain⟨h1,h2,h3⟩:=hg
 simp only[fJ,XR,XT]at h2
 exact⟨300,3,Tm O0 O1 O2 O3 O4 O5 O6 O7 O8 O9 v9 300 0 _ rfl 200 v9 300 (by omega) (by omega) h3 (by omega)⟩
theorem xo (a0:bc) (a1:Int) (a2:Int):∃F d,run k18 F d 24 Tryz.f24 ky (a0,a1,a2,())=some (qo.enc (cM a0 a1 a2)):=by
 refine⟨200,6,?_⟩
 rw[wB]
 unfold cM
 cases hz:ao a0 != 0 with
 |true=>rfl
 |false=>
  have hz0:ao a0=0:=by simpa using hz
  rw[XV,XV]
  have hc:(bif bif !dw a1 then true else decide (a2<0)then true else decide (a2≥1440))= !gW a1 a2:=by
   unfold gW
   rw[show decide (a2<0)= !decide (0≤a2) by rw[Bool.eq_iff_iff];simp,show decide (a2≥1440)= !decide (a2<1440) by rw[Bool.eq_iff_iff];simp]
   cases dw a1<;>cases decide (0≤a2)<;>cases decide (a2<1440)<;>rfl
  rw[hc]
  cases hm:gW a1 a2 with
  |false=>rfl
  |true=>
   have ht:=B0 hm
   have hr:=FV hz0 ht
   have ht':=ht
   simp only[fJ,XR,XT]at ht'
   have hd:402≤a1∧a1≤3651990:=by
    simp only[gW,XR]at hm
    have:=hm.1
    unfold dw at this
    cases h:decide (402≤a1)
    ·rw[h]at this;cases this
    ·rw[h,XU]at this;simp at h this;omega
   rw[wrI (n:=a1*1440) (by omega),wrI (n:=a1*1440+a2) (by omega)]
   rw[hz0,ht,hr]
   obtain⟨d1,d2⟩:=xH (t:=br (gq a0) 200 (a1*1440+a2)) (by have:=kf (gq a0) 200 (a1*1440+a2);omega) (by have:=kf (gq a0) 200 (a1*1440+a2);omega)
   rw[d1,d2]
   rfl
theorem zY (a0:Int) (hg:cS a0=true):∃F d,run k19 F d 171 Tryz.f171 lT (a0,())=some (rK.enc (av a0)):=by
 refine⟨200,6,?_⟩
 rw[yb]
 have h':=hg
 simp only[cS,mid,XR,XT]at h'
 rw[show bD a0 7=true by simp only[bD,big,byB,XR,XT];omega]
 rfl
theorem pc (a0:Unit) (a1:Config) (a2:ag) (a3:Int) (hg:Hl a0 a1 a2 a3=true):∃F d,run k52 F d 169 Tryz.f169 eS (a0,a1,a2,a3,())=some (j8.enc (yx a0 a1 a2 a3)):=by
 refine⟨200,6,?_⟩
 rw[oE]
 have h':cS a3=true:=hg
 have h0:decide (0≤av a3)=true:=by unfold av;simp;omega
 have b1:Nat.beq a1.stops.length a1.stops.length=true:=by simp
 have b2:Nat.ble (0+a1.stops.length) a1.stops.length=true:=by simp
 have b3:Nat.beq a1.ae.length a1.ae.length=true:=by simp
 have b4:Nat.ble (0+a1.ae.length) a1.ae.length=true:=by simp
 rw[h',h0,b1,b2,b3,b4]
 rfl
end Go.Proofs.YtfhepbbkggdlcaaGreatDoor.Px.PxT


namespace Go.Proofs.YtfhepbbkggdlcaaGreatDoor.Px.PxT
open Go Go.Proofs
set_option maxRecDepth 10000
theorem cO (n:Int):cS n=true↔ -100000000000≤n∧n≤100000000000:=by
 simp only[cS,mid,XR,XT]
theorem ca (h:Int):bO h=true↔1≤h∧h≤100000:=by
 simp only[bO,XR,XT]
theorem lr {h:Int} (h1:1≤h) (h2:h≤100000):0≤bg h∧bg h≤1300000:=by
 unfold bg
 omega
theorem jU {h:Int} (h1:1≤h) (h2:h≤100000):0≤aL h∧aL h≤1000000000000:=by
 have:=lr h1 h2
 unfold aL
 omega
theorem gB {h:Int} (h1:1≤h) (h2:h≤100000): -2000000≤aP h∧aP h≤100000000∧0≤fv h∧fv h≤2:=by
 have hp:=jU h1 h2
 have hd:0≤fv h∧fv h≤2:=by
  unfold fv Kt
  cases EF h<;>cases ((nV h).1%7+_)%7==0||_<;>simp
 unfold aP nV
 dsimp only
 omega
theorem CW (a0:Int) (hg:cS a0=true):∃F d,run k33 F d 186 Tryz.f186 oZ (a0,())=some (xm.enc (dd a0)):=by
 refine⟨200,6,?_⟩
 rw[AW]
 have h':=(cO a0).1 hg
 rw[show bD a0 19=true by simp only[bD,big,byB,XR,XT];omega]
 rw[wrI (n:=7*(a0%19)) (by omega),wrI (n:=7*(a0%19)+1) (by omega),Int.tmod_eq_emod_of_nonneg (by omega)]
 rfl
theorem q5 (a0:Int) (hg:bO a0=true):∃F d,run k34 F d 189 Tryz.f189 fu (a0,())=some (kV.enc (bg a0)):=by
 refine⟨200,6,?_⟩
 rw[qd]
 have h':=(ca a0).1 hg
 rw[wrI (n:=235*a0) (by omega),wrI (n:=235*a0-234) (by omega),Int.tdiv_eq_ediv_of_nonneg (by omega),wrI (by omega)]
 rfl
theorem um (a0:Int) (hg:bO a0=true):∃F d,run k35 F d 187 Tryz.f187 hN (a0,())=some (mM.enc (nV a0)):=by
 refine⟨200,6,?_⟩
 rw[sc]
 have h':=(ca a0).1 hg
 have hm:=lr h'.1 h'.2
 rw[wrI (n:=765433*bg a0) (by omega),wrI (n:=5604+765433*bg a0) (by omega),Int.tdiv_eq_ediv_of_nonneg (by omega),Int.tmod_eq_emod_of_nonneg (by omega),wrI (n:=(5604+765433*bg a0)/25920) (by omega),wrI (by omega)]
 rw[hg]
 rfl
theorem seven (w:Int) (h:0≤w) (h2:w≤100):Int.tmod w 7=w%7:=Int.tmod_eq_emod_of_nonneg h
theorem Jv (w:Int) (n:Int) (e:IntKind.wrap IntKind.i64 (n+1)=n+1):(bif(w+n)%7==0 then some (AV.int .i64 (IntKind.wrap IntKind.i64 (n+1)))else bif(w+n)%7==3 then some (AV.int .i64 (IntKind.wrap IntKind.i64 (n+1)))else bif(w+n)%7==5 then some (AV.int .i64 (IntKind.wrap IntKind.i64 (n+1)))else some (AV.int .i64 n))=some (AV.int .i64 (Kt w n)):=by
 unfold Kt
 rw[e]
 cases (w+n)%7==0<;>cases (w+n)%7==3<;>cases (w+n)%7==5<;>rfl
theorem sH (a0:Int) (hg:bO a0=true):∃F d,run k36 F d 188 Tryz.f188 gK (a0,())=some (gE.enc (fv a0)):=by
 refine⟨200,6,?_⟩
 rw[qY]
 have h':=(ca a0).1 hg
 have hp:=jU h'.1 h'.2
 rw[show cS (-1373427+aL a0/25920)=true from(cO _).2 (by omega),show cS a0=true from(cO _).2 (by omega),wrI (n:=a0-1) (by omega),show cS (a0-1)=true from(cO _).2 (by omega),hg]
 simp only[Bool.true_and,Bool.true_or,XU]
 have e0:IntKind.wrap IntKind.i64 (0+1)=1:=rfl
 have hw:0≤av (-1373427+aL a0/25920)∧av (-1373427+aL a0/25920)<7:=by unfold av;omega
 have hd:(gE.enc (fv a0))=AV.int .i64 (Kt (av (-1373427+aL a0/25920)) (cond (EF a0) 1 0)):=rfl
 rw[hd]
 have hput:EF a0=(decide (aL a0%25920≥19440)||((av (-1373427+aL a0/25920)==2&&(decide (aL a0%25920≥9924)&& !dd a0))||(av (-1373427+aL a0/25920)==1&&(decide (aL a0%25920≥16789)&&dd (a0-1))))):=rfl
 rw[hput]
 clear hput hd
 generalize av (-1373427+aL a0/25920)=w at*
 generalize aL a0%25920=p at*
 rw[e0,wrI (n:=w+0) (by omega),wrI (n:=w+1) (by omega),seven _ (by omega) (by omega),seven _ (by omega) (by omega)]
 have t0:=Jv w 0 rfl
 have t1:=Jv w 1 rfl
 rw[e0]at t0
 rw[t0,t1]
 rw[show decide (p<9924)= !decide (p≥9924) by rw[Bool.eq_iff_iff];simp,show decide (p<16789)= !decide (p≥16789) by rw[Bool.eq_iff_iff];simp]
 simp only[bne]
 cases decide (p≥19440)<;>cases w==2<;>cases w==1<;>cases decide (p≥9924)<;>cases decide (p≥16789)<;>cases dd a0<;>cases dd (a0-1)<;>rfl
theorem sb (a0:Int) (hg:bO a0=true):∃F d,run k37 F d 183 Tryz.f183 gv (a0,())=some (lW.enc (aP a0)):=by
 refine⟨200,6,?_⟩
 rw[qU]
 have h':=(ca a0).1 hg
 have hp:=jU h'.1 h'.2
 have hn:=gB h'.1 h'.2
 rw[hg,wrI (n:= -1373427+aL a0/25920+fv a0) (by omega)]
 rfl
theorem qE (a0:Int) (hg:kv a0=true):∃F d,run k38 F d 184 Tryz.f184 fw (a0,())=some (kL.enc (bu a0)):=by
 refine⟨200,6,?_⟩
 rw[pT]
 have h':1≤a0∧a0≤99999:=by simpa only[kv,XR,XT]using hg
 rw[wrI (n:=a0+1) (by omega),show bO (a0+1)=true from(ca _).2 (by omega),show bO a0=true from(ca _).2 (by omega)]
 have h1:=gB (h:=a0) (by omega) (by omega)
 have h2:=gB (h:=a0+1) (by omega) (by omega)
 rw[wrI (n:=aP (a0+1)-aP a0) (by omega)]
 rfl
theorem MM (h:Int):(bif decide (h<3762)then true else decide (h>9999))= !fM h:=by
 unfold fM inB
 rw[Bool.eq_iff_iff]
 cases h1:decide (h<3762)<;>simp at h1⊢ <;>omega
theorem yz (a0:Int):∃F d,run k39 F d 177 Tryz.f177 kn (a0,())=some (ql.enc (db a0)):=by
 refine⟨200,6,?_⟩
 rw[vH,MM]
 unfold db
 cases hr:fM a0 with
 |false=>rfl
 |true=>
  have:=(cu a0).1 hr
  rw[show bO a0=true from(ca _).2 (by omega)]
  rfl
theorem Ey (a0:Int):∃F d,run k40 F d 178 Tryz.f178 rM (a0,())=some (Ag.enc (AY a0)):=by
 refine⟨200,6,?_⟩
 rw[CZ,MM]
 unfold AY
 cases hr:fM a0 with
 |false=>rfl
 |true=>
  have:=(cu a0).1 hr
  rw[show kv a0=true by simp only[kv,XR,XT];omega]
  rfl
theorem Be (a0:Int) (a1:Int):∃F d,run k41 F d 180 Tryz.f180 nG (a0,a1,())=some (vd.enc (dI a0 a1)):=by
 refine⟨200,6,?_⟩
 rw[y9]
 unfold dI AY
 cases hr:fM a0 with
 |false=>rfl
 |true=>
  have hb:=(cu a0).1 hr
  rw[show cS a0=true from(cO _).2 (by omega)]
  simp only[XU,Bool.true_and,Bool.true_or]
  have e:(bif bif((0:Int) != 0)then true else decide (a1<1)then true else decide (a1>13))= !(decide (1≤a1)&&decide (a1≤13)):=by
   rw[Bool.eq_iff_iff]
   simp only[bne_self_eq_false,XV]
   cases h1:decide (a1<1)<;>simp at h1⊢ <;>omega
  rw[e]
  cases hm:(decide (1≤a1)&&decide (a1≤13))with
  |false=>rfl
  |true=>
   simp only[Bool.not_true,XV,XU,Dc]
   cases dd a0<;>cases h6:a1==6<;>cases h2:a1==2<;>cases h3:a1==3<;>cases h1:a1==1<;>cases h5:a1==5<;>cases h8:a1==8<;>cases h10:a1==10<;>cases h12:a1==12<;>cases (bu a0).tmod 10==5<;>cases (bu a0).tmod 10 != 3<;>rfl
theorem V2 (O0 P0 P1 P2 Q0 v3:Int) (F d:Nat):∀(k:Nat) (h:Int) (n:Nat),fa O0 k h=true→k≤n→
  TX F (d+3) n (Qf O0 P0 P1 P2 h v3)=some (.exit 0,(GC O0 P0 P1 P2 (cT O0 k h) v3)):=by
 intro k
 induction k with
 |zero=>intro h n hr hn;cases hr
 |succ k ih=>
  intro h n hr hn
  obtain⟨n,rfl⟩:∃k,n=k+1:=⟨n-1,by omega⟩
  simp only[fa,XR,Bool.or_eq_true]at hr
  obtain⟨h0,h1⟩:=hr
  have hb:=(cu h).1 h0
  rw[SR]
  have e1:db h=(aP h,0):=by unfold db;rw[h0];rfl
  have e2:AY h=(bu h,0):=by unfold AY;rw[h0];rfl
  have hn1:=gB (h:=h+1) (by omega) (by omega)
  rw[e1,e2]
  dsimp only
  rw[←ff,wrI (n:=aP (h+1)) (by omega),wrI (n:=h+1) (by omega)]
  unfold cT
  cases hd:decide (O0<aP (h+1))with
  |true=>rfl
  |false=>
   rw[hd]at h1
   rw[XV,XV]
   rcases h1 with h1|h1
   ·cases h1
   ·exact ih (h+1) n h1 (by omega)
theorem Ta (O0 P0 P1 P2 Q0 v3:Int) (hg:(fa O0 600 Q0)=true):∃N d,TX N d N (Qf O0 P0 P1 P2 Q0 v3)=some (a7 Prod.mk [] (.exit 0) (GC O0 P0 P1 P2 (cT O0 600 Q0) v3)):=by
 exact⟨700,3,V2 O0 P0 P1 P2 Q0 v3 700 0 600 Q0 700 hg (by omega)⟩
theorem vO (h m:Int):0≤dI h m∧dI h m≤30:=by
 unfold dI
 cases fM h&&(decide (1≤m)&&decide (m≤13))<;>cases m==6&& !dd h<;>cases Dc h m<;>simp
theorem Wh (O0 P0 P1 P2 Q0 R0 R1 R2 S0 U0 v4:Int) (F d:Nat) (hi:inH O0=true):∀(k:Nat) (m f mo da:Int) (n:Nat),(14-m).toNat=k→1≤m→m≤14→0≤f→f≤3000000+30*m→k<n→
  QT F (d+3) n (MX O0 P0 P1 P2 Q0 R0 mo da Q0 f m)=some (cond (ef O0 Q0 k m f mo da).1 (.ret,(H2 O0 P0 P1 P2 Q0 R0 ((ef O0 Q0 k m f mo da).2.1) ((ef O0 Q0 k m f mo da).2.2.1) Q0 ((ef O0 Q0 k m f mo da).2.2.2))) (.exit 0,(GU O0 P0 P1 P2 Q0 R0 ((ef O0 Q0 k m f mo da).2.1) ((ef O0 Q0 k m f mo da).2.2.1) Q0 ((ef O0 Q0 k m f mo da).2.2.2)))):=by
 have hi':249≤O0∧O0<2278651:=by simpa only[inH,XR,XT]using hi
 intro k
 induction k with
 |zero=>
  intro m f mo da n hk h1 h2 h3 h4 hn
  obtain⟨n,rfl⟩:∃k,n=k+1:=⟨n-1,by omega⟩
  rw[MO,decide_eq_false (by omega:¬m≤13)]
  rfl
 |succ k ih=>
  intro m f mo da n hk h1 h2 h3 h4 hn
  obtain⟨n,rfl⟩:∃k,n=k+1:=⟨n-1,by omega⟩
  have hd:=vO Q0 m
  rw[MO,decide_eq_true (by omega:m≤13),XU]
  unfold ef
  rw[wrI (n:=f+dI Q0 m) (by omega),wrI (n:=m+1) (by omega)]
  cases hc:decide (O0<f)with
  |true=>rfl
  |false=>
   rw[wrI (n:=O0-f) (by omega),wrI (n:=O0-f+1) (by omega)]
   rw[XV]
   cases decide (dI Q0 m>0)with
   |true=>
    rw[XU,XU]
    exact ih (m+1) (f+dI Q0 m) m (O0-f+1) n (by omega) (by omega) (by omega) (by omega) (by omega) (by omega)
   |false=>
    rw[XV,XV]
    exact ih (m+1) (f+dI Q0 m) mo da n (by omega) (by omega) (by omega) (by omega) (by omega) (by omega)
theorem Tx (O0 P0 P1 P2 Q0 R0 R1 R2 S0 U0 v4:Int) (hg:(EU O0 Q0 S0 v4 U0)=true):∃N d,QT N d N (MX O0 P0 P1 P2 Q0 R0 R1 R2 S0 U0 v4)=some (a7 Prod.mk [((ef O0 Q0 (14-v4).toNat v4 U0 R1 R2).1, .ret,(H2 O0 P0 P1 P2 Q0 R0 (ef O0 Q0 (14-v4).toNat v4 U0 R1 R2).2.1 (ef O0 Q0 (14-v4).toNat v4 U0 R1 R2).2.2.1 S0 (ef O0 Q0 (14-v4).toNat v4 U0 R1 R2).2.2.2))] (.exit 0) (GU O0 P0 P1 P2 Q0 R0 (ef O0 Q0 (14-v4).toNat v4 U0 R1 R2).2.1 (ef O0 Q0 (14-v4).toNat v4 U0 R1 R2).2.2.1 S0 (ef O0 Q0 (14-v4).toNat v4 U0 R1 R2).2.2.2)):=by
 simp only[EU,XR,beq_iff_eq,XT]at hg
 obtain⟨rfl,h1,h2,h3,h4,h5⟩:=hg
 refine⟨20,3,?_⟩
 have:=Wh O0 P0 P1 P2 Q0 R0 R1 R2 Q0 U0 v4 20 0 h1 (14-v4).toNat v4 U0 R1 R2 20 rfl h2 h3 h4 h5 (by omega)
 rw[this]
 simp only[a7]
theorem Es (a0:Int):∃F d,run k44 F d 175 Tryz.f175 rL (a0,())=some (AG.enc (A6 a0)):=by
 refine⟨200,6,?_⟩
 rw[DD]
 have w1:aP 3762=249:=jD
 have w2:IntKind.wrap IntKind.i64 (aP 9999+bu 9999)=2278651:=by
  rw[←ff,show(9999:Int)+1=10000 from rfl,ly]
  rfl
 rw[w1,w2]
 have hc:(bif decide (a0<249)then true else decide (a0≥2278651))= !inH a0:=by
  unfold inH
  rw[Bool.eq_iff_iff]
  cases h1:decide (a0<249)<;>simp at h1⊢ <;>omega
 rw[hc]
 unfold A6
 cases hi:inH a0 with
 |false=>rfl
 |true=>
  obtain⟨y0,y1,y2,y3,y4,y5,y6⟩:=jv hi
  have hb:249≤a0∧a0<2278651:=by simpa only[inH,XR,XT]using hi
  have hyr:=(cu _).1 y0
  have ew:IntKind.wrap IntKind.i64 (3762+IntKind.wrap IntKind.i64 (Int.tdiv (IntKind.wrap IntKind.i64 (a0-249)) 386))=od a0:=by
   rw[wrI (n:=a0-249) (by omega)]
   have:0≤Int.tdiv (a0-249) 386∧Int.tdiv (a0-249) 386≤10000:=by rw[Int.tdiv_eq_ediv_of_nonneg (by omega)];omega
   rw[wrI (n:=Int.tdiv (a0-249) 386) (by omega),wrI (by omega)]
   rfl
  rw[ew]
  have eh:cT a0 600 (od a0)=aZ a0:=rfl
  have e1:db (aZ a0)=(aP (aZ a0),0):=by unfold db;rw[y0];rfl
  rw[eh,y3,e1]
  have hm:=gV (a:=3762) (b:=aZ a0) (by omega) hyr.1 (by omega)
  rw[w1]at hm
  rw[show EU a0 (aZ a0) (aZ a0) 1 (aP (aZ a0))=true by simp only[EU,hi,beq_self_eq_true,Bool.true_and,XR,XT];omega]
  cases hd:(ef a0 (aZ a0) 13 1 (aP (aZ a0)) 0 0).1<;>simp only[Bool.not_true,XV,XU,Bool.and_self,hd]<;>rfl
end Go.Proofs.YtfhepbbkggdlcaaGreatDoor.Px.PxT
