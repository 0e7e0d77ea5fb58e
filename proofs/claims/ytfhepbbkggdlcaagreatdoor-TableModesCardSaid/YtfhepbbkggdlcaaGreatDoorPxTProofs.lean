/- What is said of functions that other seats have, too. -/
import Derived.Test.YtfhepbbkggdlcaaGreatDoorPxTSteps
import Derived.Test.YtfhepbbkggdlcaaGreatDoorPxIdx
import Derived.Test.YtfhepbbkggdlcaaGreatDoorPxSpecGreg
set_option linter.unusedVariables false
set_option linter.unusedSimpArgs false
namespace Go.Proofs.YtfhepbbkggdlcaaGreatDoor.Px.PxT
open Go Go.Proofs
theorem PI (l0:List (Int)) (l1:List (ag)) (Q0 Q1 Q2 Q4 Q5 Q6 Q7 Q8 Q9 Q10 Q11 Q12 Q13 Q14 Q15 Q16 Q17 Q18 Q19 Q20 Q21 Q22 Q23 Q24 Q25 Q26 Q27 Q28 Q29 Q30 Q31 Q32 Q33 Q34:Int) (Q35 v3:Bool) (v12 v13:Int) (F d:Nat):∀(suf pre:List Int) (v:Bool) (n:Nat),suf.length<n→(pre++suf).length≤1048576→
  BD F (d+3) n (w8 (pre++suf) l1 Q0 Q1 Q2 Q4 Q5 Q6 Q7 Q8 Q9 Q10 Q11 Q12 Q13 Q14 Q15 Q16 Q17 Q18 Q19 Q20 Q21 Q22 Q23 Q24 Q25 Q26 Q27 Q28 Q29 Q30 Q31 Q32 Q33 Q34 Q35 v (((pre++suf).length:Nat):Int) ((pre.length:Nat):Int))=some (.exit 0,(sS (pre++suf) l1 Q0 Q1 Q2 Q4 Q5 Q6 Q7 Q8 Q9 Q10 Q11 Q12 Q13 Q14 Q15 Q16 Q17 Q18 Q19 Q20 Q21 Q22 Q23 Q24 Q25 Q26 Q27 Q28 Q29 Q30 Q31 Q32 Q33 Q34 Q35 (v&&GZ (IntKind.i64.wrap (Q0-1)) pre.getLast? suf))):=by
 intro suf
 induction suf with
 |nil=>
  intro pre v n hn hl
  obtain⟨n,rfl⟩:∃k,n=k+1:=⟨n-1,by omega⟩
  rw[Dh,fh,W2]
  simp[Cw,GZ]
 |cons x suf ih=>
  intro pre v n hn hl
  obtain⟨n,rfl⟩:∃k,n=k+1:=⟨n-1,by omega⟩
  have ih':=ih (pre++[x]) (v&&(inB x 0 (IntKind.i64.wrap (Q0-1))&&(pre.length==0||decide (pre.getLast?.getD 0<x)))) n (by simp at hn;omega) (by simpa using hl)
  have hpl:pre.length+(suf.length+1)≤1048576:=by simpa using hl
  rw[Dh]
  simp only[fI,gw,Bool.and_self,WZ,dB,fF,dc hl]
  rw[←dp]at ih'
  have hacc:(bif bif v then inB x 0 (IntKind.wrap IntKind.i64 (Q0-1))else false then bif((pre.length:Nat):Int)==0 then true else decide (List.getD (pre++x::suf) (0+Int.toNat (IntKind.wrap IntKind.i64 ((pre.length:Int)-1))) 0<x)else false)=(v&&(inB x 0 (IntKind.i64.wrap (Q0-1))&&(pre.length==0||decide (pre.getLast?.getD 0<x)))):=by
   cases v
   ·rfl
   ·cases inB x 0 (IntKind.wrap IntKind.i64 (Q0-1))
    ·rfl
    ·rcases cV pre with rfl|⟨q,p,rfl⟩
     ·simp
     ·rw[IntWalk.i64_in _ (by simp at hpl⊢;omega),IY,RI]
      simp
  rw[hacc]
  have g1:(decide (0≤IntKind.wrap IntKind.i64 ((pre.length:Int)-1))&&decide (IntKind.wrap IntKind.i64 ((pre.length:Int)-1)<(((pre++x::suf).length:Nat):Int))|| !((bif v then inB x 0 (IntKind.wrap IntKind.i64 (Q0-1))else false)&& !((pre.length:Nat):Int)==0))=true:=by
   rcases cV pre with rfl|⟨q,p,rfl⟩
   ·simp
   ·rw[IntWalk.i64_in _ (by simp at hpl⊢;omega)]
    simp
    try omega
  have g2:(decide (0+Int.toNat (IntKind.wrap IntKind.i64 ((pre.length:Int)-1))<(pre++x::suf).length)|| !((bif v then inB x 0 (IntKind.wrap IntKind.i64 (Q0-1))else false)&& !((pre.length:Nat):Int)==0))=true:=by
   rcases cV pre with rfl|⟨q,p,rfl⟩
   ·simp
   ·rw[IntWalk.i64_in _ (by simp at hpl⊢;omega)]
    simp
    try omega
  rw[g1,WZ,g2,WZ]
  rw[ih']
  congr 3
  rcases cV pre with rfl|⟨q,p,rfl⟩
  ·simp[Cw,GZ,Bool.and_assoc]
  ·simp[Cw,GZ,Bool.and_assoc]
theorem La (l0:List (Int)) (l1:List (ag)) (Q0 Q1 Q2 Q4 Q5 Q6 Q7 Q8 Q9 Q10 Q11 Q12 Q13 Q14 Q15 Q16 Q17 Q18 Q19 Q20 Q21 Q22 Q23 Q24 Q25 Q26 Q27 Q28 Q29 Q30 Q31 Q32 Q33 Q34:Int) (Q35 v3:Bool) (v12 v13:Int) (hg:(decide (l0.length≤1048576)&&(v12==(l0.length:Int)&&v13==0))=true):∃N d,BD N d N (w8 l0 l1 Q0 Q1 Q2 Q4 Q5 Q6 Q7 Q8 Q9 Q10 Q11 Q12 Q13 Q14 Q15 Q16 Q17 Q18 Q19 Q20 Q21 Q22 Q23 Q24 Q25 Q26 Q27 Q28 Q29 Q30 Q31 Q32 Q33 Q34 Q35 v3 v12 v13)=some (bb Prod.mk [] (.exit 0) (sS l0 l1 Q0 Q1 Q2 Q4 Q5 Q6 Q7 Q8 Q9 Q10 Q11 Q12 Q13 Q14 Q15 Q16 Q17 Q18 Q19 Q20 Q21 Q22 Q23 Q24 Q25 Q26 Q27 Q28 Q29 Q30 Q31 Q32 Q33 Q34 Q35 (v3&&GZ (IntKind.i64.wrap (Q0-1)) none l0))):=by
 simp only[WW,WY,beq_iff_eq]at hg
 obtain⟨h1,rfl,rfl⟩:=hg
 have:=PI l0 l1 Q0 Q1 Q2 Q4 Q5 Q6 Q7 Q8 Q9 Q10 Q11 Q12 Q13 Q14 Q15 Q16 Q17 Q18 Q19 Q20 Q21 Q22 Q23 Q24 Q25 Q26 Q27 Q28 Q29 Q30 Q31 Q32 Q33 Q34 Q35 v3 0 0 (l0.length+3) 0 l0 [] v3 (l0.length+3) (by omega) (by simpa using h1)
 exact⟨l0.length+3,3,by simpa[bb]using this⟩
theorem SS (l0:List (Int)) (l1:List (ag)) (Q0 Q1 Q2 Q4 Q5 Q6 Q7 Q8 Q9 Q10 Q11 Q12 Q13 Q14 Q15 Q16 Q17 Q18 Q19 Q20 Q21 Q22 Q23 Q24 Q25 Q26 Q27 Q28 Q29 Q30 Q31 Q32 Q33 Q34:Int) (Q35:Bool) (v7 v8:Int) (F d:Nat):∀(suf pre:List ag) (n:Nat),suf.length<n→(pre++suf).length≤1048576→
  Hx F (d+3) n (Dj l0 (pre++suf) Q0 Q1 Q2 Q4 Q5 Q6 Q7 Q8 Q9 Q10 Q11 Q12 Q13 Q14 Q15 Q16 Q17 Q18 Q19 Q20 Q21 Q22 Q23 Q24 Q25 Q26 Q27 Q28 Q29 Q30 Q31 Q32 Q33 Q34 Q35 (((pre++suf).length:Nat):Int) ((pre.length:Nat):Int))=cond (suf.all bj) (some (.exit 0,(xe l0 (pre++suf) Q0 Q1 Q2 Q4 Q5 Q6 Q7 Q8 Q9 Q10 Q11 Q12 Q13 Q14 Q15 Q16 Q17 Q18 Q19 Q20 Q21 Q22 Q23 Q24 Q25 Q26 Q27 Q28 Q29 Q30 Q31 Q32 Q33 Q34 Q35))) (some (.ret,(ym l0 (pre++suf) Q0 Q1 Q2 Q4 Q5 Q6 Q7 Q8 Q9 Q10 Q11 Q12 Q13 Q14 Q15 Q16 Q17 Q18 Q19 Q20 Q21 Q22 Q23 Q24 Q25 Q26 Q27 Q28 Q29 Q30 Q31 Q32 Q33 Q34 Q35 ((pre.length+suf.findIdx (fun w=> !bj w):Nat):Int)))):=by
 intro suf
 induction suf with
 |nil=>
  intro pre n hn hl
  obtain⟨n,rfl⟩:∃k,n=k+1:=⟨n-1,by omega⟩
  rw[EO,fh,W2]
  rfl
 |cons x suf ih=>
  intro pre n hn hl
  obtain⟨n,rfl⟩:∃k,n=k+1:=⟨n-1,by omega⟩
  have ih':=ih (pre++[x]) n (by simp at hn;omega) (by simpa using hl)
  rw[EO]
  simp only[fI,gw,Bool.and_self,WZ,dB,fF,dc hl]
  rw[←dp]at ih'
  cases hw:bj x
  ·have:(ak x != 0)=true:=by simp[ak,hw,dD]
   rw[this,WZ]
   simp[hw,List.findIdx_cons]
  ·have:(ak x != 0)=false:=by simp[ak,hw,dD]
   rw[this,W2,ih']
   simp only[List.all_cons,hw,Bool.true_and,List.findIdx_cons,Bool.not_true,W2,List.length_append,List.length_singleton]
   rw[show pre.length+1+suf.findIdx (fun w=> !bj w)=pre.length+(suf.findIdx (fun w=> !bj w)+1) by omega]
theorem MT (l0:List (Int)) (l1:List (ag)) (Q0 Q1 Q2 Q4 Q5 Q6 Q7 Q8 Q9 Q10 Q11 Q12 Q13 Q14 Q15 Q16 Q17 Q18 Q19 Q20 Q21 Q22 Q23 Q24 Q25 Q26 Q27 Q28 Q29 Q30 Q31 Q32 Q33 Q34:Int) (Q35:Bool) (v7 v8:Int) (hg:(decide (l1.length≤1048576)&&(v7==(l1.length:Int)&&v8==0))=true):∃N d,Hx N d N (Dj l0 l1 Q0 Q1 Q2 Q4 Q5 Q6 Q7 Q8 Q9 Q10 Q11 Q12 Q13 Q14 Q15 Q16 Q17 Q18 Q19 Q20 Q21 Q22 Q23 Q24 Q25 Q26 Q27 Q28 Q29 Q30 Q31 Q32 Q33 Q34 Q35 v7 v8)=some (bb Prod.mk [(l1.all bj, .exit 0,(xe l0 l1 Q0 Q1 Q2 Q4 Q5 Q6 Q7 Q8 Q9 Q10 Q11 Q12 Q13 Q14 Q15 Q16 Q17 Q18 Q19 Q20 Q21 Q22 Q23 Q24 Q25 Q26 Q27 Q28 Q29 Q30 Q31 Q32 Q33 Q34 Q35))] (.ret) (ym l0 l1 Q0 Q1 Q2 Q4 Q5 Q6 Q7 Q8 Q9 Q10 Q11 Q12 Q13 Q14 Q15 Q16 Q17 Q18 Q19 Q20 Q21 Q22 Q23 Q24 Q25 Q26 Q27 Q28 Q29 Q30 Q31 Q32 Q33 Q34 Q35 (C7 l1))):=by
 simp only[WW,WY,beq_iff_eq]at hg
 obtain⟨h1,rfl,rfl⟩:=hg
 have:=SS l0 l1 Q0 Q1 Q2 Q4 Q5 Q6 Q7 Q8 Q9 Q10 Q11 Q12 Q13 Q14 Q15 Q16 Q17 Q18 Q19 Q20 Q21 Q22 Q23 Q24 Q25 Q26 Q27 Q28 Q29 Q30 Q31 Q32 Q33 Q34 Q35 0 0 (l1.length+3) 0 l1 [] (l1.length+3) (by omega) (by simpa using h1)
 refine⟨l1.length+3,3,?_⟩
 simp only[List.nil_append,List.length_nil,Nat.zero_add]at this
 rw[show((0:Nat):Int)=0 from rfl]at this
 rw[this]
 cases h:l1.all bj<;>simp[bb,h,C7]
theorem AA (a0:Bool) (a1:Int):∃F d,run k21 F d 88 Tryz.f88 nd (a0,a1,())=some (uT.enc (dD a0 a1)):=by
 refine⟨200,6,?_⟩
 rw[yB]
 cases a0<;>rfl
theorem Av (a0:Config):∃F d,run k23 F d 57 Tryz.f57 nu (a0,())=some (nB.enc (cC a0)):=by
 refine⟨200,6,?_⟩
 rw[zq]
 simp only[nB,Res.int,cC,EB,fm,qn,Bool.true_and,Bool.and_true,Bool.and_self,WZ,W2,br,cM]
theorem zE (a0:Config) (hg:aY a0=true):∃F d,run k25 F d 58 Tryz.f58 lU (a0,())=some (lM.enc (cA a0)):=by
 refine⟨200,6,?_⟩
 rw[xx]
 simp only[aY,WW,WY]at hg
 simp only[fm,qn,Bool.true_and,Bool.and_true,Bool.and_self,WZ,W2,br,cM,hg.1,decide_true,BEq.rfl]
 simp only[lM,Res.int,cA,GM]
 congr 5
 simp
 omega
theorem vI (a0:Config) (hg:aY a0=true):∃F d,run k29 F d 63 Tryz.f63 jd (a0,())=some (jq.enc (bg a0)):=by
 refine⟨200,6,?_⟩
 rw[uq]
 simp only[aY,WW,WY]at hg
 simp only[fm,qn,Bool.true_and,Bool.and_true,Bool.and_self,WZ,W2,br,cM,hg.2,decide_true,BEq.rfl]
 simp only[jq,Res.int,bg,dD]
 by_cases h:a0.ae.length>16
 ·simp[h,show((a0.ae.length:Nat):Int)>16 by omega]
 ·simp only[h,show¬((a0.ae.length:Nat):Int)>16 by omega,decide_false,W2]
  cases a0.ae.all bj<;>rfl
theorem yM (a0:Config) (hg:aY a0=true):∃F d,run k30 F d 27 Tryz.f27 ln (a0,())=some (lz.enc (af a0)):=by
 refine⟨200,6,?_⟩
 rw[xm]
 simp only[fm,qn,Bool.true_and,Bool.and_true,Bool.and_self,WZ,W2,br,cM,hg]
 simp only[lz,Res.int,af,orE,bne]
 cases h1:(cC a0==0)<;>cases h2:(cA a0==0)<;>cases h3:(bW a0==0)<;>cases h4:(ao a0.aE==0)<;>cases h5:(ax a0.sun==0)<;>cases h6:(bg a0==0)<;>simp_all
theorem vE (a0:Config):∃F d,run k31 F d 9 Tryz.f9 jv (a0,())=some (jb.enc (C2 a0)):=by
 refine⟨200,6,?_⟩
 rw[uj]
 simp only[jb,Res.bool,C2,br]
 refine congrArg (fun b=>some (AV.bool b)) ?_
 rw[Bool.eq_iff_iff]
 simp
 omega
theorem wW (a0:ag):∃F d,run k22 F d 92 Tryz.f92 j7 (a0,())=some (kp.enc (ak a0)):=by
 refine⟨200,6,?_⟩
 rw[wj]
 simp only[kp,Res.int,ak,bj,jX,br,cM,We]
 cases a0.kind==1<;>cases a0.kind==2<;>cases a0.kind==3<;>cases a0.kind==4<;>simp only[WZ,W2,Bool.and_assoc,Bool.true_and,Bool.false_and,Bool.and_false]<;>rfl
theorem yI (a0:Config):∃F d,run k26 F d 59 Tryz.f59 lB (a0,())=some (lH.enc (bW a0)):=by
 refine⟨200,6,?_⟩
 rw[xp]
 simp only[lH,Res.int,bW]
 congr 3
 simp only[u7,lq,inB,br,cM,Bool.cond_eq_ite]
 rw[Bool.eq_iff_iff]
 simp only[WW,WY]
 (repeat' split)<;>simp_all<;>omega
theorem vl (a0:Config) (hg:aY a0=true):∃F d,l6 k32 F d 12 Tryz.f12 je jt (a0,())=some (Oa a0):=by
 refine⟨200,6,?_⟩
 rw[uB]
 simp only[aY,WW,WY]at hg
 have e1:Nat.ble a0.stops.length 1048576=true:=by simpa using hg.1
 have e2:Nat.ble a0.ae.length 1048576=true:=by simpa using hg.2
 simp only[fm,qn,Bool.true_and,Bool.and_true,Bool.and_self,WZ,W2,br,cM,e1,e2,List.nil_append,Oa]
theorem Cp (x a b:Int):(bif decide (x<a)then true else decide (x>b))= !inB x a b:=by
 rw[Bool.eq_iff_iff];simp[inB];try omega
theorem LN (x a b:Int):(bif decide (x>b)then true else decide (x<a))= !inB x a b:=by
 rw[Bool.eq_iff_iff];simp[inB];try omega
theorem bu {x y a b:Int} (hx:inB x a b=true) (hy:inB y a b=true) (h: -10000≤a) (h':b≤10000):IntKind.wrap IntKind.i64 (y-x)=y-x:=by
 rw[bF]at hx hy
 exact IntWalk.i64_in _ (by omega)
theorem Vk (x y:Int):List.getD [x,y] 0 0=x:=rfl
theorem Vf (x y:Int):List.getD [x,y] 1 0=y:=rfl
theorem Jf (x:oi):(oi.month x==0&&(oi.ck x==0&&(oi.weekday x==0&&(oi.minute x==0&&true))))=decide (x=mD):=by
 cases x;rw[Bool.eq_iff_iff];simp[mD]
theorem Tm {x y:Int} (hx:inB x 1 12=true) (hy:inB y 1 12=true):inB (IntKind.wrap IntKind.i64 ((bif decide (y>x)then y else x)-bif decide (y<x)then y else x)) 2 10=inB (apart x y) 2 10:=by
 rw[bF]at hx hy
 unfold apart
 by_cases h:x≤y
 ·by_cases h2:y≤x
  ·have:x=y:=by omega
   subst this
   simp[IntKind.wrap,IntKind.bits,IntKind.signed,inB]
  ·simp only[show y>x by omega,show¬y<x by omega,decide_true,decide_false,WZ,W2,if_pos h]
   rw[IntWalk.i64_in _ (by omega)]
 ·simp only[show¬y>x by omega,show y<x by omega,decide_true,decide_false,WZ,W2,if_neg h]
  rw[IntWalk.i64_in _ (by omega)]
theorem BP (a0:a8):∃F d,run k12 F d 51 Tryz.f51 pt (a0,())=some (oT.enc (ao a0)):=by
 refine⟨200,6,?_⟩
 rw[Az]
 simp only[oT,Res.int,ao,ka,gL,Jf]
 cases h1:inB a0.base (-720) 840
 ·rfl
 cases h2:inB a0.shift 0 120
 ·rfl
 have h2':=bF.1 h2
 by_cases h3:a0.shift=0
 ·simp only[h3,show decide ((0:Int)>0)=false from rfl,show((0:Int)==0)=true from rfl]
  cases decide (a0.on=mD)<;>cases decide (a0.off=mD)<;>rfl
 ·have e1:decide (a0.shift>0)=true:=by simp;omega
  have e2:(a0.shift==0)=false:=by simp;omega
  rw[e1,e2]
  cases g1:inB a0.on.month 1 12
  ·rfl
  cases g2:inB a0.on.ck 1 5
  ·rfl
  cases g3:inB a0.on.weekday 0 6
  ·rfl
  cases g4:inB a0.on.minute 0 1439
  ·rfl
  cases g5:inB a0.off.month 1 12
  ·rfl
  cases g6:inB a0.off.ck 1 5
  ·rfl
  cases g7:inB a0.off.weekday 0 6
  ·rfl
  cases g8:inB a0.off.minute 0 1439
  ·rfl
  rw[Tm g1 g5]
  cases inB (apart a0.on.month a0.off.month) 2 10<;>rfl
theorem yN (a0:Sun):∃F d,run k27 F d 62 Tryz.f62 lY (a0,())=some (lI.enc (ax a0)):=by
 refine⟨200,6,?_⟩
 rw[wY]
 simp only[lI,Res.int,ax,gH,List.all_cons,List.all_nil,G2,List.cons_append,List.nil_append,Cp,Vk,Vf]
 cases h0:inB a0.m0 900 1320
 ·rfl
 cases h1:inB a0.m1 900 1320
 ·rfl
 cases h2:inB a0.m2 900 1320
 ·rfl
 cases h3:inB a0.m3 900 1320
 ·rfl
 cases h4:inB a0.m4 900 1320
 ·rfl
 cases h5:inB a0.m5 900 1320
 ·rfl
 cases h6:inB a0.m6 900 1320
 ·rfl
 cases h7:inB a0.m7 900 1320
 ·rfl
 cases h8:inB a0.m8 900 1320
 ·rfl
 cases h9:inB a0.m9 900 1320
 ·rfl
 cases h10:inB a0.m10 900 1320
 ·rfl
 cases h11:inB a0.m11 900 1320
 ·rfl
 simp only[bu h0 h1 (by omega) (by omega),bu h1 h2 (by omega) (by omega),bu h2 h3 (by omega) (by omega),bu h3 h4 (by omega) (by omega),bu h4 h5 (by omega) (by omega),bu h5 h6 (by omega) (by omega),bu h6 h7 (by omega) (by omega),bu h7 h8 (by omega) (by omega),bu h8 h9 (by omega) (by omega),bu h9 h10 (by omega) (by omega),bu h10 h11 (by omega) (by omega),bu h11 h0 (by omega) (by omega),LN]
 cases inB (a0.m1-a0.m0) (-120) 120
 ·rfl
 cases inB (a0.m2-a0.m1) (-120) 120
 ·rfl
 cases inB (a0.m3-a0.m2) (-120) 120
 ·rfl
 cases inB (a0.m4-a0.m3) (-120) 120
 ·rfl
 cases inB (a0.m5-a0.m4) (-120) 120
 ·rfl
 cases inB (a0.m6-a0.m5) (-120) 120
 ·rfl
 cases inB (a0.m7-a0.m6) (-120) 120
 ·rfl
 cases inB (a0.m8-a0.m7) (-120) 120
 ·rfl
 cases inB (a0.m9-a0.m8) (-120) 120
 ·rfl
 cases inB (a0.m10-a0.m9) (-120) 120
 ·rfl
 cases inB (a0.m11-a0.m10) (-120) 120
 ·rfl
 cases inB (a0.m0-a0.m11) (-120) 120
 ·rfl
 rfl
end Go.Proofs.YtfhepbbkggdlcaaGreatDoor.Px.PxT


namespace Go.Proofs.YtfhepbbkggdlcaaGreatDoor.Px.PxT
open Go Go.Proofs
theorem LL {a b K:Int} (hb:1≤b) (h0:0≤K) (h1: -K≤a) (h2:a≤K): -K≤a/b∧a/b≤K:=by
 have hm:K*1≤K*b:=Int.mul_le_mul_of_nonneg_left hb h0
 constructor
 ·rw[Int.le_ediv_iff_mul_le (by omega),Int.neg_mul]
  omega
 ·apply Int.ediv_le_of_le_mul (by omega)
  omega
theorem Ga (a0:Int) (a1:Int) (hg:bz a0 a1=true):∃F d,run k2 F d 78 Tryz.f78 wi (a0,a1,())=some (DH.enc (LK a0 a1)):=by
 refine⟨200,6,?_⟩
 rw[D2]
 simp only[bz,byB,big,WW,WY]at hg
 have e1:decide (a1<1)=false:=by simp;omega
 have e2:(a1 != 0)=true:=by rw[bne_iff_ne];omega
 obtain⟨d1,d2,d3,d4⟩:=yu (a:=a0) (b:=a1) (by omega)
 obtain⟨q1,q2⟩:=LL (a:=a0) (b:=a1) (K:=1000000000000) (by omega) (by omega) (by omega) (by omega)
 simp only[e1,e2,WZ,W2]
 by_cases h:a0.tmod a1<0
 ·obtain⟨f1,f2⟩:=d1 h
  rw[decide_eq_true h,WZ,wrI (n:=a0.tdiv a1) (by omega),wrI (by omega),←f1]
  rfl
 ·obtain⟨f1,f2⟩:=d2 (by omega)
  rw[decide_eq_false h,W2,wrI (n:=a0.tdiv a1) (by omega),←f1]
  rfl
theorem FL (a0:Int) (a1:Int) (hg:bz a0 a1=true):∃F d,run k3 F d 128 Tryz.f128 wg (a0,a1,())=some (BS.enc (Lz a0 a1)):=by
 refine⟨200,6,?_⟩
 rw[D0]
 simp only[bz,byB,big,WW,WY]at hg
 have e1:decide (a1<1)=false:=by simp;omega
 have e2:(a1 != 0)=true:=by rw[bne_iff_ne];omega
 obtain⟨d1,d2,d3,d4⟩:=yu (a:=a0) (b:=a1) (by omega)
 simp only[e1,e2,WZ,W2]
 by_cases h:a0.tmod a1<0
 ·obtain⟨f1,f2⟩:=d1 h
  rw[decide_eq_true h,WZ,wrI (by omega),←f2]
  rfl
 ·obtain⟨f1,f2⟩:=d2 (by omega)
  rw[decide_eq_false h,W2,←f2]
  rfl
theorem E7 {a b r:Int} (hb:1≤b) (h0:0≤r) (h1:r<b):(r-a%b)%b=(if r-a%b≥0 then r-a%b else r-a%b+b)∧0≤(r-a%b)%b∧(r-a%b)%b<b:=by
 have e2:=Int.emod_nonneg a (show b≠0 by omega)
 have e3:=Int.emod_lt_of_pos a (show 0<b by omega)
 refine⟨?_,Int.emod_nonneg _ (by omega),Int.emod_lt_of_pos _ (by omega)⟩
 split
 ·exact Int.emod_eq_of_lt (by omega) (by omega)
 ·rw[←Int.add_emod_right,Int.emod_eq_of_lt (by omega) (by omega)]
theorem Em (a0:Int) (a1:Int) (a2:Int) (hg:yW a0 a1 a2=true):∃F d,run k4 F d 119 Tryz.f119 sI (a0,a1,a2,())=some (zP.enc (Ja a0 a1 a2)):=by
 refine⟨200,6,?_⟩
 rw[B1]
 simp only[yW,WW,WY]at hg
 obtain⟨hd,hr0,hr1⟩:=hg
 have hd':=hd
 simp only[bz,byB,big,WW,WY]at hd'
 obtain⟨n1,n2,n3⟩:=E7 (a:=a0) (b:=a1) (r:=a2) (by omega) hr0 hr1
 have e2:=Int.emod_nonneg a0 (show a1≠0 by omega)
 have e3:=Int.emod_lt_of_pos a0 (show 0<a1 by omega)
 have g1:(bif decide (a2<0)then true else decide (a2≥a1))=false:=by
  have:decide (a2<0)=false:=by simp;omega
  rw[this,W2];simp;omega
 rw[hd,g1]
 simp only[Bool.and_self,Bool.true_and,WZ,W2]
 rw[wrI (n:=a2-a0%a1) (by omega)]
 by_cases h:a2-a0%a1≥0
 ·rw[if_pos h]at n1
  have g2:decide (a0>9223372036854775807-(a2-a0%a1))=false:=by simp;omega
  rw[decide_eq_true h,WZ,wrI (n:=9223372036854775807-(a2-a0%a1)) (by omega),g2,W2,wrI (by omega),←n1]
  rfl
 ·rw[if_neg h]at n1
  rw[decide_eq_false h,W2,wrI (n:=a2-a0%a1+a1) (by omega),wrI (n:=9223372036854775807-(a2-a0%a1+a1)) (by omega)]
  have g2:decide (a0>9223372036854775807-(a2-a0%a1+a1))=false:=by simp;omega
  rw[g2,W2,wrI (by omega),←n1]
  rfl
theorem D1 (a0:Int):∃F d,run k5 F d 87 Tryz.f87 rY (a0,())=some (rT.enc (dR a0)):=by
 refine⟨200,6,?_⟩
 rw[Cb]
 simp only[rT,Res.bool,dR]
 cases Int.tmod a0 4==0<;>cases Int.tmod a0 100 != 0<;>rfl
theorem DY (a0:Int) (a1:Int):∃F d,run k6 F d 54 Tryz.f54 sn (a0,a1,())=some (sm.enc (ai a0 a1)):=by
 refine⟨200,6,?_⟩
 rw[Da]
 simp only[sm,Res.int,ai]
 have hc:(bif bif bif decide (a0<1)then true else decide (a0>9999)then true else decide (a1<1)then true else decide (a1>12))= !bk a0 a1:=by
  rw[Bool.eq_iff_iff]
  by_cases h1:a0<1<;>by_cases h2:a0>9999<;>by_cases h3:a1<1<;>by_cases h4:a1>12<;>simp[bk,h1,h2,h3,h4]<;>omega
 rw[hc]
 cases hm:bk a0 a1 with
 |false=>rfl
 |true=>
  simp only[bk,WW,WY]at hm
  simp only[Bool.not_true,W2,WZ]
  rw[show(bif a1==2 then dR a0 else false)=(a1==2&&dR a0) by cases a1==2<;>rfl]
  cases (a1==2&&dR a0)with
  |true=>rfl
  |false=>
   simp only[W2]
   rw[wrI (n:=a1-1) (by omega)]
   have g1:decide (0≤a1-1)=true:=by simp;omega
   have g2:decide (a1-1<((12:Nat):Int))=true:=by simp;omega
   have g3:Nat.ble (0+Int.toNat (a1-1)*1+1) 12=true:=by simp;omega
   rw[g1,g2,Bool.and_self,WZ,g3,WZ,Nat.zero_add,Nat.mul_one]
   rfl
theorem CI (a0:Int):∃F d,run k7 F d 56 Tryz.f56 pr (a0,())=some (xF.enc (Rg a0)):=by
 refine⟨200,6,?_⟩
 rw[AJ]
 have k:∀n:Nat,n<12→IntKind.wrap IntKind.i64 (aF a0 n+ai a0 ((n:Int)+1))=aF a0 (n+1):=fun n hn=>by
  have h1:=dL a0 n
  have h2:=dr a0 ((n:Int)+1)
  exact wrI (by omega)
 have w:∀n:Int,0≤n→n≤20→IntKind.wrap IntKind.i64 (n+1)=n+1:=fun n h1 h2=>wrI (by omega)
 have m1:IntKind.wrap IntKind.i64 (1+1)=2:=rfl
 have m2:IntKind.wrap IntKind.i64 (2+1)=3:=rfl
 have m3:IntKind.wrap IntKind.i64 (3+1)=4:=rfl
 have m4:IntKind.wrap IntKind.i64 (4+1)=5:=rfl
 have m5:IntKind.wrap IntKind.i64 (5+1)=6:=rfl
 have m6:IntKind.wrap IntKind.i64 (6+1)=7:=rfl
 have m7:IntKind.wrap IntKind.i64 (7+1)=8:=rfl
 have m8:IntKind.wrap IntKind.i64 (8+1)=9:=rfl
 have m9:IntKind.wrap IntKind.i64 (9+1)=10:=rfl
 have m10:IntKind.wrap IntKind.i64 (10+1)=11:=rfl
 have m11:IntKind.wrap IntKind.i64 (11+1)=12:=rfl
 have s0:IntKind.wrap IntKind.i64 (0+ai a0 1)=aF a0 1:=k 0 (by omega)
 have s1:IntKind.wrap IntKind.i64 (aF a0 1+ai a0 2)=aF a0 2:=k 1 (by omega)
 have s2:IntKind.wrap IntKind.i64 (aF a0 2+ai a0 3)=aF a0 3:=k 2 (by omega)
 have s3:IntKind.wrap IntKind.i64 (aF a0 3+ai a0 4)=aF a0 4:=k 3 (by omega)
 have s4:IntKind.wrap IntKind.i64 (aF a0 4+ai a0 5)=aF a0 5:=k 4 (by omega)
 have s5:IntKind.wrap IntKind.i64 (aF a0 5+ai a0 6)=aF a0 6:=k 5 (by omega)
 have s6:IntKind.wrap IntKind.i64 (aF a0 6+ai a0 7)=aF a0 7:=k 6 (by omega)
 have s7:IntKind.wrap IntKind.i64 (aF a0 7+ai a0 8)=aF a0 8:=k 7 (by omega)
 have s8:IntKind.wrap IntKind.i64 (aF a0 8+ai a0 9)=aF a0 9:=k 8 (by omega)
 have s9:IntKind.wrap IntKind.i64 (aF a0 9+ai a0 10)=aF a0 10:=k 9 (by omega)
 have s10:IntKind.wrap IntKind.i64 (aF a0 10+ai a0 11)=aF a0 11:=k 10 (by omega)
 have s11:IntKind.wrap IntKind.i64 (aF a0 11+ai a0 12)=aF a0 12:=k 11 (by omega)
 simp only[m1,m2,m3,m4,m5,m6,m7,m8,m9,m10,m11,s0,s1,s2,s3,s4,s5,s6,s7,s8,s9,s10,s11]
 rfl
theorem AH (a0:Int) (hg:pV a0=true):∃F d,run k8 F d 55 Tryz.f55 nC (a0,())=some (nE.enc (aG a0)):=by
 refine⟨200,6,?_⟩
 rw[yY]
 simp only[pV,WW,WY]at hg
 simp only[nE,Res.int,aG]
 have t4:Int.tdiv (a0-1) 4=(a0-1)/4:=Int.tdiv_eq_ediv_of_nonneg (by omega)
 have t100:Int.tdiv (a0-1) 100=(a0-1)/100:=Int.tdiv_eq_ediv_of_nonneg (by omega)
 have t400:Int.tdiv (a0-1) 400=(a0-1)/400:=Int.tdiv_eq_ediv_of_nonneg (by omega)
 rw[wrI (n:=a0-1) (by omega),t4,t100,t400,wrI (n:=365*(a0-1)) (by omega),wrI (n:=(a0-1)/4) (by omega),wrI (n:=(a0-1)/100) (by omega),wrI (n:=(a0-1)/400) (by omega),
  wrI (n:=365*(a0-1)+(a0-1)/4) (by omega),wrI (n:=365*(a0-1)+(a0-1)/4-(a0-1)/100) (by omega),wrI (by omega)]
theorem SN {y:Int} {k:Nat} (h:k<13):cT [0,aF y 1,aF y 2,aF y 3,aF y 4,aF y 5,aF y 6,aF y 7,aF y 8,aF y 9,aF y 10,aF y 11,aF y 12] k=aF y k:=by
 have:k=0∨k=1∨k=2∨k=3∨k=4∨k=5∨k=6∨k=7∨k=8∨k=9∨k=10∨k=11∨k=12:=by omega
 rcases this with rfl|rfl|rfl|rfl|rfl|rfl|rfl|rfl|rfl|rfl|rfl|rfl|rfl<;>rfl
theorem Gm (a0:Date):∃F d,run k9 F d 25 Tryz.f25 vM (a0,())=some (CE.enc (tU a0)):=by
 refine⟨200,6,?_⟩
 rw[Ek]
 unfold tU
 rw[show(bif decide (a0.day<1)then true else decide (a0.day>ai a0.year a0.month))=(decide (a0.day<1)||decide (a0.day>ai a0.year a0.month)) by cases decide (a0.day<1)<;>rfl]
 cases hb:(decide (a0.day<1)||decide (a0.day>ai a0.year a0.month))with
 |true=>rfl
 |false=>
  simp only[Bool.or_eq_false_iff,decide_eq_false_iff_not]at hb
  obtain⟨r1,r2,r3⟩:=dr a0.year a0.month
  obtain⟨y1,y2,m1,m2⟩:=r3 (by omega)
  have hy:pV a0.year=true:=by simp only[pV,WW,WY];omega
  have hbf:=cW (y:=a0.year) y1 (by omega)
  have hs:=dL a0.year (a0.month-1).toNat
  rw[hy,wrI (n:=a0.month-1) (by omega)]
  have g1:decide (0≤a0.month-1)=true:=by simp;omega
  have g2:decide (a0.month-1<((13:Nat):Int))=true:=by simp;omega
  simp only[g1,g2,Bool.and_self,Bool.true_and,WZ,W2,Nat.mul_one]
  rw[SN (by omega),wrI (n:=aG a0.year+aF a0.year (a0.month-1).toNat) (by omega),wrI (by omega)]
  rfl
theorem HF (a0:Int):∃F d,run k10 F d 79 Tryz.f79 zp (a0,())=some (EM.enc (ofG a0)):=by
 refine⟨200,6,?_⟩
 rw[FM]
 unfold ofG
 rw[show(bif decide (a0<1)then true else decide (a0>3652059))=(decide (a0<1)||decide (a0>3652059)) by cases decide (a0<1)<;>rfl]
 cases hb:(decide (a0<1)||decide (a0>3652059))with
 |true=>rfl
 |false=>
  simp only[Bool.or_eq_false_iff,decide_eq_false_iff_not]at hb
  obtain⟨y1,y2,l1,l2,_⟩:=mA (n:=a0) (by omega) (by omega)
  have w:∀s:Int,(0≤s∧s≤1000)→IntKind.wrap IntKind.i64 (IntKind.wrap IntKind.i64 (lfG a0-s)+1)=lfG a0-s+1:=fun s hs=>by
   rw[wrI (n:=lfG a0-s) (by omega),wrI (by omega)]
  have hs:∀k:Nat,k≤12→0≤aF (yrG a0) k∧aF (yrG a0) k≤1000:=fun k hk=>by have:=dL (yrG a0) k;omega
  simp only[w 0 (by omega),w _ (hs 1 (by omega)),w _ (hs 2 (by omega)),w _ (hs 3 (by omega)),w _ (hs 4 (by omega)),w _ (hs 5 (by omega)),w _ (hs 6 (by omega)),w _ (hs 7 (by omega)),w _ (hs 8 (by omega)),w _ (hs 9 (by omega)),w _ (hs 10 (by omega)),w _ (hs 11 (by omega)),W2]
  unfold oo
  simp only[nN]
  cases h1:decide (lfG a0<aF (yrG a0) 1)with
  |true=>simp only[h1,WZ,W2,WZ];rfl
  |false=>
   cases h2:decide (lfG a0<aF (yrG a0) 2)with
   |true=>simp only[h2,WZ,W2,h1];rfl
   |false=>
    cases h3:decide (lfG a0<aF (yrG a0) 3)with
    |true=>simp only[h3,WZ,W2,h1,h2];rfl
    |false=>
     cases h4:decide (lfG a0<aF (yrG a0) 4)with
     |true=>simp only[h4,WZ,W2,h1,h2,h3];rfl
     |false=>
      cases h5:decide (lfG a0<aF (yrG a0) 5)with
      |true=>simp only[h5,WZ,W2,h1,h2,h3,h4];rfl
      |false=>
       cases h6:decide (lfG a0<aF (yrG a0) 6)with
       |true=>simp only[h6,WZ,W2,h1,h2,h3,h4,h5];rfl
       |false=>
        cases h7:decide (lfG a0<aF (yrG a0) 7)with
        |true=>simp only[h7,WZ,W2,h1,h2,h3,h4,h5,h6];rfl
        |false=>
         cases h8:decide (lfG a0<aF (yrG a0) 8)with
         |true=>simp only[h8,WZ,W2,h1,h2,h3,h4,h5,h6,h7];rfl
         |false=>
          cases h9:decide (lfG a0<aF (yrG a0) 9)with
          |true=>simp only[h9,WZ,W2,h1,h2,h3,h4,h5,h6,h7,h8];rfl
          |false=>
           cases h10:decide (lfG a0<aF (yrG a0) 10)with
           |true=>simp only[h10,WZ,W2,h1,h2,h3,h4,h5,h6,h7,h8,h9];rfl
           |false=>
            cases h11:decide (lfG a0<aF (yrG a0) 11)with
            |true=>simp only[h11,WZ,W2,h1,h2,h3,h4,h5,h6,h7,h8,h9,h10];rfl
            |false=>
             simp only[h1,h2,h3,h4,h5,h6,h7,h8,h9,h10,h11,WZ,W2];rfl
theorem QX {y m:Int} (h:ai y m≠0):tU ⟨y,m,1⟩=(aM y m,0)∧1≤aM y m∧aM y m≤3800000∧1≤ai y m∧ai y m≤31:=by
 obtain⟨r1,r2,r3⟩:=dr y m
 obtain⟨y1,y2,m1,m2⟩:=r3 h
 have hbf:=cW (y:=y) y1 (by omega)
 have hs:=dL y (m-1).toNat
 have e1:decide ((1:Int)<1)=false:=rfl
 have e2:decide ((1:Int)>ai y m)=false:=by simp;omega
 refine⟨?_,by unfold aM;omega,by unfold aM;omega,by omega,r2⟩
 unfold tU
 simp only[e1,e2,Bool.or_self,W2,aM]
theorem CW {y m w:Int} (h:ai y m≠0) (hw0:0≤w) (hw1:w≤6):aM y m≤cw y m w∧cw y m w≤aM y m+6:=by
 have:=E7 (a:=aM y m) (b:=7) (r:=w) (by omega) hw0 (by omega)
 unfold cw
 omega
theorem F7 (a0:Int) (a1:Int) (a2:Int) (a3:Int):∃F d,run k11 F d 106 Tryz.f106 vd (a0,a1,a2,a3,())=some (B3.enc (kd a0 a1 a2 a3)):=by
 refine⟨200,6,?_⟩
 rw[D3]
 unfold kd
 cases hd:ai a0 a1==0 with
 |true=>rfl
 |false=>
  have hd0:ai a0 a1≠0:=by simpa using hd
  obtain⟨f0,f1,f2,f3,f4⟩:=QX hd0
  rw[W2,W2]
  rw[show(bif bif decide (a2<0)then true else decide (a2>6)then true else bif a3 != -1 then bif decide (a3<1)then true else decide (a3>5)else false)=dI a2 a3 by
   unfold dI
   cases decide (a2<0)<;>cases decide (a2>6)<;>cases (a3 != -1)<;>cases decide (a3<1)<;>rfl]
  cases hb:dI a2 a3 with
  |true=>rfl
  |false=>
   simp only[dI,Bool.or_eq_false_iff,Bool.and_eq_false_iff,decide_eq_false_iff_not,bne_eq_false_iff_eq]at hb
   obtain⟨⟨w0,w1⟩,hk⟩:=hb
   have hk':a3= -1∨(1≤a3∧a3≤5):=by
    rcases hk with h|⟨h1,h2⟩
    ·exact .inl h
    ·exact .inr (by omega)
   obtain⟨g1,g2⟩:=CW hd0 (w:=a2) (by omega) (by omega)
   have ho:yW (aM a0 a1) 7 a2=true:=by simp only[yW,bz,byB,big,WW,WY];omega
   have hfr:aM a0 a1+(a2-aM a0 a1%7)%7=cw a0 a1 a2:=rfl
   simp only[f0,ho,hfr,Bool.and_self,Bool.true_and,WZ,W2]
   cases h1:a3== -1 with
   |true=>
    rw[WZ,WZ]
    rw[wrI (n:=aM a0 a1+ai a0 a1) (by omega),wrI (n:=aM a0 a1+ai a0 a1-1) (by omega),wrI (n:=aM a0 a1+ai a0 a1-1-cw a0 a1 a2) (by omega)]
    have hq:Int.tdiv (aM a0 a1+ai a0 a1-1-cw a0 a1 a2) 7=(aM a0 a1+ai a0 a1-1-cw a0 a1 a2)/7:=by
     apply Int.tdiv_eq_ediv_of_nonneg
     have:=q7 hd0
     omega
    rw[hq,wrI (n:=(aM a0 a1+ai a0 a1-1-cw a0 a1 a2)/7) (by omega),wrI (n:=(aM a0 a1+ai a0 a1-1-cw a0 a1 a2)/7*7) (by omega),wrI (by omega)]
    rfl
   |false=>
    have hk2:1≤a3∧a3≤5:=by
     rcases hk' with h|h
     ·rw[h]at h1;cases h1
     ·exact h
    rw[W2,W2]
    rw[wrI (n:=a3-1) (by omega),wrI (n:=7*(a3-1)) (by omega),wrI (n:=cw a0 a1 a2+7*(a3-1)) (by omega),wrI (n:=aM a0 a1+ai a0 a1) (by omega)]
    cases decide (cw a0 a1 a2+7*(a3-1)≥aM a0 a1+ai a0 a1)<;>rfl
theorem Ep (y m w k:Int):0≤(kd y m w k).1∧(kd y m w k).1≤4000000:=by
 unfold kd
 cases hd:ai y m==0 with
 |true=>simp
 |false=>
  have hd0:ai y m≠0:=by simpa using hd
  obtain⟨f0,f1,f2,f3,f4⟩:=QX hd0
  rw[W2]
  cases hb:dI w k with
  |true=>simp
  |false=>
   simp only[dI,Bool.or_eq_false_iff,Bool.and_eq_false_iff,decide_eq_false_iff_not,bne_eq_false_iff_eq]at hb
   obtain⟨⟨w0,w1⟩,hk⟩:=hb
   obtain⟨g1,g2⟩:=CW hd0 (w:=w) (by omega) (by omega)
   rw[W2]
   cases h1:k== -1 with
   |true=>
    have:=q7 hd0
    simp only[WZ]
    omega
   |false=>
    have hk2:1≤k∧k≤5:=by
     rcases hk with h|⟨h1',h2⟩
     ·rw[h]at h1;cases h1
     ·omega
    simp only[W2]
    cases decide (cw y m w+7*(k-1)≥aM y m+ai y m)
    ·simp only[W2];omega
    ·simp
theorem DZ (a0:a8) (a1:oi) (a2:Int) (hg:dX a0 a1 a2=true):∃F d,run k13 F d 84 Tryz.f84 sc (a0,a1,a2,())=some (rZ.enc (bU a0 a1 a2)):=by
 refine⟨200,6,?_⟩
 rw[Cg]
 simp only[dX,lit,WW,WY]at hg
 simp only[rZ,Res.int,bU]
 have w:∀k,IntKind.wrap IntKind.i64 (IntKind.wrap IntKind.i64 (IntKind.wrap IntKind.i64 ((kd a2 a1.month a1.weekday k).1*1440)+a1.minute)-a0.base)=(kd a2 a1.month a1.weekday k).1*1440+a1.minute-a0.base:=fun k=>by
  have:=Ep a2 a1.month a1.weekday k
  rw[wrI (n:=(kd a2 a1.month a1.weekday k).1*1440) (by omega),wrI (n:=(kd a2 a1.month a1.weekday k).1*1440+a1.minute) (by omega),wrI (by omega)]
 rw[w,w]
 cases a1.ck==5<;>rfl
theorem PR (t a b:Int):(bif bif bif decide (a<b)then decide (a≤t)else false then decide (t<b)else false then true else bif decide (b<a)then bif decide (t<b)then true else decide (a≤t)else false)=J8 t a b:=by
 unfold J8
 cases decide (a<b)<;>cases decide (a≤t)<;>cases decide (t<b)<;>cases decide (b<a)<;>rfl
theorem BN (a0:a8) (a1:Int) (hg:cP a0 a1=true):∃F d,run k14 F d 47 Tryz.f47 oW (a0,a1,())=some (o7.enc (bD a0 a1)):=by
 refine⟨200,6,?_⟩
 rw[AD]
 simp only[cP,iK,WW]at hg
 obtain⟨⟨b1,b2,b3⟩,b4⟩:=hg
 have b1':=b1
 simp only[lit,mid,WW,WY]at b1' b4
 simp only[o7,Res.int,bD]
 cases h0:a0.shift==0 with
 |true=>rfl
 |false=>
  have w:IntKind.wrap IntKind.i64 (a1+a0.base)=a1+a0.base:=wrI (by omega)
  have ho:bz (a1+a0.base) 1440=true:=by simp only[bz,byB,big,WW,WY];omega
  have k1:∀y,dX a0 a0.on y=true:=fun y=>by simp only[dX,b1,b2,Bool.and_self]
  have k2:∀y,dX a0 a0.off y=true:=fun y=>by simp only[dX,b1,b3,Bool.and_self]
  have hy:(ofG ((a1+a0.base)/1440)).1.year=cG a0 a1:=rfl
  simp only[w,ho,k1,k2,hy,Bool.and_self,Bool.true_and,WZ,W2,PR]
  cases J8 a1 (bU a0 a0.on (cG a0 a1)) (bU a0 a0.off (cG a0 a1))<;>rfl
theorem KR {z:a8} (h:ao z=0):(-720≤z.base∧z.base≤840)∧(0≤z.shift∧z.shift≤120)∧iK z=true∧(z.shift≠0→ka z=true):=by
 unfold ao at h
 cases h1:inB z.base (-720) 840 with
 |false=>rw[h1]at h;simp at h
 |true=>
  rw[h1,WZ]at h
  cases h2:inB z.shift 0 120 with
  |false=>rw[h2]at h;simp at h
  |true=>
   rw[h2,WZ]at h
   rw[bF]at h1 h2
   by_cases h3:z.shift=0
   ·rw[h3]at h
    simp only[beq_self_eq_true,WZ]at h
    cases h4:(decide (z.on=mD)&&decide (z.off=mD))with
    |false=>rw[h4]at h;simp at h
    |true=>
     simp only[WW,WY]at h4
     refine⟨h1,h2,?_,fun hne=>absurd h3 hne⟩
     simp only[iK,lit,h4.1,h4.2,mD,WW,WY]
     omega
   ·have e:(z.shift==0)=false:=by rw[beq_eq_false_iff_ne];exact h3
    rw[e,W2]at h
    cases h4:ka z with
    |false=>rw[h4]at h;simp at h
    |true=>
     refine⟨h1,h2,?_,fun _=>rfl⟩
     simp only[ka,gL,WW,bF]at h4
     simp only[iK,lit,WW,WY]
     omega
theorem yr (a0:a8) (a1:Int) (a2:Int):∃F d,l6 k15 F d 53 Tryz.f53 j6 kf (a0,a1,a2,())=some (qd a0 a1 a2):=by
 refine⟨200,6,?_⟩
 rw[vh]
 unfold qd
 cases hz:ao a0 != 0 with
 |true=>rfl
 |false=>
  have hz0:ao a0=0:=by simpa using hz
  obtain⟨p1,p2,p3,_⟩:=KR hz0
  rw[W2,W2]
  rw[show(bif !inB a1 401 3651998 then true else !inB a2 0 1439)=(!inB a1 401 3651998|| !inB a2 0 1439) by cases inB a1 401 3651998<;>rfl]
  cases hb:(!inB a1 401 3651998|| !inB a2 0 1439)with
  |true=>rfl
  |false=>
   simp only[Bool.or_eq_false_iff,Bool.not_eq_false']at hb
   rw[bF,bF]at hb
   rw[W2,W2]
   have w1:IntKind.wrap IntKind.i64 (a1*1440)=a1*1440:=wrI (by omega)
   have w2:IntKind.wrap IntKind.i64 (a1*1440+a2)=a1*1440+a2:=wrI (by omega)
   have w3:IntKind.wrap IntKind.i64 (a1*1440+a2-a0.base)=a1*1440+a2-a0.base:=wrI (by omega)
   have w4:IntKind.wrap IntKind.i64 (a1*1440+a2-a0.base-a0.shift)=a1*1440+a2-a0.base-a0.shift:=wrI (by omega)
   have o1:cP a0 (a1*1440+a2-a0.base)=true:=by simp only[cP,p3,mid,Bool.true_and,WW,WY];omega
   have o2:cP a0 (a1*1440+a2-a0.base-a0.shift)=true:=by simp only[cP,p3,mid,Bool.true_and,WW,WY];omega
   simp only[w1,w2,w3,w4,o1,o2,Bool.and_self,Bool.true_and,Bool.true_or,WZ]
   rw[show(bif decide (a0.shift>0)then decide (bD a0 (a1*1440+a2-a0.base-a0.shift)>0)else false)=(decide (a0.shift>0)&&decide (bD a0 (a1*1440+a2-a0.base-a0.shift)>0)) by cases decide (a0.shift>0)<;>rfl]
   cases (decide (a0.shift>0)&&decide (bD a0 (a1*1440+a2-a0.base-a0.shift)>0))<;>cases bD a0 (a1*1440+a2-a0.base)==0<;>rfl
theorem whole (z:a8):(⟨z.base,z.shift,⟨z.on.month,z.on.ck,z.on.weekday,z.on.minute⟩,⟨z.off.month,z.off.ck,z.off.weekday,z.off.minute⟩⟩:a8)=z:=rfl
theorem wK {t:Int} (h:0≤t) (h2:t≤5258868000):IntKind.wrap IntKind.i64 (Int.tdiv t 1440)=t/1440∧Int.tmod t 1440=t%1440:=by
 rw[Int.tdiv_eq_ediv_of_nonneg h,Int.tmod_eq_emod_of_nonneg h]
 exact⟨wrI (by omega),rfl⟩
theorem Gb {α:Type} (l:List α):decide (((l.length:Nat):Int)>0)= !l.isEmpty∧decide (0<((l.length:Nat):Int))= !l.isEmpty∧decide (0<l.length)= !l.isEmpty∧(((l.length:Nat):Int)==0)=l.isEmpty:=by
 cases l with
 |nil=>exact⟨rfl,rfl,rfl,rfl⟩
 |cons x l=>
  refine⟨by simp,by simp,by simp,?_⟩
  simp only[List.isEmpty_cons,List.length_cons,beq_eq_false_iff_ne]
  omega
theorem Tl (O0 O1 O2 O3 O4 O5 O6 O7 O8 O9 v9:Int) (F d:Nat) (z:a8) (hz:z=(⟨O0,O1,⟨O2,O3,O4,O5⟩,⟨O6,O7,O8,O9⟩⟩:a8)):∀(k:Nat) (t:Int) (n:Nat),0≤t→t+k≤5258868000→bX (gy z) k t=true→k<n→
  zA F (d+3) n (vL O0 O1 O2 O3 O4 O5 O6 O7 O8 O9 t)=some (.ret,(qO O0 O1 O2 O3 O4 O5 O6 O7 O8 O9 (bp (gy z) k t))):=by
 have step:∀(t:Int) (n:Nat),0≤t→t≤5258868000→zA F (d+3) (n+1) (vL O0 O1 O2 O3 O4 O5 O6 O7 O8 O9 t)=cond (gy z t).isEmpty (zA F (d+3) n (vL O0 O1 O2 O3 O4 O5 O6 O7 O8 O9 (t+1))) (some (.ret,(qO O0 O1 O2 O3 O4 O5 O6 O7 O8 O9 t))):=by
  intro t n h0 h1
  obtain⟨d1,d2⟩:=wK h0 h1
  have hl:=Gb (gy z t)
  unfold gy at hl⊢
  rw[ND,d1,d2,←hz,hl.1,hl.2.2.1,wrI (n:=t+1) (by omega)]
  cases ((qd z (t/1440) (t%1440)).1).isEmpty<;>rfl
 intro k
 induction k with
 |zero=>
  intro t n h0 h1 hr hn
  obtain⟨n,rfl⟩:∃k,n=k+1:=⟨n-1,by omega⟩
  rw[step t n h0 (by omega)]
  simp only[bX,Bool.not_eq_true']at hr
  rw[hr]
  rfl
 |succ k ih=>
  intro t n h0 h1 hr hn
  obtain⟨n,rfl⟩:∃k,n=k+1:=⟨n-1,by omega⟩
  rw[step t n h0 (by omega)]
  simp only[bX,Bool.or_eq_true,Bool.not_eq_true']at hr
  simp only[bp]
  cases he:(gy z t).isEmpty with
  |false=>rfl
  |true=>
   rw[he]at hr
   rw[WZ,WZ]
   refine ih (t+1) n (by omega) (by omega) ?_ (by omega)
   rcases hr with h|h
   ·cases h
   ·exact h
theorem MK (O0 O1 O2 O3 O4 O5 O6 O7 O8 O9 v9:Int) (hg:(ao (⟨O0,O1,⟨O2,O3,O4,O5⟩,⟨O6,O7,O8,O9⟩⟩:a8)==0&&(fp v9&&bX (gy (⟨O0,O1,⟨O2,O3,O4,O5⟩,⟨O6,O7,O8,O9⟩⟩:a8)) 200 v9))=true):∃N d,zA N d N (vL O0 O1 O2 O3 O4 O5 O6 O7 O8 O9 v9)=some (bb Prod.mk [] (.ret) (qO O0 O1 O2 O3 O4 O5 O6 O7 O8 O9 (bp (gy (⟨O0,O1,⟨O2,O3,O4,O5⟩,⟨O6,O7,O8,O9⟩⟩:a8)) 200 v9))):=by
 simp only[WW,beq_iff_eq]at hg
 obtain⟨h1,h2,h3⟩:=hg
 simp only[fp,WW,WY]at h2
 exact⟨300,3,Tl O0 O1 O2 O3 O4 O5 O6 O7 O8 O9 v9 300 0 _ rfl 200 v9 300 (by omega) (by omega) h3 (by omega)⟩
theorem xM (a0:a8) (a1:Int) (a2:Int):∃F d,run k18 F d 24 Tryz.f24 j9 (a0,a1,a2,())=some (pY.enc (cL a0 a1 a2)):=by
 refine⟨200,6,?_⟩
 rw[vO]
 unfold cL
 cases hz:ao a0 != 0 with
 |true=>rfl
 |false=>
  have hz0:ao a0=0:=by simpa using hz
  rw[W2,W2]
  have hc:(bif bif !du a1 then true else decide (a2<0)then true else decide (a2≥1440))= !mg a1 a2:=by
   unfold mg
   rw[show decide (a2<0)= !decide (0≤a2) by rw[Bool.eq_iff_iff];simp,show decide (a2≥1440)= !decide (a2<1440) by rw[Bool.eq_iff_iff];simp]
   cases du a1<;>cases decide (0≤a2)<;>cases decide (a2<1440)<;>rfl
  rw[hc]
  cases hm:mg a1 a2 with
  |false=>rfl
  |true=>
   have ht:=A6 hm
   have hr:=G3 hz0 ht
   have ht':=ht
   simp only[fp,WW,WY]at ht'
   have hd:402≤a1∧a1≤3651990:=by
    simp only[mg,WW]at hm
    have:=hm.1
    unfold du at this
    cases h:decide (402≤a1)
    ·rw[h]at this;cases this
    ·rw[h,WZ]at this;simp at h this;omega
   rw[wrI (n:=a1*1440) (by omega),wrI (n:=a1*1440+a2) (by omega)]
   rw[hz0,ht,hr]
   obtain⟨d1,d2⟩:=wK (t:=bp (gy a0) 200 (a1*1440+a2)) (by have:=jI (gy a0) 200 (a1*1440+a2);omega) (by have:=jI (gy a0) 200 (a1*1440+a2);omega)
   rw[d1,d2]
   rfl
theorem y7 (a0:Int) (hg:cR a0=true):∃F d,run k19 F d 171 Tryz.f171 lr (a0,())=some (qV.enc (av a0)):=by
 refine⟨200,6,?_⟩
 rw[yc]
 have h':=hg
 simp only[cR,mid,WW,WY]at h'
 rw[show bz a0 7=true by simp only[bz,big,byB,WW,WY];omega]
 rfl
theorem oS (a0:Unit) (a1:Config) (a2:ag) (a3:Int) (hg:Fx a0 a1 a2 a3=true):∃F d,run k52 F d 169 Tryz.f169 eI (a0,a1,a2,a3,())=some (jM.enc (yo a0 a1 a2 a3)):=by
 refine⟨200,6,?_⟩
 rw[nS]
 have h':cR a3=true:=hg
 have h0:decide (0≤av a3)=true:=by unfold av;simp;omega
 have b1:Nat.beq a1.stops.length a1.stops.length=true:=by simp
 have b2:Nat.ble (0+a1.stops.length) a1.stops.length=true:=by simp
 have b3:Nat.beq a1.ae.length a1.ae.length=true:=by simp
 have b4:Nat.ble (0+a1.ae.length) a1.ae.length=true:=by simp
 rw[h',h0,b1,b2,b3,b4]
 rfl
end Go.Proofs.YtfhepbbkggdlcaaGreatDoor.Px.PxT


namespace Go.Proofs.YtfhepbbkggdlcaaGreatDoor.Px.PxT
open Go Go.Proofs
set_option maxRecDepth 10000
theorem cN (n:Int):cR n=true↔ -100000000000≤n∧n≤100000000000:=by
 simp only[cR,mid,WW,WY]
theorem bZ (h:Int):bO h=true↔1≤h∧h≤100000:=by
 simp only[bO,WW,WY]
theorem kQ {h:Int} (h1:1≤h) (h2:h≤100000):0≤bf h∧bf h≤1300000:=by
 unfold bf
 omega
theorem jT {h:Int} (h1:1≤h) (h2:h≤100000):0≤aK h∧aK h≤1000000000000:=by
 have:=kQ h1 h2
 unfold aK
 omega
theorem fV {h:Int} (h1:1≤h) (h2:h≤100000): -2000000≤aP h∧aP h≤100000000∧0≤fB h∧fB h≤2:=by
 have hp:=jT h1 h2
 have hd:0≤fB h∧fB h≤2:=by
  unfold fB J4
  cases Ea h<;>cases ((nL h).1%7+_)%7==0||_<;>simp
 unfold aP nL
 dsimp only
 omega
theorem DA (a0:Int) (hg:cR a0=true):∃F d,run k33 F d 186 Tryz.f186 pj (a0,())=some (xt.enc (db a0)):=by
 refine⟨200,6,?_⟩
 rw[Ap]
 have h':=(cN a0).1 hg
 rw[show bz a0 19=true by simp only[bz,big,byB,WW,WY];omega]
 rw[wrI (n:=7*(a0%19)) (by omega),wrI (n:=7*(a0%19)+1) (by omega),Int.tmod_eq_emod_of_nonneg (by omega)]
 rfl
theorem qC (a0:Int) (hg:bO a0=true):∃F d,run k34 F d 189 Tryz.f189 fj (a0,())=some (kB.enc (bf a0)):=by
 refine⟨200,6,?_⟩
 rw[oJ]
 have h':=(bZ a0).1 hg
 rw[wrI (n:=235*a0) (by omega),wrI (n:=235*a0-234) (by omega),Int.tdiv_eq_ediv_of_nonneg (by omega),wrI (by omega)]
 rfl
theorem tT (a0:Int) (hg:bO a0=true):∃F d,run k35 F d 187 Tryz.f187 gU (a0,())=some (mO.enc (nL a0)):=by
 refine⟨200,6,?_⟩
 rw[ra]
 have h':=(bZ a0).1 hg
 have hm:=kQ h'.1 h'.2
 rw[wrI (n:=765433*bf a0) (by omega),wrI (n:=5604+765433*bf a0) (by omega),Int.tdiv_eq_ediv_of_nonneg (by omega),Int.tmod_eq_emod_of_nonneg (by omega),wrI (n:=(5604+765433*bf a0)/25920) (by omega),wrI (by omega)]
 rw[hg]
 rfl
theorem seven (w:Int) (h:0≤w) (h2:w≤100):Int.tmod w 7=w%7:=Int.tmod_eq_emod_of_nonneg h
theorem Iq (w:Int) (n:Int) (e:IntKind.wrap IntKind.i64 (n+1)=n+1):(bif(w+n)%7==0 then some (AV.int .i64 (IntKind.wrap IntKind.i64 (n+1)))else bif(w+n)%7==3 then some (AV.int .i64 (IntKind.wrap IntKind.i64 (n+1)))else bif(w+n)%7==5 then some (AV.int .i64 (IntKind.wrap IntKind.i64 (n+1)))else some (AV.int .i64 n))=some (AV.int .i64 (J4 w n)):=by
 unfold J4
 rw[e]
 cases (w+n)%7==0<;>cases (w+n)%7==3<;>cases (w+n)%7==5<;>rfl
theorem sM (a0:Int) (hg:bO a0=true):∃F d,run k36 F d 188 Tryz.f188 gh (a0,())=some (gF.enc (fB a0)):=by
 refine⟨200,6,?_⟩
 rw[qJ]
 have h':=(bZ a0).1 hg
 have hp:=jT h'.1 h'.2
 rw[show cR (-1373427+aK a0/25920)=true from(cN _).2 (by omega),show cR a0=true from(cN _).2 (by omega),wrI (n:=a0-1) (by omega),show cR (a0-1)=true from(cN _).2 (by omega),hg]
 simp only[Bool.true_and,Bool.true_or,WZ]
 have e0:IntKind.wrap IntKind.i64 (0+1)=1:=rfl
 have hw:0≤av (-1373427+aK a0/25920)∧av (-1373427+aK a0/25920)<7:=by unfold av;omega
 have hd:(gF.enc (fB a0))=AV.int .i64 (J4 (av (-1373427+aK a0/25920)) (cond (Ea a0) 1 0)):=rfl
 rw[hd]
 have hput:Ea a0=(decide (aK a0%25920≥19440)||((av (-1373427+aK a0/25920)==2&&(decide (aK a0%25920≥9924)&& !db a0))||(av (-1373427+aK a0/25920)==1&&(decide (aK a0%25920≥16789)&&db (a0-1))))):=rfl
 rw[hput]
 clear hput hd
 generalize av (-1373427+aK a0/25920)=w at*
 generalize aK a0%25920=p at*
 rw[e0,wrI (n:=w+0) (by omega),wrI (n:=w+1) (by omega),seven _ (by omega) (by omega),seven _ (by omega) (by omega)]
 have t0:=Iq w 0 rfl
 have t1:=Iq w 1 rfl
 rw[e0]at t0
 rw[t0,t1]
 rw[show decide (p<9924)= !decide (p≥9924) by rw[Bool.eq_iff_iff];simp,show decide (p<16789)= !decide (p≥16789) by rw[Bool.eq_iff_iff];simp]
 simp only[bne]
 cases decide (p≥19440)<;>cases w==2<;>cases w==1<;>cases decide (p≥9924)<;>cases decide (p≥16789)<;>cases db a0<;>cases db (a0-1)<;>rfl
theorem sN (a0:Int) (hg:bO a0=true):∃F d,run k37 F d 183 Tryz.f183 gA (a0,())=some (lx.enc (aP a0)):=by
 refine⟨200,6,?_⟩
 rw[qN]
 have h':=(bZ a0).1 hg
 have hp:=jT h'.1 h'.2
 have hn:=fV h'.1 h'.2
 rw[hg,wrI (n:= -1373427+aK a0/25920+fB a0) (by omega)]
 rfl
theorem qD (a0:Int) (hg:kg a0=true):∃F d,run k38 F d 184 Tryz.f184 fC (a0,())=some (kE.enc (bt a0)):=by
 refine⟨200,6,?_⟩
 rw[pA]
 have h':1≤a0∧a0≤99999:=by simpa only[kg,WW,WY]using hg
 rw[wrI (n:=a0+1) (by omega),show bO (a0+1)=true from(bZ _).2 (by omega),show bO a0=true from(bZ _).2 (by omega)]
 have h1:=fV (h:=a0) (by omega) (by omega)
 have h2:=fV (h:=a0+1) (by omega) (by omega)
 rw[wrI (n:=aP (a0+1)-aP a0) (by omega)]
 rfl
theorem LW (h:Int):(bif decide (h<3762)then true else decide (h>9999))= !fw h:=by
 unfold fw inB
 rw[Bool.eq_iff_iff]
 cases h1:decide (h<3762)<;>simp at h1⊢ <;>omega
theorem wU (a0:Int):∃F d,run k39 F d 177 Tryz.f177 jU (a0,())=some (qb.enc (c9 a0)):=by
 refine⟨200,6,?_⟩
 rw[wC,LW]
 unfold c9
 cases hr:fw a0 with
 |false=>rfl
 |true=>
  have:=(cr a0).1 hr
  rw[show bO a0=true from(bZ _).2 (by omega)]
  rfl
theorem D7 (a0:Int):∃F d,run k40 F d 178 Tryz.f178 sD (a0,())=some (Ac.enc (Aq a0)):=by
 refine⟨200,6,?_⟩
 rw[BM,LW]
 unfold Aq
 cases hr:fw a0 with
 |false=>rfl
 |true=>
  have:=(cr a0).1 hr
  rw[show kg a0=true by simp only[kg,WW,WY];omega]
  rfl
theorem AB (a0:Int) (a1:Int):∃F d,run k41 F d 180 Tryz.f180 nx (a0,a1,())=some (u0.enc (dH a0 a1)):=by
 refine⟨200,6,?_⟩
 rw[yF]
 unfold dH Aq
 cases hr:fw a0 with
 |false=>rfl
 |true=>
  have hb:=(cr a0).1 hr
  rw[show cR a0=true from(cN _).2 (by omega)]
  simp only[WZ,Bool.true_and,Bool.true_or]
  have e:(bif bif((0:Int) != 0)then true else decide (a1<1)then true else decide (a1>13))= !(decide (1≤a1)&&decide (a1≤13)):=by
   rw[Bool.eq_iff_iff]
   simp only[bne_self_eq_false,W2]
   cases h1:decide (a1<1)<;>simp at h1⊢ <;>omega
  rw[e]
  cases hm:(decide (1≤a1)&&decide (a1≤13))with
  |false=>rfl
  |true=>
   simp only[Bool.not_true,W2,WZ,Cz]
   cases db a0<;>cases h6:a1==6<;>cases h2:a1==2<;>cases h3:a1==3<;>cases h1:a1==1<;>cases h5:a1==5<;>cases h8:a1==8<;>cases h10:a1==10<;>cases h12:a1==12<;>cases (bt a0).tmod 10==5<;>cases (bt a0).tmod 10 != 3<;>rfl
theorem Vm (O0 P0 P1 P2 Q0 v3:Int) (F d:Nat):∀(k:Nat) (h:Int) (n:Nat),eY O0 k h=true→k≤n→
  Sw F (d+3) n (OP O0 P0 P1 P2 h v3)=some (.exit 0,(FV O0 P0 P1 P2 (cO O0 k h) v3)):=by
 intro k
 induction k with
 |zero=>intro h n hr hn;cases hr
 |succ k ih=>
  intro h n hr hn
  obtain⟨n,rfl⟩:∃k,n=k+1:=⟨n-1,by omega⟩
  simp only[eY,WW,Bool.or_eq_true]at hr
  obtain⟨h0,h1⟩:=hr
  have hb:=(cr h).1 h0
  rw[Sq]
  have e1:c9 h=(aP h,0):=by unfold c9;rw[h0];rfl
  have e2:Aq h=(bt h,0):=by unfold Aq;rw[h0];rfl
  have hn1:=fV (h:=h+1) (by omega) (by omega)
  rw[e1,e2]
  dsimp only
  rw[←eU,wrI (n:=aP (h+1)) (by omega),wrI (n:=h+1) (by omega)]
  unfold cO
  cases hd:decide (O0<aP (h+1))with
  |true=>rfl
  |false=>
   rw[hd]at h1
   rw[W2,W2]
   rcases h1 with h1|h1
   ·cases h1
   ·exact ih (h+1) n h1 (by omega)
theorem Th (O0 P0 P1 P2 Q0 v3:Int) (hg:(eY O0 600 Q0)=true):∃N d,Sw N d N (OP O0 P0 P1 P2 Q0 v3)=some (bb Prod.mk [] (.exit 0) (FV O0 P0 P1 P2 (cO O0 600 Q0) v3)):=by
 exact⟨700,3,Vm O0 P0 P1 P2 Q0 v3 700 0 600 Q0 700 hg (by omega)⟩
theorem wh (h m:Int):0≤dH h m∧dH h m≤30:=by
 unfold dH
 cases fw h&&(decide (1≤m)&&decide (m≤13))<;>cases m==6&& !db h<;>cases Cz h m<;>simp
theorem U3 (O0 P0 P1 P2 Q0 R0 R1 R2 S0 U0 v4:Int) (F d:Nat) (hi:inH O0=true):∀(k:Nat) (m f mo da:Int) (n:Nat),(14-m).toNat=k→1≤m→m≤14→0≤f→f≤3000000+30*m→k<n→
  QI F (d+3) n (Mp O0 P0 P1 P2 Q0 R0 mo da Q0 f m)=some (cond (dW O0 Q0 k m f mo da).1 (.ret,(FN O0 P0 P1 P2 Q0 R0 ((dW O0 Q0 k m f mo da).2.1) ((dW O0 Q0 k m f mo da).2.2.1) Q0 ((dW O0 Q0 k m f mo da).2.2.2))) (.exit 0,(GG O0 P0 P1 P2 Q0 R0 ((dW O0 Q0 k m f mo da).2.1) ((dW O0 Q0 k m f mo da).2.2.1) Q0 ((dW O0 Q0 k m f mo da).2.2.2)))):=by
 have hi':249≤O0∧O0<2278651:=by simpa only[inH,WW,WY]using hi
 intro k
 induction k with
 |zero=>
  intro m f mo da n hk h1 h2 h3 h4 hn
  obtain⟨n,rfl⟩:∃k,n=k+1:=⟨n-1,by omega⟩
  rw[L4,decide_eq_false (by omega:¬m≤13)]
  rfl
 |succ k ih=>
  intro m f mo da n hk h1 h2 h3 h4 hn
  obtain⟨n,rfl⟩:∃k,n=k+1:=⟨n-1,by omega⟩
  have hd:=wh Q0 m
  rw[L4,decide_eq_true (by omega:m≤13),WZ]
  unfold dW
  rw[wrI (n:=f+dH Q0 m) (by omega),wrI (n:=m+1) (by omega)]
  cases hc:decide (O0<f)with
  |true=>rfl
  |false=>
   rw[wrI (n:=O0-f) (by omega),wrI (n:=O0-f+1) (by omega)]
   rw[W2]
   cases decide (dH Q0 m>0)with
   |true=>
    rw[WZ,WZ]
    exact ih (m+1) (f+dH Q0 m) m (O0-f+1) n (by omega) (by omega) (by omega) (by omega) (by omega) (by omega)
   |false=>
    rw[W2,W2]
    exact ih (m+1) (f+dH Q0 m) mo da n (by omega) (by omega) (by omega) (by omega) (by omega) (by omega)
theorem Tj (O0 P0 P1 P2 Q0 R0 R1 R2 S0 U0 v4:Int) (hg:(En O0 Q0 S0 v4 U0)=true):∃N d,QI N d N (Mp O0 P0 P1 P2 Q0 R0 R1 R2 S0 U0 v4)=some (bb Prod.mk [((dW O0 Q0 (14-v4).toNat v4 U0 R1 R2).1, .ret,(FN O0 P0 P1 P2 Q0 R0 (dW O0 Q0 (14-v4).toNat v4 U0 R1 R2).2.1 (dW O0 Q0 (14-v4).toNat v4 U0 R1 R2).2.2.1 S0 (dW O0 Q0 (14-v4).toNat v4 U0 R1 R2).2.2.2))] (.exit 0) (GG O0 P0 P1 P2 Q0 R0 (dW O0 Q0 (14-v4).toNat v4 U0 R1 R2).2.1 (dW O0 Q0 (14-v4).toNat v4 U0 R1 R2).2.2.1 S0 (dW O0 Q0 (14-v4).toNat v4 U0 R1 R2).2.2.2)):=by
 simp only[En,WW,beq_iff_eq,WY]at hg
 obtain⟨rfl,h1,h2,h3,h4,h5⟩:=hg
 refine⟨20,3,?_⟩
 have:=U3 O0 P0 P1 P2 Q0 R0 R1 R2 Q0 U0 v4 20 0 h1 (14-v4).toNat v4 U0 R1 R2 20 rfl h2 h3 h4 h5 (by omega)
 rw[this]
 simp only[bb]
theorem DW (a0:Int):∃F d,run k44 F d 175 Tryz.f175 sF (a0,())=some (zX.enc (Ay a0)):=by
 refine⟨200,6,?_⟩
 rw[B4]
 have w1:aP 3762=249:=ja
 have w2:IntKind.wrap IntKind.i64 (aP 9999+bt 9999)=2278651:=by
  rw[←eU,show(9999:Int)+1=10000 from rfl,lh]
  rfl
 rw[w1,w2]
 have hc:(bif decide (a0<249)then true else decide (a0≥2278651))= !inH a0:=by
  unfold inH
  rw[Bool.eq_iff_iff]
  cases h1:decide (a0<249)<;>simp at h1⊢ <;>omega
 rw[hc]
 unfold Ay
 cases hi:inH a0 with
 |false=>rfl
 |true=>
  obtain⟨y0,y1,y2,y3,y4,y5,y6⟩:=jo hi
  have hb:249≤a0∧a0<2278651:=by simpa only[inH,WW,WY]using hi
  have hyr:=(cr _).1 y0
  have ew:IntKind.wrap IntKind.i64 (3762+IntKind.wrap IntKind.i64 (Int.tdiv (IntKind.wrap IntKind.i64 (a0-249)) 386))=nI a0:=by
   rw[wrI (n:=a0-249) (by omega)]
   have:0≤Int.tdiv (a0-249) 386∧Int.tdiv (a0-249) 386≤10000:=by rw[Int.tdiv_eq_ediv_of_nonneg (by omega)];omega
   rw[wrI (n:=Int.tdiv (a0-249) 386) (by omega),wrI (by omega)]
   rfl
  rw[ew]
  have eh:cO a0 600 (nI a0)=aW a0:=rfl
  have e1:c9 (aW a0)=(aP (aW a0),0):=by unfold c9;rw[y0];rfl
  rw[eh,y3,e1]
  have hm:=gQ (a:=3762) (b:=aW a0) (by omega) hyr.1 (by omega)
  rw[w1]at hm
  rw[show En a0 (aW a0) (aW a0) 1 (aP (aW a0))=true by simp only[En,hi,beq_self_eq_true,Bool.true_and,WW,WY];omega]
  cases hd:(dW a0 (aW a0) 13 1 (aP (aW a0)) 0 0).1<;>simp only[Bool.not_true,W2,WZ,Bool.and_self,hd]<;>rfl
end Go.Proofs.YtfhepbbkggdlcaaGreatDoor.Px.PxT
