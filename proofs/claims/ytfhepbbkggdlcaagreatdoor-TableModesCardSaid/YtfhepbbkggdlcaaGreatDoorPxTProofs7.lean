/- The table: the functions are what is said of them. -/
import Derived.Test.YtfhepbbkggdlcaaGreatDoorPxTProofs6
import Derived.Test.YtfhepbbkggdlcaaGreatDoorPxSpecSpan
import Derived.Test.YtfhepbbkggdlcaaGreatDoorPxSpecGreg
set_option linter.unusedVariables false
set_option linter.unusedSimpArgs false
namespace Go.Proofs.YtfhepbbkggdlcaaGreatDoor.Px.PxT
open Go Go.Proofs
set_option maxRecDepth 10000
theorem To (l0:List (Int)) (l1:List (ag)) (l9:List (Span)) (Q0 Q1 Q2 Q4 Q5 Q6 Q7 Q8 Q9 Q10 Q11 Q12 Q13 Q14 Q15 Q16 Q17 Q18 Q19 Q20 Q21 Q22 Q23 Q24 Q25 Q26 Q27 Q28 Q29 Q30 Q31 Q32 Q33 Q34:Int) (Q35:Bool) (S0 S1 S2 S4 S5 S6 S7 S8 S9 S10 S11 S12 S13 S14 S15 S16 S17 S18 S19 S20 S21 S22 S23 S24 S25 S26 S27 S28 S29 S30 S31 S32 S33 S34:Int) (S35:Bool) (U0 W0 v5 v19 v20:Int) (F d:Nat) (C:Config) (hC:C=(⟨S0,S1,S2,l0,⟨S4,S5,S6,S7,S8,S9,S10⟩,S11,S12,⟨S13,S14,⟨S15,S16,S17,S18⟩,⟨S19,S20,S21,S22⟩⟩,⟨S23,S24,S25,S26,S27,S28,S29,S30,S31,S32,S33,S34⟩,S35,l1⟩:Config)) (h0:l0.length≤1048576) (h1:l1.length≤1000) (hv:v19=((l1.length:Nat):Int)):∀(suf pre:List ag) (out:List Span) (n:Nat),l1=pre++suf→suf.length<n→out.length+suf.length≤200000→
  Cu F (d+3) n (zn l0 l1 out Q0 Q1 Q2 Q4 Q5 Q6 Q7 Q8 Q9 Q10 Q11 Q12 Q13 Q14 Q15 Q16 Q17 Q18 Q19 Q20 Q21 Q22 Q23 Q24 Q25 Q26 Q27 Q28 Q29 Q30 Q31 Q32 Q33 Q34 Q35 S0 S1 S2 S4 S5 S6 S7 S8 S9 S10 S11 S12 S13 S14 S15 S16 S17 S18 S19 S20 S21 S22 S23 S24 S25 S26 S27 S28 S29 S30 S31 S32 S33 S34 S35 U0 W0 v5 v19 ((pre.length:Nat):Int))=some (.exit 2,(x8 l0 l1 (out++bn C v5 suf) Q0 Q1 Q2 Q4 Q5 Q6 Q7 Q8 Q9 Q10 Q11 Q12 Q13 Q14 Q15 Q16 Q17 Q18 Q19 Q20 Q21 Q22 Q23 Q24 Q25 Q26 Q27 Q28 Q29 Q30 Q31 Q32 Q33 Q34 Q35 S0 S1 S2 S4 S5 S6 S7 S8 S9 S10 S11 S12 S13 S14 S15 S16 S17 S18 S19 S20 S21 S22 S23 S24 S25 S26 S27 S28 S29 S30 S31 S32 S33 S34 S35 U0 W0 v5)):=by
 have hs:∀w x,BU C w x=true:=by
  intro w x
  rw[hC]
  simp only[BU,aY,WW,WY]
  exact⟨h0,by omega⟩
 intro suf
 induction suf with
 |nil=>
  intro pre out n hl hn ho
  obtain⟨n,rfl⟩:∃k,n=k+1:=⟨n-1,by omega⟩
  rw[EV,←hC]
  dsimp only
  rw[decide_eq_false (by rw[hv,hl];simp:¬((pre.length:Nat):Int)<v19),W2]
  simp[bn]
 |cons w suf ih=>
  intro pre out n hl hn ho
  obtain⟨n,rfl⟩:∃k,n=k+1:=⟨n-1,by omega⟩
  have ih':=fun o ho=>ih (pre++[w]) o n (by rw[hl];simp) (by simp at hn;omega) ho
  have f1:decide (((pre.length:Nat):Int)<v19)=true:=by rw[hv,hl];exact fI _ _ _
  have f2:(decide ((0:Int)≤((pre.length:Nat):Int))&&decide (((pre.length:Nat):Int)<((l1.length:Nat):Int)))=true:=by rw[hl];exact Uy _ _ _
  have f3:decide (0+Int.toNat ((pre.length:Nat):Int)<l1.length)=true:=by rw[hl];exact dB _ _ _
  have f4:∀z,List.getD l1 (0+Int.toNat ((pre.length:Nat):Int)) z=w:=by intro z;rw[hl];exact fF _ _ _ _
  have f5:IntKind.i64.wrap (((pre.length:Nat):Int)+1)=(((pre++[w]).length:Nat):Int):=dc (suf:=suf) (by rw[←hl];omega)
  have f6:Nat.ble out.length 1048576=true:=by simp at ho⊢;omega
  rw[EV,←hC]
  dsimp only
  rw[f1,f2,f3,f4,hs,f5]
  simp only[fm,qn,f6,Bool.true_and,Bool.and_true,Bool.and_self,WZ]
  unfold bn
  cases hw:(bw C w v5).2.1 with
  |true=>
   simp only[WZ,W2]
   rw[ih' (out++[(bw C w v5).1]) (by simp at ho⊢;omega)]
   simp
  |false=>
   simp only[W2]
   exact ih' out (by simp at ho;omega)
theorem M3 (l0:List (Int)) (l1:List (ag)) (l9:List (Span)) (Q0 Q1 Q2 Q4 Q5 Q6 Q7 Q8 Q9 Q10 Q11 Q12 Q13 Q14 Q15 Q16 Q17 Q18 Q19 Q20 Q21 Q22 Q23 Q24 Q25 Q26 Q27 Q28 Q29 Q30 Q31 Q32 Q33 Q34:Int) (Q35:Bool) (S0 S1 S2 S4 S5 S6 S7 S8 S9 S10 S11 S12 S13 S14 S15 S16 S17 S18 S19 S20 S21 S22 S23 S24 S25 S26 S27 S28 S29 S30 S31 S32 S33 S34:Int) (S35:Bool) (U0 W0 v5 v19 v20:Int) (hg:(decide (l0.length≤1048576)&&(decide (l1.length≤1000)&&(decide (l9.length≤100000)&&(v19==(l1.length:Int)&&v20==0))))=true):∃N d,Cu N d N (zn l0 l1 l9 Q0 Q1 Q2 Q4 Q5 Q6 Q7 Q8 Q9 Q10 Q11 Q12 Q13 Q14 Q15 Q16 Q17 Q18 Q19 Q20 Q21 Q22 Q23 Q24 Q25 Q26 Q27 Q28 Q29 Q30 Q31 Q32 Q33 Q34 Q35 S0 S1 S2 S4 S5 S6 S7 S8 S9 S10 S11 S12 S13 S14 S15 S16 S17 S18 S19 S20 S21 S22 S23 S24 S25 S26 S27 S28 S29 S30 S31 S32 S33 S34 S35 U0 W0 v5 v19 v20)=some (bb Prod.mk [] (.exit 2) (x8 l0 l1 (l9++bn (⟨S0,S1,S2,l0,⟨S4,S5,S6,S7,S8,S9,S10⟩,S11,S12,⟨S13,S14,⟨S15,S16,S17,S18⟩,⟨S19,S20,S21,S22⟩⟩,⟨S23,S24,S25,S26,S27,S28,S29,S30,S31,S32,S33,S34⟩,S35,l1⟩:Config) v5 l1) Q0 Q1 Q2 Q4 Q5 Q6 Q7 Q8 Q9 Q10 Q11 Q12 Q13 Q14 Q15 Q16 Q17 Q18 Q19 Q20 Q21 Q22 Q23 Q24 Q25 Q26 Q27 Q28 Q29 Q30 Q31 Q32 Q33 Q34 Q35 S0 S1 S2 S4 S5 S6 S7 S8 S9 S10 S11 S12 S13 S14 S15 S16 S17 S18 S19 S20 S21 S22 S23 S24 S25 S26 S27 S28 S29 S30 S31 S32 S33 S34 S35 U0 W0 v5)):=by
 simp only[WW,beq_iff_eq,WY]at hg
 obtain⟨h0,h1,h2,h3,rfl⟩:=hg
 exact⟨2000,3,To l0 l1 l9 Q0 Q1 Q2 Q4 Q5 Q6 Q7 Q8 Q9 Q10 Q11 Q12 Q13 Q14 Q15 Q16 Q17 Q18 Q19 Q20 Q21 Q22 Q23 Q24 Q25 Q26 Q27 Q28 Q29 Q30 Q31 Q32 Q33 Q34 Q35 S0 S1 S2 S4 S5 S6 S7 S8 S9 S10 S11 S12 S13 S14 S15 S16 S17 S18 S19 S20 S21 S22 S23 S24 S25 S26 S27 S28 S29 S30 S31 S32 S33 S34 S35 U0 W0 v5 v19 0 2000 0 _ rfl h0 h1 h3 l1 [] l9 2000 rfl (by omega) (by omega)⟩
theorem RY (l0:List (Int)) (l1:List (ag)) (l9:List (Span)) (Q0 Q1 Q2 Q4 Q5 Q6 Q7 Q8 Q9 Q10 Q11 Q12 Q13 Q14 Q15 Q16 Q17 Q18 Q19 Q20 Q21 Q22 Q23 Q24 Q25 Q26 Q27 Q28 Q29 Q30 Q31 Q32 Q33 Q34:Int) (Q35:Bool) (S0 S1 S2 S4 S5 S6 S7 S8 S9 S10 S11 S12 S13 S14 S15 S16 S17 S18 S19 S20 S21 S22 S23 S24 S25 S26 S27 S28 S29 S30 S31 S32 S33 S34:Int) (S35:Bool) (U0 W0 v5:Int) (F d:Nat) (C:Config) (hC:C=(⟨S0,S1,S2,l0,⟨S4,S5,S6,S7,S8,S9,S10⟩,S11,S12,⟨S13,S14,⟨S15,S16,S17,S18⟩,⟨S19,S20,S21,S22⟩⟩,⟨S23,S24,S25,S26,S27,S28,S29,S30,S31,S32,S33,S34⟩,S35,l1⟩:Config)) (h0:l0.length≤1048576) (h1:l1.length≤1000) (hb:W0≤3651990):∀(k:Nat) (x:Int) (out:List Span) (n:Nat),(W0-x+1).toNat=k→402≤x→x≤3652100→out.length+k*1000≤100000→k<n→
  F9 F (d+3) n (CO l0 l1 out Q0 Q1 Q2 Q4 Q5 Q6 Q7 Q8 Q9 Q10 Q11 Q12 Q13 Q14 Q15 Q16 Q17 Q18 Q19 Q20 Q21 Q22 Q23 Q24 Q25 Q26 Q27 Q28 Q29 Q30 Q31 Q32 Q33 Q34 Q35 S0 S1 S2 S4 S5 S6 S7 S8 S9 S10 S11 S12 S13 S14 S15 S16 S17 S18 S19 S20 S21 S22 S23 S24 S25 S26 S27 S28 S29 S30 S31 S32 S33 S34 S35 U0 W0 x)=some (.exit 0,(wX l0 l1 (out++cD C k x) Q0 Q1 Q2 Q4 Q5 Q6 Q7 Q8 Q9 Q10 Q11 Q12 Q13 Q14 Q15 Q16 Q17 Q18 Q19 Q20 Q21 Q22 Q23 Q24 Q25 Q26 Q27 Q28 Q29 Q30 Q31 Q32 Q33 Q34 Q35 S0 S1 S2 S4 S5 S6 S7 S8 S9 S10 S11 S12 S13 S14 S15 S16 S17 S18 S19 S20 S21 S22 S23 S24 S25 S26 S27 S28 S29 S30 S31 S32 S33 S34 S35 U0 W0)):=by
 intro k
 induction k with
 |zero=>
  intro x out n hk h2 h3 ho hn
  obtain⟨n,rfl⟩:∃k,n=k+1:=⟨n-1,by omega⟩
  rw[yC,←hC]
  dsimp only
  rw[decide_eq_false (by omega:¬x≤W0),W2]
  simp[cD]
 |succ k ih=>
  intro x out n hk h2 h3 ho hn
  obtain⟨n,rfl⟩:∃k,n=k+1:=⟨n-1,by omega⟩
  have hw:=pN C x l1
  have hcw:C.ae=l1:=by rw[hC]
  have g1:decide (l0.length≤1048576)=true:=decide_eq_true h0
  have g2:decide (l1.length≤1000)=true:=decide_eq_true h1
  have g3:decide (out.length≤100000)=true:=decide_eq_true (by omega)
  rw[yC,←hC]
  dsimp only
  rw[decide_eq_true (by omega:x≤W0),g1,g2,g3,wrI (n:=x+1) (by omega)]
  simp only[fm,beq_self_eq_true,Bool.true_and,Bool.and_true,Bool.and_self,WZ]
  rw[ih (x+1) (out++bn C x l1) n (by omega) (by omega) (by omega) (by rw[List.length_append];omega) (by omega)]
  simp only[cD,hcw,List.append_assoc]
theorem NO (l0:List (Int)) (l1:List (ag)) (l9:List (Span)) (Q0 Q1 Q2 Q4 Q5 Q6 Q7 Q8 Q9 Q10 Q11 Q12 Q13 Q14 Q15 Q16 Q17 Q18 Q19 Q20 Q21 Q22 Q23 Q24 Q25 Q26 Q27 Q28 Q29 Q30 Q31 Q32 Q33 Q34:Int) (Q35:Bool) (S0 S1 S2 S4 S5 S6 S7 S8 S9 S10 S11 S12 S13 S14 S15 S16 S17 S18 S19 S20 S21 S22 S23 S24 S25 S26 S27 S28 S29 S30 S31 S32 S33 S34:Int) (S35:Bool) (U0 W0 v5:Int) (hg:(decide (l0.length≤1048576)&&(decide (l1.length≤1000)&&(l9.length==0&&fg v5 W0)))=true):∃N d,F9 N d N (CO l0 l1 l9 Q0 Q1 Q2 Q4 Q5 Q6 Q7 Q8 Q9 Q10 Q11 Q12 Q13 Q14 Q15 Q16 Q17 Q18 Q19 Q20 Q21 Q22 Q23 Q24 Q25 Q26 Q27 Q28 Q29 Q30 Q31 Q32 Q33 Q34 Q35 S0 S1 S2 S4 S5 S6 S7 S8 S9 S10 S11 S12 S13 S14 S15 S16 S17 S18 S19 S20 S21 S22 S23 S24 S25 S26 S27 S28 S29 S30 S31 S32 S33 S34 S35 U0 W0 v5)=some (bb Prod.mk [] (.exit 0) (wX l0 l1 (cD (⟨S0,S1,S2,l0,⟨S4,S5,S6,S7,S8,S9,S10⟩,S11,S12,⟨S13,S14,⟨S15,S16,S17,S18⟩,⟨S19,S20,S21,S22⟩⟩,⟨S23,S24,S25,S26,S27,S28,S29,S30,S31,S32,S33,S34⟩,S35,l1⟩:Config) (W0-v5+1).toNat v5) Q0 Q1 Q2 Q4 Q5 Q6 Q7 Q8 Q9 Q10 Q11 Q12 Q13 Q14 Q15 Q16 Q17 Q18 Q19 Q20 Q21 Q22 Q23 Q24 Q25 Q26 Q27 Q28 Q29 Q30 Q31 Q32 Q33 Q34 Q35 S0 S1 S2 S4 S5 S6 S7 S8 S9 S10 S11 S12 S13 S14 S15 S16 S17 S18 S19 S20 S21 S22 S23 S24 S25 S26 S27 S28 S29 S30 S31 S32 S33 S34 S35 U0 W0)):=by
 simp only[WW,beq_iff_eq,WY,fg]at hg
 obtain⟨h0,h1,h2,h3,h4,h5⟩:=hg
 have hl:l9=[]:=List.eq_nil_of_length_eq_zero h2
 subst hl
 refine⟨40,3,?_⟩
 by_cases hx:v5≤3652100
 ·have:=RY l0 l1 [] Q0 Q1 Q2 Q4 Q5 Q6 Q7 Q8 Q9 Q10 Q11 Q12 Q13 Q14 Q15 Q16 Q17 Q18 Q19 Q20 Q21 Q22 Q23 Q24 Q25 Q26 Q27 Q28 Q29 Q30 Q31 Q32 Q33 Q34 Q35 S0 S1 S2 S4 S5 S6 S7 S8 S9 S10 S11 S12 S13 S14 S15 S16 S17 S18 S19 S20 S21 S22 S23 S24 S25 S26 S27 S28 S29 S30 S31 S32 S33 S34 S35 U0 W0 v5 40 0 _ rfl h0 h1 h4 (W0-v5+1).toNat v5 [] 40 rfl h3 hx (by simp only[List.length_nil];omega) (by omega)
  rw[List.nil_append]at this
  exact this
 ·have hz:(W0-v5+1).toNat=0:=by omega
  rw[hz]
  rw[yC]
  dsimp only
  rw[decide_eq_false (by omega:¬v5≤W0)]
  rfl
theorem Aw (a0:Config) (a1:Int) (a2:Int) (hg:AL a0 a1 a2=true):∃F d,l6 k78 F d 13 Tryz.f13 nh nm (a0,a1,a2,())=some (cS a0 a1 a2):=by
 refine⟨200,6,?_⟩
 rw[yT]
 obtain⟨b1,b2,b3,b4⟩:=mE a0
 have hs:aY a0=true:=hg
 have hs':decide (a0.stops.length≤1048576)=true:=by
  simp only[aY,WW]at hs
  exact hs.1
 rw[b1,b2,b3,b4,hs]
 unfold cS
 cases hc:af a0 != 0 with
 |true=>rfl
 |false=>
  have hw:=Fp (show af a0=0 by simpa using hc)
  cases hd:nz a1 a2 with
  |false=>
   have e:(bif bif bif decide (a1<402)then true else decide (a2>3651990)then true else decide (a1>a2)then true else decide (IntKind.i64.wrap (a2-a1)>30))=true:=by
    by_cases c1:a1<402
    ·rw[decide_eq_true c1];rfl
    ·by_cases c2:a2>3651990
     ·rw[decide_eq_false c1,decide_eq_true c2];rfl
     ·by_cases c3:a1>a2
      ·rw[decide_eq_false c1,decide_eq_false c2,decide_eq_true c3];rfl
      ·rw[decide_eq_false c1,decide_eq_false c2,decide_eq_false c3,wrI (n:=a2-a1) (by omega)]
       simp only[W2,WY]
       by_cases c4:a2-a1>30
       ·exact c4
       ·have:nz a1 a2=true:=by simp only[nz,WW,WY];omega
        rw[this]at hd
        cases hd
   rw[e]
   rfl
  |true=>
   obtain⟨d1,d2,d3,d4⟩:=LP hd
   rw[wrI (n:=a2-a1) (by omega),decide_eq_false (by omega:¬a1<402),decide_eq_false (by omega:¬a2>3651990),decide_eq_false (by omega:¬a1>a2),decide_eq_false (by omega:¬a2-a1>30)]
   rw[hs',decide_eq_true (by omega:a0.ae.length≤1000)]
   rw[show fg a1 a2=true by simp only[fg,WW,WY];omega]
   simp only[fm,Bool.and_self,Bool.true_and,Bool.and_true,WZ,W2]
theorem Al (a0:Config) (a1:Int) (hg:kP a0 a1=true):∃F d,l6 k79 F d 28 Tryz.f28 nr nn (a0,a1,())=some (bQ a0 a1):=by
 refine⟨200,6,?_⟩
 rw[yG]
 obtain⟨b1,b2,b3,b4⟩:=mE a0
 have hg':aY a0=true∧(-1000000000000≤a1∧a1≤1000000000000):=by simpa only[kP,big,WW,WY]using hg
 obtain⟨hs,h1⟩:=hg'
 have hl:=yk a0 (a1-9) (a1+1)
 rw[b1,b2,b3,b4,wrI (n:=a1-9) (by omega),wrI (n:=a1+1) (by omega),show AL a0 (a1-9) (a1+1)=true from hs]
 rw[show dd (cS a0 (a1-9) (a1+1)).1=true by simp only[dd,WY];omega]
 unfold bQ
 simp only[fm,qn,Bool.and_self,Bool.true_and,Bool.and_true,WZ]
 cases (cS a0 (a1-9) (a1+1)).2 != 0<;>rfl
theorem DQ (a0:Config) (a1:Int) (hg:tI a0 a1=true):∃F d,l6 k80 F d 11 Tryz.f11 rI rf (a0,a1,())=some (K2 a0 a1):=by
 refine⟨200,6,?_⟩
 rw[Dr]
 obtain⟨b1,b2,b3,b4⟩:=mE a0
 have hs:aY a0=true:=hg
 rw[b1,b2,b3,b4,hs]
 unfold K2
 cases hc:af a0 != 0 with
 |true=>rfl
 |false=>
  by_cases h1:a1<411
  ·rw[decide_eq_true h1];rfl
  ·by_cases h2:a1>3651988
   ·rw[decide_eq_false h1,decide_eq_true h2];rfl
   ·have hl:=xc a0 a1
    rw[decide_eq_false h1,decide_eq_false h2,wrI (n:=a1+1) (by omega)]
    rw[show kP a0 a1=true by simp only[kP,hs,big,Bool.true_and,WW,WY];omega]
    rw[show oh (bQ a0 a1).1 (cL a0.aE a1 0).1 (cL a0.aE (a1+1) 0).1=true by simp only[oh,dd,WY];omega]
    simp only[fm,qn,Bool.and_self,Bool.true_and,Bool.and_true,WZ,W2,Bool.or_self]
    cases (bQ a0 a1).2 != 0<;>rfl
theorem y8 (a0:Config) (a1:Int) (hg:dS a0 a1=true):∃F d,run k81 F d 40 Tryz.f40 lS (a0,a1,())=some (rF.enc (dz a0 a1)):=by
 refine⟨200,6,?_⟩
 rw[xE]
 have hc:af a0=0:=by simpa only[dS,beq_iff_eq]using hg
 obtain⟨z1,_⟩:=bx (dn hc).1
 unfold dz
 have e:(bif decide (a1<576000)then true else decide (a1>5258879999))= !inB a1 576000 5258879999:=by
  unfold inB
  rw[Bool.eq_iff_iff]
  cases h1:decide (a1<576000)<;>simp at h1⊢ <;>omega
 rw[e]
 cases hb:inB a1 576000 5258879999 with
 |false=>rfl
 |true=>
  have h1:=bF.1 hb
  rw[wrI (n:=a1+a0.aE.base) (by omega)]
  rw[show bz (a1+a0.aE.base) 1440=true by simp only[bz,big,byB,WW,WY];omega]
  simp only[Bool.not_true,W2,Bool.and_self,WZ,Bool.true_and]
  cases (ofG ((a1+a0.aE.base)/1440)).2==0<;>cases h2:decide (1900≤(ofG ((a1+a0.aE.base)/1440)).1.year)<;>simp only[ge_iff_le,h2,WZ,W2,Bool.true_and,Bool.false_and]<;>rfl
theorem MF {c:Config} {t:Int} (hc:af c=0) (hs:dz c t=true): -1000000000000≤(dg c.aE t).1∧(dg c.aE t).1≤1000000000000:=by
 obtain⟨hz,_⟩:=dn hc
 obtain⟨z1,z2,_⟩:=bx hz
 have h:=(CG hc).1 hs
 have hr:=rz (z:=c.aE) t z2
 rw[BZ hz (by omega) (by omega)]
 unfold w7
 dsimp only
 omega
theorem Dv (a0:Config) (a1:Int) (hg:tI a0 a1=true):∃F d,run k82 F d 19 Tryz.f19 o6 (a0,a1,())=some (xR.enc (fK a0 a1)):=by
 refine⟨200,6,?_⟩
 rw[An]
 obtain⟨b1,b2,b3,b4⟩:=mE a0
 have hs:aY a0=true:=hg
 rw[b1,b2,b3,b4,hs]
 unfold fK
 cases hc:af a0 != 0 with
 |true=>rfl
 |false=>
  have hc0:af a0=0:=by simpa using hc
  rw[show dS a0 a1=true by simp only[dS,hc0,beq_self_eq_true]]
  cases hv:dz a0 a1 with
  |false=>rfl
  |true=>
   have hb:=MF hc0 hv
   have hl:=xc a0 (dg a0.aE a1).1
   rw[show kP a0 (dg a0.aE a1).1=true by simp only[kP,hs,big,Bool.true_and,WW,WY];omega]
   rw[show bl (bQ a0 (dg a0.aE a1).1).1 a1=true by simp only[bl,dd,WY];omega]
   unfold atG
   simp only[fm,qn,Bool.and_self,Bool.true_and,Bool.and_true,WZ,W2,Bool.not_true]
   cases (eD (bQ a0 (dg a0.aE a1).1).1 a1).2<;>rfl
end Go.Proofs.YtfhepbbkggdlcaaGreatDoor.Px.PxT


namespace Go.Proofs.YtfhepbbkggdlcaaGreatDoor.Px.PxT
open Go Go.Proofs
theorem Qm {a b:Int} (hb:1≤b):(a.tmod b=0∨0≤a→a/b=a.tdiv b)∧(a.tmod b≠0→a<0→a/b=a.tdiv b-1):=by
 obtain⟨d1,d2,d3,d4⟩:=yu (a:=a) (b:=b) hb
 refine⟨fun h=>(d2 ?_).1,fun h1 h2=>(d1 ?_).1⟩
 ·rcases h with h|h
  ·omega
  ·exact Int.tmod_nonneg b h
 ·have hn:=Int.tmod_nonneg b (show 0≤ -a by omega)
  rw[Int.neg_tmod]at hn
  omega
theorem wo (a0:Int) (a1:Int) (hg:bz a0 a1=true):∃F d,run k95 F d 45 Tryz.f45 jk (a0,a1,())=some (ov.enc (qK a0 a1)):=by
 refine⟨200,6,?_⟩
 rw[uC]
 simp only[bz,byB,big,WW,WY]at hg
 have e2:(a1 != 0)=true:=by rw[bne_iff_ne];omega
 obtain⟨t1,t2⟩:=Qm (a:=a0) (b:=a1) (by omega)
 obtain⟨q1,q2⟩:=LL (a:=a0) (b:=a1) (K:=1000000000000) (by omega) (by omega) (by omega) (by omega)
 simp only[e2,WZ]
 by_cases h:a0.tmod a1=0
 ·have f:=t1 (.inl h)
  rw[show(a0.tmod a1 != 0)=false by rw[h];rfl,W2,W2,←f,wrI (by omega)]
  rfl
 ·rw[show(a0.tmod a1 != 0)=true by rw[bne_iff_ne];exact h,WZ]
  by_cases hn:a0<0
  ·have f:=t2 h hn
   rw[decide_eq_true hn,WZ,wrI (n:=a0.tdiv a1) (by omega),wrI (by omega),←f]
   rfl
  ·have f:=t1 (.inr (by omega))
   rw[decide_eq_false hn,W2,←f,wrI (by omega)]
   rfl
theorem ud (a0:Int):∃F d,run k96 F d 105 Tryz.f105 iB (a0,())=some (il.enc (dR a0)):=by
 refine⟨200,6,?_⟩
 rw[qQ]
 simp only[il,Res.bool,dR]
 cases h1:Int.tmod a0 4==0<;>cases h2:Int.tmod a0 100 != 0<;>cases h3:Int.tmod a0 400==0<;>rfl
theorem ui (a0:Int):∃F d,run k97 F d 81 Tryz.f81 hJ (a0,())=some (gT.enc (eF a0)):=by
 refine⟨200,6,?_⟩
 rw[q5]
 simp only[gT,Res.int,eF]
 cases dR a0<;>rfl
theorem tR (a0:Int) (a1:Int):∃F d,run k98 F d 82 Tryz.f82 iH (a0,a1,())=some (iM.enc (ai a0 a1)):=by
 refine⟨200,6,?_⟩
 rw[rp]
 simp only[iM,Res.int,ai]
 have hc:(bif bif bif decide (a0<1)then true else decide (a0>9999)then true else decide (a1<1)then true else decide (a1>12))= !bk a0 a1:=by
  rw[Bool.eq_iff_iff]
  by_cases h1:a0<1<;>by_cases h2:a0>9999<;>by_cases h3:a1<1<;>by_cases h4:a1>12<;>simp[bk,h1,h2,h3,h4]<;>omega
 rw[hc]
 cases hm:bk a0 a1 with
 |false=>rfl
 |true=>
  simp only[bk,WW,WY]at hm
  simp only[Bool.not_true,W2,WZ]
  have h12:a1=1∨a1=2∨a1=3∨a1=4∨a1=5∨a1=6∨a1=7∨a1=8∨a1=9∨a1=10∨a1=11∨a1=12:=by omega
  rcases h12 with rfl|rfl|rfl|rfl|rfl|rfl|rfl|rfl|rfl|rfl|rfl|rfl<;>cases dR a0<;>rfl
theorem Uh (O0 O1 O2 v0 v3:Int) (F d:Nat) (N:Int) (h1:1≤N) (h2:N≤3652059):∀(m:Nat) (y:Int) (n:Nat),1≤y→y+m=yrG N→m<n→
  Lq F (d+3) n (HB O0 O1 O2 (N-aG y) y)=some (.exit 0,(AN O0 O1 O2 (N-aG (yrG N)) (yrG N))):=by
 obtain⟨y1,y2,l1,l2,e1,e2⟩:=mA h1 h2
 intro m
 induction m with
 |zero=>
  intro y n hy hm hn
  obtain⟨n,rfl⟩:∃k,n=k+1:=⟨n-1,by omega⟩
  have:y=yrG N:=by omega
  subst this
  rw[H5]
  have:=jL y1
  rw[show decide (N-aG (yrG N)>eF (yrG N))=false by simp;omega,W2]
 |succ m ih=>
  intro y n hy hm hn
  obtain⟨n,rfl⟩:∃k,n=k+1:=⟨n-1,by omega⟩
  have hl:=jL hy
  have hb:=cW (y:=y) (by omega) (by omega)
  have hb':=cW (y:=y+1) (by omega) (by omega)
  have hmo:=jK (y:=y+1) (z:=yrG N) (by omega) (by omega)
  rw[H5]
  rw[show decide (N-aG y>eF y)=true by simp;omega,WZ,wrI (n:=N-aG y-eF y) (by omega),wrI (n:=y+1) (by omega),show N-aG y-eF y=N-aG (y+1) by omega]
  exact ih (y+1) n (by omega) (by omega) (by omega)
theorem Oq (O0 O1 O2 v0 v3:Int) (hg:(v3==1&&dj v0)=true):∃N d,Lq N d N (HB O0 O1 O2 v0 v3)=some (bb Prod.mk [] (.exit 0) (AN O0 O1 O2 (v0-aG (yrG v0)) (yrG v0))):=by
 simp only[WW,beq_iff_eq,cF]at hg
 obtain⟨rfl,h1,h2⟩:=hg
 obtain⟨y1,y2,_⟩:=mA h1 h2
 have:=Uh O0 O1 O2 v0 1 20000 0 v0 h1 h2 (yrG v0-1).toNat 1 20000 (by omega) (by omega) (by omega)
 rw[show v0-aG 1=v0 by rw[show aG 1=0 from rfl];omega]at this
 exact⟨20000,3,this⟩
theorem RL (O0 O1 O2 v0 v3 v4:Int) (F d:Nat) (R:Int) (h1:1≤v3) (h2:v3≤9999) (r1:1≤R) (r2:R≤eF v3):∀(k m:Nat) (n:Nat),1≤m→m+k=12→aF v3 (m-1)<R→k<n→
  Gh F (d+3) n (DJ O0 O1 O2 (R-aF v3 (m-1)) v3 ((m:Nat):Int))=some (.exit 2,(wF O0 O1 O2 (R-aF v3 (nN v3 (R-1) m k-1)) v3 ((nN v3 (R-1) m k:Nat):Int))):=by
 intro k
 have hy:=Ip h1 h2
 induction k with
 |zero=>
  intro m n hm hk hs hn
  obtain⟨n,rfl⟩:∃k,n=k+1:=⟨n-1,by omega⟩
  have:m=12:=by omega
  subst this
  rw[ET]
  have e:aF v3 12=aF v3 11+ai v3 12:=rfl
  rw[show decide (R-aF v3 (12-1)>ai v3 ((12:Nat):Int))=false by simp;omega,W2]
  rfl
 |succ k ih=>
  intro m n hm hk hs hn
  obtain⟨n,rfl⟩:∃k,n=k+1:=⟨n-1,by omega⟩
  have e:aF v3 m=aF v3 (m-1)+ai v3 (m:Int):=by
   obtain⟨j,rfl⟩:∃j,m=j+1:=⟨m-1,by omega⟩
   simp only[aF,Nat.add_sub_cancel]
   rfl
  have hr:=dL v3 (m-1)
  have hr':=dL v3 m
  have hL:eF v3≤366:=by unfold eF;cases dR v3<;>decide
  rw[ET]
  simp only[nN]
  by_cases hc:R-1<aF v3 m
  ·rw[decide_eq_true hc,WZ,show decide (R-aF v3 (m-1)>ai v3 (m:Int))=false by simp;omega,W2]
  ·rw[decide_eq_false hc,W2,show decide (R-aF v3 (m-1)>ai v3 (m:Int))=true by simp;omega,WZ,wrI (n:=R-aF v3 (m-1)-ai v3 (m:Int)) (by omega),wrI (n:=(m:Int)+1) (by omega)]
   have:=ih (m+1) n (by omega) (by omega) (by rw[Nat.add_sub_cancel];omega) (by omega)
   rw[Nat.add_sub_cancel]at this
   rw[show R-aF v3 (m-1)-ai v3 (m:Int)=R-aF v3 m by omega,show(m:Int)+1=((m+1:Nat):Int) by omega]
   exact this
theorem M7 (O0 O1 O2 v0 v3 v4:Int) (hg:(v4==1&&(decide (1≤v3)&&(decide (v3≤9999)&&(decide (1≤v0)&&decide (v0≤eF v3)))))=true):∃N d,Gh N d N (DJ O0 O1 O2 v0 v3 v4)=some (bb Prod.mk [] (.exit 2) (wF O0 O1 O2 (v0-aF v3 (HW v3 v0-1)) v3 ((HW v3 v0:Nat):Int))):=by
 simp only[WW,beq_iff_eq,WY]at hg
 obtain⟨rfl,h1,h2,h3,h4⟩:=hg
 have:=RL O0 O1 O2 v0 v3 1 200 0 v0 h1 h2 h3 h4 11 1 200 (by omega) (by omega) (by simp only[Nat.sub_self,aF];omega) (by omega)
 rw[show v0-aF v3 (1-1)=v0 by simp only[Nat.sub_self,aF];omega]at this
 exact⟨200,3,this⟩
theorem xr (a0:Int) (hg:dj a0=true):∃F d,run PG F d 44 Tryz.f44 j0 (a0,())=some (kj.enc (rOf a0)):=by
 refine⟨200,6,?_⟩
 rw[u9]
 have h':=cF.1 hg
 obtain⟨y1,y2,l1,l2,e1,e2⟩:=mA h'.1 h'.2
 have hl:=jL y1
 rw[hg,show decide (1≤yrG a0)=true by simpa using y1,show decide (yrG a0≤9999)=true by simpa using y2,show decide (1≤a0-aG (yrG a0))=true by simp;omega,show decide (a0-aG (yrG a0)≤eF (yrG a0))=true by simp;omega]
 simp only[Bool.and_self,WZ]
 have hn:(decide (a0<1)||decide (a0>3652059))=false:=by simp;omega
 have hm:HW (yrG a0) (a0-aG (yrG a0))=oo a0:=by
  unfold HW oo
  rw[show a0-aG (yrG a0)-1=lfG a0 by omega]
 simp only[kj,rOf,ofG,hn,W2]
 rw[hm,show a0-aG (yrG a0)-aF (yrG a0) (oo a0-1)=lfG a0-aF (yrG a0) (oo a0-1)+1 by omega]
 rfl
def cY (o i:Int):Int:=(i+6-o)/7
def qi (f o i:Int):Int:=if cY o i=0 then 0 else f+o+7*(cY o i-1)
theorem Fc {f w o i:Int} (ho:o=(w-f%7)%7) (hw:0≤w∧w≤6) (hi:0≤i) (h:(f+i)%7=w):cY o (i+1)=cY o i+1∧qi f o (i+1)=f+i∧0≤cY o i∧i=o+7*cY o i:=by
 have h0:0≤o∧o≤6:=by omega
 have h1:(i-o)%7=0:=by omega
 have h2:o≤i:=by omega
 have e:cY o (i+1)=cY o i+1:=by unfold cY;omega
 refine⟨e,?_,?_,?_⟩
 ·unfold qi
  rw[e]
  unfold cY
  split<;>omega
 ·unfold cY;omega
 ·unfold cY;omega
theorem IW {f w o i:Int} (ho:o=(w-f%7)%7) (hw:0≤w∧w≤6) (hi:0≤i) (h:(f+i)%7≠w):cY o (i+1)=cY o i∧qi f o (i+1)=qi f o i:=by
 have h0:0≤o∧o≤6:=by omega
 have h1:(i-o)%7≠0:=by omega
 have e:cY o (i+1)=cY o i:=by unfold cY;omega
 exact⟨e,by unfold qi;rw[e]⟩
theorem Ia {w k:Int} (h:dI w k=false):(0≤w∧w≤6)∧(k= -1∨(1≤k∧k≤5)):=by
 simp only[dI,Bool.or_eq_false_iff,Bool.and_eq_false_iff,decide_eq_false_iff_not,bne_eq_false_iff_eq]at h
 obtain⟨⟨w0,w1⟩,hk⟩:=h
 refine⟨by omega,?_⟩
 rcases hk with h|⟨h1,h2⟩
 ·exact .inl h
 ·exact .inr (by omega)
theorem uG (a0:Int):∃F d,run Qu F d 43 Tryz.f43 iu (a0,())=some (mR.enc (IB a0)):=by
 refine⟨200,6,?_⟩
 rw[qT]
 unfold IB inB
 cases h:decide (a0≥576000)
 ·rfl
 ·rfl
theorem qF (a0:Config) (a1:Int) (hg:dS a0 a1=true):∃F d,run N2 F d 21 Tryz.f21 fE (a0,a1,())=some (ku.enc (dz a0 a1)):=by
 refine⟨200,6,?_⟩
 rw[pQ]
 have hc:af a0=0:=by simpa only[dS,beq_iff_eq]using hg
 obtain⟨z1,_⟩:=bx (dn hc).1
 unfold dz IB
 cases hb:inB a1 576000 5258879999 with
 |false=>rfl
 |true=>
  have h1:=bF.1 hb
  rw[wrI (n:=a1+a0.aE.base) (by omega)]
  rw[show bz (a1+a0.aE.base) 1440=true by simp only[bz,big,byB,WW,WY];omega]
  have hd:dj ((a1+a0.aE.base)/1440)=true:=cF.2 (by omega)
  have he:=(Bk hd).2.2.1
  unfold qK rOf
  rw[hd,he]
  simp only[Bool.not_true,W2,Bool.and_self,WZ,Bool.true_and,beq_self_eq_true]
  cases h2:decide (1900≤(ofG ((a1+a0.aE.base)/1440)).1.year)<;>simp only[ge_iff_le,h2,WZ,W2,Bool.true_and,Bool.false_and]<;>rfl
end Go.Proofs.YtfhepbbkggdlcaaGreatDoor.Px.PxT


namespace Go.Proofs.YtfhepbbkggdlcaaGreatDoor.Px.PxT
open Go Go.Proofs
theorem wq (a0:Int) (a1:Int) (hg:bz a0 a1=true):∃F d,run P8 F d 113 Tryz.f113 jc (a0,a1,())=some (nX.enc (KB a0 a1)):=by
 refine⟨200,6,?_⟩
 rw[um]
 simp only[bz,byB,big,WW,WY]at hg
 have e2:(a1 != 0)=true:=by rw[bne_iff_ne];omega
 obtain⟨d1,d2,d3,d4⟩:=yu (a:=a0) (b:=a1) (by omega)
 simp only[e2,WZ]
 by_cases h:a0.tmod a1<0
 ·rw[decide_eq_true h,WZ,wrI (by omega),←(d1 h).2]
  rfl
 ·rw[decide_eq_false h,W2,←(d2 (by omega)).2]
  rfl
theorem SP (O0 O1 O2 v3 v4:Int) (F d:Nat) (D:Int) (h1:1≤O0) (h2:O0≤10000) (hD: -100000≤D∧D≤100000):∀(m:Nat) (y:Int) (n:Nat),1≤y→y+m=O0→m<n→
  Fi F (d+3) n (DK O0 O1 O2 (D+aG y) y)=some (.exit 0,(wL O0 O1 O2 (D+aG O0))):=by
 intro m
 induction m with
 |zero=>
  intro y n hy hm hn
  obtain⟨n,rfl⟩:∃k,n=k+1:=⟨n-1,by omega⟩
  have:y=O0:=by omega
  subst this
  rw[E2,show decide (y<y)=false by simp,W2]
 |succ m ih=>
  intro y n hy hm hn
  obtain⟨n,rfl⟩:∃k,n=k+1:=⟨n-1,by omega⟩
  have hl:=jL hy
  have hb:=cW (y:=y) (by omega) (by omega)
  have hb':=cW (y:=y+1) (by omega) (by omega)
  rw[E2,show decide (y<O0)=true by simp;omega,WZ,wrI (n:=D+aG y+eF y) (by omega),wrI (n:=y+1) (by omega),show D+aG y+eF y=D+aG (y+1) by omega]
  exact ih (y+1) n (by omega) (by omega) (by omega)
theorem Nn (O0 O1 O2 v3 v4:Int) (hg:(v4==1&&(lit v3&&pV O0))=true):∃N d,Fi N d N (DK O0 O1 O2 v3 v4)=some (bb Prod.mk [] (.exit 0) (wL O0 O1 O2 (v3+aG O0))):=by
 simp only[lit,pV,WW,beq_iff_eq,WY]at hg
 obtain⟨rfl,hD,h1,h2⟩:=hg
 have:=SP O0 O1 O2 v3 1 20000 0 v3 h1 h2 hD (O0-1).toNat 1 20000 (by omega) (by omega) (by omega)
 rw[show v3+aG 1=v3 by rw[show aG 1=0 from rfl];omega]at this
 exact⟨20000,3,this⟩
theorem SE (O0 O1 O2 v3 v5:Int) (F d:Nat) (D:Int) (h1:1≤O1) (h2:O1≤12) (hD: -1000000000000≤D∧D≤1000000000000):∀(k m:Nat) (n:Nat),1≤m→(m:Int)+k=O1→k<n→
  GH F (d+3) n (Dt O0 O1 O2 (D+aF O0 (m-1)) ((m:Nat):Int))=some (.exit 2,(yg O0 O1 O2 (D+aF O0 (O1-1).toNat))):=by
 intro k
 induction k with
 |zero=>
  intro m n hm hk hn
  obtain⟨n,rfl⟩:∃k,n=k+1:=⟨n-1,by omega⟩
  rw[EG,show decide ((m:Int)<O1)=false by simp;omega,W2,show(O1-1).toNat=m-1 by omega]
 |succ k ih=>
  intro m n hm hk hn
  obtain⟨n,rfl⟩:∃k,n=k+1:=⟨n-1,by omega⟩
  have e:aF O0 m=aF O0 (m-1)+ai O0 (m:Int):=by
   obtain⟨j,rfl⟩:∃j,m=j+1:=⟨m-1,by omega⟩
   simp only[aF,Nat.add_sub_cancel]
   rfl
  have hr:=dL O0 m
  rw[EG,show decide ((m:Int)<O1)=true by simp;omega,WZ,wrI (n:=D+aF O0 (m-1)+ai O0 (m:Int)) (by omega),wrI (n:=(m:Int)+1) (by omega)]
  have:=ih (m+1) n (by omega) (by omega) (by omega)
  rw[Nat.add_sub_cancel]at this
  rw[show D+aF O0 (m-1)+ai O0 (m:Int)=D+aF O0 m by omega,show(m:Int)+1=((m+1:Nat):Int) by omega]
  exact this
theorem MA (O0 O1 O2 v3 v5:Int) (hg:(v5==1&&(big v3&&(decide (1≤O1)&&decide (O1≤12))))=true):∃N d,GH N d N (Dt O0 O1 O2 v3 v5)=some (bb Prod.mk [] (.exit 2) (yg O0 O1 O2 (v3+aF O0 (O1-1).toNat))):=by
 simp only[big,WW,beq_iff_eq,WY]at hg
 obtain⟨rfl,hD,h1,h2⟩:=hg
 have:=SE O0 O1 O2 v3 1 200 0 v3 h1 h2 hD (O1-1).toNat 1 200 (by omega) (by omega) (by omega)
 rw[show v3+aF O0 (1-1)=v3 by simp only[Nat.sub_self,aF];omega]at this
 exact⟨200,3,this⟩
theorem vc (a0:Date) (hg:zl a0=true):∃F d,run Rf F d 127 Tryz.f127 ji (a0,())=some (n8.enc (K7 a0)):=by
 refine⟨200,6,?_⟩
 rw[uH]
 simp only[zl,bk,WW,WY]at hg
 obtain⟨⟨y1,y2,m1,m2⟩,hl⟩:=hg
 have hb:=cW (y:=a0.year) (by omega) (by omega)
 have hl':=hl
 simp only[lit,WW,WY]at hl'
 rw[hl,show pV a0.year=true by simp only[pV,WW,WY];omega,show big (a0.day+aG a0.year)=true by simp only[big,WW,WY];omega,show decide (1≤a0.month)=true by simpa using m1,show decide (a0.month≤12)=true by simpa using m2]
 rfl
theorem pw (a0:Int) (hg:cR a0=true):∃F d,run QT F d 99 Tryz.f99 ez (a0,())=some (jN.enc (av a0)):=by
 refine⟨200,6,?_⟩
 rw[oj]
 have h':=hg
 simp only[cR,mid,WW,WY]at h'
 rw[show bz a0 7=true by simp only[bz,big,byB,WW,WY];omega]
 rfl
theorem PW (v0 v1 v2 v3 v10 v11 v12 v13:Int) (F d:Nat) (hm:bk v0 v1=true) (hf:v10=aM v0 v1) (hw:0≤v2∧v2≤6) (o:Int) (ho:o=(v2-v10%7)%7) (hk:v3= -1∨v3>cY o (ai v0 v1)):∀(m:Nat) (i:Int) (n:Nat),0≤i→i+m=ai v0 v1→m<n→
  zh F (d+3) n (vU v0 v1 v2 v3 v10 (cY o i) (qi v10 o i) i)=some (.exit 0,(xO v3 (qi v10 o (ai v0 v1)))):=by
 have hd:=jr hm
 have hr:=sA hm
 intro m
 induction m with
 |zero=>
  intro i n hi hm' hn
  obtain⟨n,rfl⟩:∃k,n=k+1:=⟨n-1,by omega⟩
  have:i=ai v0 v1:=by omega
  subst this
  rw[tn,show decide (ai v0 v1<ai v0 v1)=false by simp,W2]
 |succ m ih=>
  intro i n hi hm' hn
  obtain⟨n,rfl⟩:∃k,n=k+1:=⟨n-1,by omega⟩
  have hq:0≤o∧o≤6:=by omega
  have hmi:0≤cY o i∧cY o i≤5∧cY o i≤cY o (ai v0 v1):=by unfold cY;omega
  have hl:=ih (i+1) n (by omega) (by omega) (by omega)
  rw[tn,show decide (i<ai v0 v1)=true by simp;omega,WZ,wrI (n:=v10+i) (by omega),wrI (n:=i+1) (by omega),wrI (n:=cY o i+1) (by omega)]
  rw[show cR (v10+i)=true by simp only[cR,mid,WW,WY];omega,Bool.and_self,WZ]
  by_cases hc:(v10+i)%7=v2
  ·obtain⟨e1,e2,e3,e4⟩:=Fc ho hw hi hc
   rw[e1,e2]at hl
   have hmo:cY o (i+1)≤cY o (ai v0 v1):=by unfold cY;omega
   rw[show(av (v10+i) != v2)=false by simp[av,hc],W2,show(cY o i+1==v3)=false by rw[beq_eq_false_iff_ne];omega,W2]
   exact hl
  ·obtain⟨e1,e2⟩:=IW ho hw hi hc
   rw[e1,e2]at hl
   rw[show(av (v10+i) != v2)=true by simp[av,hc],WZ]
   exact hl
theorem N1 (v0 v1 v2 v3 v10 v11 v12 v13:Int) (F d:Nat) (hm:bk v0 v1=true) (hf:v10=aM v0 v1) (hw:0≤v2∧v2≤6) (o:Int) (ho:o=(v2-v10%7)%7) (hk:1≤v3∧v3≤cY o (ai v0 v1)):∀(m:Nat) (i:Int) (n:Nat),0≤i→i+m=o+7*(v3-1)→m<n→
  zh F (d+3) n (vU v0 v1 v2 v3 v10 (cY o i) (qi v10 o i) i)=some (.ret,(wZ v3 v10 (o+7*(v3-1)))):=by
 have hd:=jr hm
 have hr:=sA hm
 have hq:0≤o∧o≤6:=by omega
 have hlt:o+7*(v3-1)<ai v0 v1:=by have:=hk.2;unfold cY at this;omega
 intro m
 induction m with
 |zero=>
  intro i n hi hm' hn
  obtain⟨n,rfl⟩:∃k,n=k+1:=⟨n-1,by omega⟩
  have:i=o+7*(v3-1):=by omega
  subst this
  have hc:(v10+(o+7*(v3-1)))%7=v2:=by omega
  obtain⟨e1,e2,e3,e4⟩:=Fc ho hw hi hc
  rw[tn,show decide (o+7*(v3-1)<ai v0 v1)=true by simp;omega,WZ,wrI (n:=v10+(o+7*(v3-1))) (by omega),wrI (n:=cY o (o+7*(v3-1))+1) (by omega)]
  rw[show cR (v10+(o+7*(v3-1)))=true by simp only[cR,mid,WW,WY];omega,Bool.and_self,WZ]
  rw[show(av (v10+(o+7*(v3-1))) != v2)=false by simp[av,hc],W2,show(cY o (o+7*(v3-1))+1==v3)=true by rw[beq_iff_eq];omega,WZ]
 |succ m ih=>
  intro i n hi hm' hn
  obtain⟨n,rfl⟩:∃k,n=k+1:=⟨n-1,by omega⟩
  have hmi:0≤cY o i∧cY o i≤5∧cY o i<v3:=by unfold cY;omega
  have hl:=ih (i+1) n (by omega) (by omega) (by omega)
  rw[tn,show decide (i<ai v0 v1)=true by simp;omega,WZ,wrI (n:=v10+i) (by omega),wrI (n:=i+1) (by omega),wrI (n:=cY o i+1) (by omega)]
  rw[show cR (v10+i)=true by simp only[cR,mid,WW,WY];omega,Bool.and_self,WZ]
  by_cases hc:(v10+i)%7=v2
  ·obtain⟨e1,e2,e3,e4⟩:=Fc ho hw hi hc
   rw[e1,e2]at hl
   rw[show(av (v10+i) != v2)=false by simp[av,hc],W2,show(cY o i+1==v3)=false by rw[beq_eq_false_iff_ne];omega,W2]
   exact hl
  ·obtain⟨e1,e2⟩:=IW ho hw hi hc
   rw[e1,e2]at hl
   rw[show(av (v10+i) != v2)=true by simp[av,hc],WZ]
   exact hl
theorem My (v0 v1 v2 v3 v10 v11 v12 v13:Int) (hg:(v10==aM v0 v1&&(bk v0 v1&&(!dI v2 v3&&(v11==0&&(v12==0&&v13==0)))))=true):∃N d,zh N d N (vU v0 v1 v2 v3 v10 v11 v12 v13)=some (bb Prod.mk [(GQ v3 (n6 v0 v1 v2), .exit 0,(xO v3 (cw v0 v1 v2+7*(n6 v0 v1 v2-1))))] (.ret) (wZ v3 v10 (cw v0 v1 v2+7*(v3-1)-v10))):=by
 simp only[WW,beq_iff_eq,Bool.not_eq_true']at hg
 obtain⟨rfl,hm,hb,rfl,rfl,rfl⟩:=hg
 obtain⟨hw,hk⟩:=Ia hb
 have hd:=jr hm
 let o:Int:=(v2-aM v0 v1%7)%7
 have ho:o=(v2-aM v0 v1%7)%7:=rfl
 have hq:0≤o∧o≤6:=by omega
 have h0:cY o 0=0:=by unfold cY;omega
 have hl0:qi (aM v0 v1) o 0=0:=by unfold qi;rw[if_pos h0]
 have hfr:cw v0 v1 v2=aM v0 v1+o:=rfl
 have hcn:n6 v0 v1 v2=cY o (ai v0 v1):=by unfold n6 cY;rw[hfr];omega
 have hme:4≤cY o (ai v0 v1):=by unfold cY;omega
 refine⟨200,3,?_⟩
 cases he:GQ v3 (n6 v0 v1 v2)with
 |true=>
  have hk':v3= -1∨v3>cY o (ai v0 v1):=by
   rw[hcn]at he
   simpa[GQ]using he
  have:=PW v0 v1 v2 v3 (aM v0 v1) 0 0 0 200 0 hm rfl hw o ho hk' (ai v0 v1).toNat 0 200 (by omega) (by omega) (by omega)
  rw[h0,hl0]at this
  rw[this]
  have hle:qi (aM v0 v1) o (ai v0 v1)=cw v0 v1 v2+7*(n6 v0 v1 v2-1):=by unfold qi;rw[if_neg (by omega),hcn,hfr]
  simp[bb,hle]
 |false=>
  have hk':1≤v3∧v3≤cY o (ai v0 v1):=by
   rw[hcn]at he
   simp[GQ]at he
   omega
  have:=N1 v0 v1 v2 v3 (aM v0 v1) 0 0 0 200 0 hm rfl hw o ho hk' (o+7*(v3-1)).toNat 0 200 (by omega) (by omega) (by omega)
  rw[h0,hl0]at this
  rw[this]
  simp[bb,hfr,show aM v0 v1+o+7*(v3-1)-aM v0 v1=o+7*(v3-1) by omega]
theorem vp (a0:Int) (a1:Int) (a2:Int) (a3:Int):∃F d,run QK F d 118 Tryz.f118 jh (a0,a1,a2,a3,())=some (nJ.enc (kd a0 a1 a2 a3)):=by
 refine⟨200,6,?_⟩
 rw[uD]
 unfold kd
 cases hd:ai a0 a1==0 with
 |true=>rfl
 |false=>
  have hd0:ai a0 a1≠0:=by simpa using hd
  obtain⟨y1,y2,m1,m2⟩:=(dr a0 a1).2.2 hd0
  have hm:bk a0 a1=true:=by simp only[bk,WW,WY];omega
  rw[W2,W2]
  rw[show(bif bif decide (a2<0)then true else decide (a2>6)then true else bif a3 != -1 then bif decide (a3<1)then true else decide (a3>5)else false)=dI a2 a3 by
   unfold dI
   cases decide (a2<0)<;>cases decide (a2>6)<;>cases (a3 != -1)<;>cases decide (a3<1)<;>rfl]
  cases hb:dI a2 a3 with
  |true=>rfl
  |false=>
   obtain⟨hw,hk⟩:=Ia hb
   have hdm:=jr hm
   have hr:=sA hm
   have hf:K7 {year:=a0,month:=a1,day:=1}=aM a0 a1:=by unfold K7 aM;simp only;omega
   have hfr:aM a0 a1≤cw a0 a1 a2∧cw a0 a1 a2≤aM a0 a1+6:=by unfold cw;omega
   rw[hf,show zl {year:=a0,month:=a1,day:=1}=true by simp only[zl,hm,lit,Bool.true_and];rfl,hm]
   simp only[beq_self_eq_true,Bool.not_false,Bool.and_self,WZ,W2]
   have hc:(aM a0 a1+ai a0 a1-1-cw a0 a1 a2)/7=n6 a0 a1 a2-1:=by unfold n6;omega
   rcases hk with rfl|hk
   ·rw[show GQ (-1) (n6 a0 a1 a2)=true from rfl,WZ,show((-1:Int)== -1)=true from rfl,WZ,WZ,hc,show 7*(n6 a0 a1 a2-1)=(n6 a0 a1 a2-1)*7 by omega]
    rfl
   ·rw[show(a3== -1)=false by rw[beq_eq_false_iff_ne];omega]
    simp only[W2]
    have hcc:decide (cw a0 a1 a2+7*(a3-1)≥aM a0 a1+ai a0 a1)=decide (a3>n6 a0 a1 a2):=by
     rw[Bool.eq_iff_iff,WY,WY];unfold n6;omega
    rw[show GQ a3 (n6 a0 a1 a2)=decide (a3>n6 a0 a1 a2) by unfold GQ;rw[show(a3== -1)=false by rw[beq_eq_false_iff_ne];omega,Bool.false_or],hcc]
    cases decide (a3>n6 a0 a1 a2)with
    |true=>rfl
    |false=>
     rw[W2,W2,show aM a0 a1+(cw a0 a1 a2+7*(a3-1)-aM a0 a1)=cw a0 a1 a2+7*(a3-1) by omega,wrI (by omega)]
     rfl
theorem tQ (a0:a8) (a1:oi) (a2:Int) (hg:dX a0 a1 a2=true):∃F d,run Pd F d 104 Tryz.f104 iq (a0,a1,a2,())=some (gW.enc (bU a0 a1 a2)):=by
 refine⟨200,6,?_⟩
 rw[sk]
 simp only[dX,lit,WW,WY]at hg
 simp only[gW,Res.int,bU]
 have w:∀k,IntKind.wrap IntKind.i64 (IntKind.wrap IntKind.i64 (IntKind.wrap IntKind.i64 ((kd a2 a1.month a1.weekday k).1*1440)+a1.minute)-a0.base)=(kd a2 a1.month a1.weekday k).1*1440+a1.minute-a0.base:=fun k=>by
  have:=Ep a2 a1.month a1.weekday k
  rw[wrI (n:=(kd a2 a1.month a1.weekday k).1*1440) (by omega),wrI (n:=(kd a2 a1.month a1.weekday k).1*1440+a1.minute) (by omega),wrI (by omega)]
 rw[w,w]
 cases a1.ck==5<;>rfl
theorem qB (a0:a8) (a1:Int) (hg:cE a0 a1=true):∃F d,run PF F d 80 Tryz.f80 fq (a0,a1,())=some (fl.enc (mY a0 a1)):=by
 refine⟨200,6,?_⟩
 rw[oH]
 simp only[cE,cP,iK,WW]at hg
 obtain⟨⟨⟨b1,b2,b3⟩,b4⟩,b5,b6⟩:=hg
 have b1':=b1
 simp only[lit,mid,WW,WY]at b1' b4
 simp only[fl,Res.bool,mY]
 cases h0:a0.shift==0 with
 |true=>rfl
 |false=>
  have w:IntKind.wrap IntKind.i64 (a1+a0.base)=a1+a0.base:=wrI (by omega)
  have ho:bz (a1+a0.base) 1440=true:=by simp only[bz,byB,big,WW,WY];omega
  have k1:∀y,dX a0 a0.on y=true:=fun y=>by simp only[dX,b1,b2,Bool.and_self]
  have k2:∀y,dX a0 a0.off y=true:=fun y=>by simp only[dX,b1,b3,Bool.and_self]
  have hdv:qK (a1+a0.base) 1440=(a1+a0.base)/1440:=rfl
  have hy:(rOf ((a1+a0.base)/1440)).year=cG a0 a1:=rfl
  simp only[w,ho,hdv,b6,k1,k2,hy,Bool.and_self,Bool.true_and,WZ,W2,ge_iff_le]
  cases decide (bU a0 a0.on (cG a0 a1)<bU a0 a0.off (cG a0 a1))<;>cases decide (bU a0 a0.on (cG a0 a1)≤a1)<;>cases decide (bU a0 a0.off (cG a0 a1)≤a1)<;>rfl
theorem uc (a0:a8) (a1:Int) (hg:cE a0 a1=true):∃F d,run Pm F d 41 Tryz.f41 hN (a0,a1,())=some (iF.enc (bM a0 a1)):=by
 refine⟨200,6,?_⟩
 rw[rm]
 have hg':=hg
 simp only[cE,cP,iK,lit,mid,WW,WY]at hg'
 rw[hg]
 simp only[iF,Res.int,bM,Bool.and_self,WZ]
 rw[wrI (n:=a1+a0.base) (by omega),wrI (n:=a1+a0.base+a0.shift) (by omega)]
 cases mY a0 a1<;>rfl
theorem oa (a0:a8) (a1:Int) (a2:Int) (hg:kU a0 a1 a2=true):∃F d,l6 PQ F d 77 Tryz.f77 dY ec (a0,a1,a2,())=some (kr a0 a1 a2):=by
 refine⟨200,6,?_⟩
 rw[ny]
 simp only[kU,WW,WY]at hg
 obtain⟨p3,p1,p1',p2,p2',g1,g2,g3,g4⟩:=hg
 unfold kr
 have w1:IntKind.wrap IntKind.i64 (a1*1440)=a1*1440:=wrI (by omega)
 have w2:IntKind.wrap IntKind.i64 (a1*1440+a2)=a1*1440+a2:=wrI (by omega)
 have w3:IntKind.wrap IntKind.i64 (a1*1440+a2-a0.base)=a1*1440+a2-a0.base:=wrI (by omega)
 have w4:IntKind.wrap IntKind.i64 (a1*1440+a2-a0.base-a0.shift)=a1*1440+a2-a0.base-a0.shift:=wrI (by omega)
 have hs:lit a0.shift=true:=by simp only[lit,WW,WY];omega
 have o1:cE a0 (a1*1440+a2-a0.base)=true:=by
  simp only[cE,cP,p3,hs,mid,Bool.true_and,WW,WY,dj];omega
 have o2:cE a0 (a1*1440+a2-a0.base-a0.shift)=true:=by
  simp only[cE,cP,p3,hs,mid,Bool.true_and,WW,WY,dj];omega
 simp only[w1,w2,w3,w4,o1,o2,Bool.and_self,Bool.true_and,Bool.true_or,WZ]
 rw[show(bif decide (a0.shift>0)then bM a0 (a1*1440+a2-a0.base-a0.shift)==a1*1440+a2 else false)=(decide (a0.shift>0)&&(bM a0 (a1*1440+a2-a0.base-a0.shift)==a1*1440+a2)) by cases decide (a0.shift>0)<;>rfl]
 cases (decide (a0.shift>0)&&(bM a0 (a1*1440+a2-a0.base-a0.shift)==a1*1440+a2))<;>cases bM a0 (a1*1440+a2-a0.base)==a1*1440+a2<;>rfl
theorem RN (l2:List (Int)) (O0 O1 O2 O3 O4 O5 O6 O7 O8 O9 v7:Int) (F d:Nat) (z:a8) (hz:z=(⟨O0,O1,⟨O2,O3,O4,O5⟩,⟨O6,O7,O8,O9⟩⟩:a8)) (hc:ao z=0):∀(k:Nat) (t:Int) (n:Nat),578880≤t→t+k≤5258868000→bX (dG z) k t=true→k<n→
  yX F (d+3) n (wu (dG z t) O0 O1 O2 O3 O4 O5 O6 O7 O8 O9 t)=some (.exit 0,(rS (dG z (bp (dG z) k t)) O0 O1 O2 O3 O4 O5 O6 O7 O8 O9)):=by
 obtain⟨z1,z2,z3,_⟩:=bx hc
 have step:∀(t:Int) (n:Nat),578880≤t→t≤5258868000→yX F (d+3) (n+1) (wu (dG z t) O0 O1 O2 O3 O4 O5 O6 O7 O8 O9 t)=cond (dG z t).isEmpty (yX F (d+3) n (wu (dG z (t+1)) O0 O1 O2 O3 O4 O5 O6 O7 O8 O9 (t+1))) (some (.exit 0,(rS (dG z t) O0 O1 O2 O3 O4 O5 O6 O7 O8 O9))):=by
  intro t n h0 h1
  have hl:=Gb (dG z t)
  rw[Ni,hl.2.2.2,wrI (n:=t+1) (by omega)]
  have d3:=wK (t:=t+1) (by omega)
  cases (dG z t).isEmpty with
  |false=>rfl
  |true=>
   rw[WZ,WZ]
   have e1:IntKind.wrap IntKind.i64 (Int.tdiv (t+1) 1440)=(t+1)/1440:=by
    rw[Int.tdiv_eq_ediv_of_nonneg (by omega)];exact wrI (by omega)
   have e2:Int.tmod (t+1) 1440=(t+1)%1440:=Int.tmod_eq_emod_of_nonneg (by omega)
   rw[e1,e2,←hz]
   rw[show kU z ((t+1)/1440) ((t+1)%1440)=true by simp only[kU,z3,Bool.true_and,WW,WY];omega]
   rw[show Nat.beq (kr z ((t+1)/1440) ((t+1)%1440)).length (kr z ((t+1)/1440) ((t+1)%1440)).length=true by simp]
   rfl
 intro k
 induction k with
 |zero=>
  intro t n h0 h1 hr hn
  obtain⟨n,rfl⟩:∃k,n=k+1:=⟨n-1,by omega⟩
  rw[step t n h0 (by omega)]
  simp only[bX,Bool.not_eq_true']at hr
  rw[hr]
  rfl
 |succ k ih=>
  intro t n h0 h1 hr hn
  obtain⟨n,rfl⟩:∃k,n=k+1:=⟨n-1,by omega⟩
  rw[step t n h0 (by omega)]
  simp only[bX,Bool.or_eq_true,Bool.not_eq_true']at hr
  simp only[bp]
  cases he:(dG z t).isEmpty with
  |false=>rfl
  |true=>
   rw[he]at hr
   rw[WZ,WZ]
   refine ih (t+1) n (by omega) (by omega) ?_ (by omega)
   rcases hr with h|h
   ·cases h
   ·exact h
theorem Nz (l2:List (Int)) (O0 O1 O2 O3 O4 O5 O6 O7 O8 O9 v7:Int) (hg:(ao (⟨O0,O1,⟨O2,O3,O4,O5⟩,⟨O6,O7,O8,O9⟩⟩:a8)==0&&(fp v7&&(Jg l2 (dG (⟨O0,O1,⟨O2,O3,O4,O5⟩,⟨O6,O7,O8,O9⟩⟩:a8) v7)&&bX (dG (⟨O0,O1,⟨O2,O3,O4,O5⟩,⟨O6,O7,O8,O9⟩⟩:a8)) 200 v7)))=true):∃N d,yX N d N (wu l2 O0 O1 O2 O3 O4 O5 O6 O7 O8 O9 v7)=some (bb Prod.mk [] (.exit 0) (rS (dG (⟨O0,O1,⟨O2,O3,O4,O5⟩,⟨O6,O7,O8,O9⟩⟩:a8) (bp (dG (⟨O0,O1,⟨O2,O3,O4,O5⟩,⟨O6,O7,O8,O9⟩⟩:a8)) 200 v7)) O0 O1 O2 O3 O4 O5 O6 O7 O8 O9)):=by
 simp only[WW,beq_iff_eq,Jg,WY]at hg
 obtain⟨h1,h2,rfl,h3⟩:=hg
 simp only[fp,WW,WY]at h2
 exact⟨300,3,RN (dG (⟨O0,O1,⟨O2,O3,O4,O5⟩,⟨O6,O7,O8,O9⟩⟩:a8) v7) O0 O1 O2 O3 O4 O5 O6 O7 O8 O9 v7 300 0 _ rfl h1 200 v7 300 (by omega) (by omega) h3 (by omega)⟩
theorem qE (a0:a8) (a1:Int) (a2:Int) (hg:zy a0 a1 a2=true):∃F d,run OB F d 39 Tryz.f39 ft (a0,a1,a2,())=some (kA.enc (HK a0 a1 a2)):=by
 refine⟨200,6,?_⟩
 rw[pG]
 simp only[zy,WW,beq_iff_eq]at hg
 obtain⟨hz,hm⟩:=hg
 obtain⟨z1,z2,z3,_⟩:=bx hz
 have ht:=A6 hm
 obtain⟨hr,_,_⟩:=Ou hz ht
 have hf:=qX hr
 have ht':=ht
 simp only[fp,WW,WY]at ht'
 have hm':0≤a2∧a2<1440:=by
  simp only[mg,WW,WY]at hm
  exact hm.2
 rw[wrI (n:=a1*1440) (by omega),wrI (n:=a1*1440+a2) (by omega)]
 obtain⟨d1,d2⟩:=wK (t:=a1*1440+a2) (by omega) (by omega)
 rw[d1,d2]
 have hl:=Gb (dG a0 (bp (dG a0) 200 (a1*1440+a2)))
 rw[show kU a0 ((a1*1440+a2)/1440) ((a1*1440+a2)%1440)=true by simp only[kU,z3,Bool.true_and,WW,WY];omega]
 rw[show kr a0 ((a1*1440+a2)/1440) ((a1*1440+a2)%1440)=dG a0 (a1*1440+a2) from rfl,hz,ht,hr,hl.2.1,hl.2.2.1,hf]
 simp only[Jg,decide_true,beq_self_eq_true,Bool.and_self,Bool.not_false,WZ]
 rw[show Nat.beq (dG a0 (a1*1440+a2)).length (dG a0 (a1*1440+a2)).length=true by simp]
 rfl
theorem uE (a0:Int) (hg:cR a0=true):∃F d,run Ro F d 143 Tryz.f143 gX (a0,())=some (me.enc (db a0)):=by
 refine⟨200,6,?_⟩
 rw[qU]
 have h':=(cN a0).1 hg
 unfold KB
 rw[show bz a0 19=true by simp only[bz,big,byB,WW,WY];omega]
 rw[wrI (n:=7*(a0%19)) (by omega),wrI (n:=7*(a0%19)+1) (by omega)]
 rw[show bz (7*(a0%19)+1) 19=true by simp only[bz,big,byB,WW,WY];omega]
 rfl
theorem vW (a0:Int):∃F d,run Ql F d 142 Tryz.f142 jj (a0,())=some (nO.enc (fw a0)):=by
 refine⟨200,6,?_⟩
 rw[tX]
 have e:(bif decide (a0≥3762)then decide (a0≤9999)else false)=fw a0:=by
  unfold fw inB
  cases decide (a0≥3762)<;>rfl
 rw[e]
 rfl
theorem IL {y:Int} (h:1≤y):bf (y+1)=cond (db y) (bf y+1+12) (bf y+12):=by
 unfold bf db
 obtain⟨q,r,hy,hr⟩:∃q r:Int,y=19*q+r∧(r=0∨r=1∨r=2∨r=3∨r=4∨r=5∨r=6∨r=7∨r=8∨r=9∨r=10∨r=11∨r=12∨r=13∨r=14∨r=15∨r=16∨r=17∨r=18):=⟨y/19,y%19,by omega,by omega⟩
 have hm:y%19=r:=by omega
 rw[hm]
 subst hy
 rcases hr with rfl|rfl|rfl|rfl|rfl|rfl|rfl|rfl|rfl|rfl|rfl|rfl|rfl|rfl|rfl|rfl|rfl|rfl|rfl<;>simp only[Int.reduceMul,Int.reduceAdd,Int.reduceMod,Int.reduceLT,decide_true,decide_false,WZ,W2]<;>omega
theorem R8 (v0 v4 v5:Int) (F d:Nat) (h0:v0≤100000):∀(k:Nat) (y:Int) (n:Nat),(v0-y).toNat=k→1≤y→y≤v0→k<n→
  DG F (d+3) n (yR v0 (bf y) y)=some (.exit 0,(yj (bf v0))):=by
 intro k
 induction k with
 |zero=>
  intro y n hk h1 h2 hn
  obtain⟨n,rfl⟩:∃k,n=k+1:=⟨n-1,by omega⟩
  have:y=v0:=by omega
  subst this
  rw[EJ,decide_eq_false (by omega:¬y<y)]
  rfl
 |succ k ih=>
  intro y n hk h1 h2 hn
  obtain⟨n,rfl⟩:∃k,n=k+1:=⟨n-1,by omega⟩
  have hr:=kQ h1 (by omega:y≤100000)
  have hs:=IL h1
  rw[EJ,decide_eq_true (by omega:y<v0),show cR y=true from(cN _).2 (by omega)]
  rw[wrI (n:=bf y+1) (by omega),wrI (n:=bf y+1+12) (by omega),wrI (n:=bf y+12) (by omega),wrI (n:=y+1) (by omega)]
  have:=ih (y+1) n (by omega) (by omega) (by omega) (by omega)
  rw[hs]at this
  cases hl:db y with
  |true=>rw[hl]at this;exact this
  |false=>rw[hl]at this;exact this
theorem MJ (v0 v4 v5:Int) (hg:(bO v0&&(decide (1≤v5)&&(decide (v5≤v0)&&(decide (v0-v5≤20)&&v4==bf v5))))=true):∃N d,DG N d N (yR v0 v4 v5)=some (bb Prod.mk [] (.exit 0) (yj (bf v0))):=by
 simp only[bZ,WW,beq_iff_eq,WY]at hg
 obtain⟨⟨h1,h2⟩,h3,h4,h5,rfl⟩:=hg
 exact⟨40,3,R8 v0 (bf v5) v5 40 0 h2 (v0-v5).toNat v5 40 rfl h3 h4 (by omega)⟩
theorem qm (a0:Int) (hg:bO a0=true):∃F d,run N9 F d 150 Tryz.f150 fk (a0,())=some (kC.enc (bf a0)):=by
 refine⟨200,6,?_⟩
 rw[oC]
 have h':=(bZ a0).1 hg
 rw[wrI (n:=a0-1) (by omega),Int.tdiv_eq_ediv_of_nonneg (by omega),wrI (n:=(a0-1)/19) (by omega),wrI (n:=19*((a0-1)/19)) (by omega),wrI (n:=19*((a0-1)/19)+1) (by omega),wrI (n:=235*((a0-1)/19)) (by omega)]
 have e:bf (19*((a0-1)/19)+1)=235*((a0-1)/19):=by unfold bf;omega
 rw[e,hg,decide_eq_true (by omega:1≤19*((a0-1)/19)+1),decide_eq_true (by omega:19*((a0-1)/19)+1≤a0),decide_eq_true (by omega:a0-(19*((a0-1)/19)+1)≤20),beq_self_eq_true]
 rfl
theorem rv (a0:Int) (hg:bO a0=true):∃F d,run Od F d 140 Tryz.f140 gv (a0,())=some (lC.enc (TX a0)):=by
 refine⟨200,6,?_⟩
 rw[qL]
 have h':=(bZ a0).1 hg
 have hm:=kQ h'.1 h'.2
 rw[wrI (n:=765433*bf a0) (by omega),wrI (n:=5604+765433*bf a0) (by omega),Int.tdiv_eq_ediv_of_nonneg (by omega),Int.tmod_eq_emod_of_nonneg (by omega),wrI (n:=(5604+765433*bf a0)/25920) (by omega),wrI (by omega)]
 rw[hg]
 rfl
theorem vC (a0:Int) (a1:Mh) (hg:E6 a0 a1=true):∃F d,run Ow F d 151 Tryz.f151 jf (a0,a1,())=some (om.enc (DX a0 a1)):=by
 refine⟨200,6,?_⟩
 rw[tZ]
 have hg':bO a0=true∧cR a1.day=true:=by simpa only[E6,WW]using hg
 have h':=(bZ a0).1 hg'.1
 rw[hg'.2,show cR a0=true from(cN _).2 (by omega),wrI (n:=a0-1) (by omega),show cR (a0-1)=true from(cN _).2 (by omega)]
 unfold DX av
 cases decide (a1.part≥19440)<;>cases a1.day%7==2<;>cases a1.day%7==1<;>cases decide (a1.part≥9924)<;>cases decide (a1.part≥16789)<;>cases db a0<;>cases db (a0-1)<;>rfl
theorem rK (a0:Int) (hg:bO a0=true):∃F d,run QF F d 141 Tryz.f141 gr (a0,())=some (ga.enc (fB a0)):=by
 refine⟨200,6,?_⟩
 rw[qA]
 have h':=(bZ a0).1 hg
 have hp:=jT h'.1 h'.2
 have hput:DX a0 {day:= -1373427+aK a0/25920,part:=aK a0%25920}=cond (Ea a0) 1 0:=rfl
 have hd:(ga.enc (fB a0))=AV.int .i64 (J4 ((-1373427+aK a0/25920)%7) (cond (Ea a0) 1 0)):=rfl
 have hpn:(0:Int)≤cond (Ea a0) 1 0∧(cond (Ea a0) 1 0:Int)≤1:=by cases Ea a0<;>decide
 rw[hput,hd]
 rw[show E6 a0 {day:= -1373427+aK a0/25920,part:=aK a0%25920}=true by simp only[E6,hg,Bool.true_and];exact(cN _).2 (by omega),hg]
 clear hput hd
 have hq:0≤aK a0/25920∧aK a0/25920≤100000000:=by omega
 generalize (cond (Ea a0) 1 0:Int)=p at*
 generalize aK a0/25920=q at*
 rw[wrI (n:= -1373427+q+p) (by omega),show cR (-1373427+q+p)=true from(cN _).2 (by omega),wrI (n:=p+1) (by omega)]
 unfold J4 av
 rw[show((-1373427+q)%7+p)%7=(-1373427+q+p)%7 by omega]
 cases (-1373427+q+p)%7==0<;>cases (-1373427+q+p)%7==3<;>cases (-1373427+q+p)%7==5<;>rfl
theorem pk (a0:Int) (hg:bO a0=true):∃F d,run OE F d 124 Tryz.f124 eJ (a0,())=some (jP.enc (aP a0)):=by
 refine⟨200,6,?_⟩
 rw[nT]
 have h':=(bZ a0).1 hg
 have hp:=jT h'.1 h'.2
 have hn:=fV h'.1 h'.2
 rw[hg,wrI (n:= -1373427+aK a0/25920+fB a0) (by omega)]
 rfl
theorem wc (a0:Int) (hg:kg a0=true):∃F d,run PC F d 126 Tryz.f126 iZ (a0,())=some (nQ.enc (bt a0)):=by
 refine⟨200,6,?_⟩
 rw[uh]
 have h':1≤a0∧a0≤99999:=by simpa only[kg,WW,WY]using hg
 rw[wrI (n:=a0+1) (by omega),show bO (a0+1)=true from(bZ _).2 (by omega),show bO a0=true from(bZ _).2 (by omega)]
 have h1:=fV (h:=a0) (by omega) (by omega)
 have h2:=fV (h:=a0+1) (by omega) (by omega)
 rw[wrI (n:=aP (a0+1)-aP a0) (by omega)]
 rfl
theorem ug (a0:Int) (a1:Int):∃F d,run QQ F d 125 Tryz.f125 iD (a0,a1,())=some (mu.enc (dH a0 a1)):=by
 refine⟨200,6,?_⟩
 rw[q9]
 unfold dH
 cases hr:fw a0 with
 |false=>rfl
 |true=>
  have hb:=(cr a0).1 hr
  rw[show cR a0=true from(cN _).2 (by omega),show kg a0=true by simp only[kg,WW,WY];omega]
  simp only[WZ,Bool.true_and,Bool.not_true,W2]
  have e:(bif decide (a1<1)then true else decide (a1>13))= !(decide (1≤a1)&&decide (a1≤13)):=by
   rw[Bool.eq_iff_iff]
   cases h1:decide (a1<1)<;>simp at h1⊢ <;>omega
  rw[e]
  cases hm:(decide (1≤a1)&&decide (a1≤13))with
  |false=>rfl
  |true=>
   have hm':1≤a1∧a1≤13:=by simpa only[WW,WY]using hm
   simp only[Bool.not_true,W2,WZ,Cz,bne]
   have hc:a1=1∨a1=2∨a1=3∨a1=4∨a1=5∨a1=6∨a1=7∨a1=8∨a1=9∨a1=10∨a1=11∨a1=12∨a1=13:=by omega
   rcases hc with rfl|rfl|rfl|rfl|rfl|rfl|rfl|rfl|rfl|rfl|rfl|rfl|rfl<;>cases db a0<;>cases (bt a0).tmod 10==5<;>cases (bt a0).tmod 10==3<;>rfl
theorem qP:∃F d,run Oi F d 116 Tryz.f116 gz (())=some (lv.enc (FA)):=⟨200,6,by rw[qM];rfl⟩
theorem Ll:Et=2278650:=by
 unfold Et
 rw[←eU,show(9999:Int)+1=10000 from rfl,lh]
 rfl
theorem uf:∃F d,run RD F d 117 Tryz.f117 ig (())=some (mK.enc (Et)):=by
 refine⟨200,6,?_⟩
 rw[sx]
 have h:=Ll
 unfold Et at h
 rw[wrI (n:=aP 9999+bt 9999) (by omega),wrI (n:=aP 9999+bt 9999-1) (by omega)]
 rfl
theorem SI (v0 v3 v4:Int) (F d:Nat) (hi0:inH v0=true):∀(k:Nat) (lo hi:Int) (n:Nat),hi-lo≤(k:Int)+1→3762≤lo→lo<hi→hi≤10000→aP lo≤v0→v0<aP hi→k<n→
  CM F (d+3) n (yO v0 lo hi)=some (.exit 0,(xJ (aW v0))):=by
 intro k
 induction k with
 |zero=>
  intro lo hi n hk h1 h2 h3 h4 h5 hn
  obtain⟨n,rfl⟩:∃k,n=k+1:=⟨n-1,by omega⟩
  have e:hi=lo+1:=by omega
  subst e
  rw[Es,wrI (n:=lo+1-lo) (by omega),decide_eq_false (by omega:¬lo+1-lo>1),pg ((cr lo).2 (by omega)) h4 h5]
  rfl
 |succ k ih=>
  intro lo hi n hk h1 h2 h3 h4 h5 hn
  obtain⟨n,rfl⟩:∃k,n=k+1:=⟨n-1,by omega⟩
  rw[Es,wrI (n:=hi-lo) (by omega)]
  by_cases hc:hi-lo>1
  ·rw[decide_eq_true hc,WZ,wrI (n:=lo+hi) (by omega),Int.tdiv_eq_ediv_of_nonneg (by omega),wrI (n:=(lo+hi)/2) (by omega),show bO ((lo+hi)/2)=true from(bZ _).2 (by omega)]
   simp only[Bool.and_self,WZ]
   by_cases hm:aP ((lo+hi)/2)≤v0
   ·rw[decide_eq_true hm,WZ]
    exact ih ((lo+hi)/2) hi n (by omega) (by omega) (by omega) h3 hm h5 (by omega)
   ·rw[decide_eq_false hm,W2]
    exact ih lo ((lo+hi)/2) n (by omega) h1 (by omega) (by omega) h4 (by omega) (by omega)
  ·have e:hi=lo+1:=by omega
   subst e
   rw[decide_eq_false hc,pg ((cr lo).2 (by omega)) h4 h5]
   rfl
theorem Nk (v0 v3 v4:Int) (hg:(zG v0 v3 v4)=true):∃N d,CM N d N (yO v0 v3 v4)=some (bb Prod.mk [] (.exit 0) (xJ (aW v0))):=by
 simp only[zG,WW,WY]at hg
 obtain⟨h1,h2,h3,h4,h5,h6⟩:=hg
 exact⟨20000,3,SI v0 v3 v4 20000 0 h1 (v4-v3).toNat v3 v4 20000 (by omega) h2 h3 h4 h5 h6 (by omega)⟩
theorem tV (a0:Int) (hg:inH a0=true):∃F d,run OA F d 123 Tryz.f123 ik (a0,())=some (mr.enc (aW a0)):=by
 refine⟨200,6,?_⟩
 rw[sH]
 have hb:=(ml a0).1 hg
 have w1:aP 3762=249:=ja
 have w2:aP 10000=2278651:=lh
 rw[show zG a0 3762 10000=true by simp only[zG,hg,w1,w2,Bool.true_and,WW,WY];omega]
 rfl
theorem Sb (O0 O1 O2 v3 v4 v5:Int) (F d:Nat) (hr:fw v3=true):∀(k:Nat) (m o:Int) (n:Nat),(iO (bt v3) k m o).2<lQ (bt v3) (iO (bt v3) k m o).1→0≤o→o≤100000→1≤m→m+k≤100→k<n→
  FI F (d+3) n (Cx O0 O1 O2 v3 o m)=some (.exit 0,(yw O0 O1 O2 v3 (iO (bt v3) k m o).2 (iO (bt v3) k m o).1)):=by
 intro k
 induction k with
 |zero=>
  intro m o n hf h0 h1 h2 h3 hn
  obtain⟨n,rfl⟩:∃k,n=k+1:=⟨n-1,by omega⟩
  rw[E3,rr hr]
  have hf':o<lQ (bt v3) m:=hf
  rw[decide_eq_false (by omega:¬o≥lQ (bt v3) m)]
  rfl
 |succ k ih=>
  intro m o n hf h0 h1 h2 h3 hn
  obtain⟨n,rfl⟩:∃k,n=k+1:=⟨n-1,by omega⟩
  have hd:=wh v3 m
  rw[rr hr]at hd
  rw[E3,rr hr]
  unfold iO at hf⊢
  by_cases hc:o≥lQ (bt v3) m
  ·rw[decide_eq_true hc]at hf⊢
   rw[WZ]at hf
   rw[WZ,wrI (n:=o-lQ (bt v3) m) (by omega),wrI (n:=m+1) (by omega)]
   exact ih (m+1) (o-lQ (bt v3) m) n hf (by omega) (by omega) (by omega) (by omega) (by omega)
  ·rw[decide_eq_false hc]
   rfl
theorem KJ {h o:Int} (hr:fw h=true) (h0:0≤o) (h1:o<bt h):(0≤(iO (bt h) 13 1 o).2∧(iO (bt h) 13 1 o).2<lQ (bt h) (iO (bt h) 13 1 o).1)∧(De (bt h) 13 1 o 0 0).1=(iO (bt h) 13 1 o).1∧(De (bt h) 13 1 o 0 0).2=(iO (bt h) 13 1 o).2+1:=by
 have e:((o.toNat:Nat):Int)=o:=by omega
 have a:=T4 (tF hr).1 (o:=o.toNat) (by omega)
 have b:=Rx (tF hr).1 (o:=o.toNat) (by omega)
 simp only[zO,zK,e,WW,WY,beq_iff_eq]at a b
 exact⟨a.1,b⟩
theorem MV (O0 O1 O2 v3 v4 v5:Int) (hg:(E8 v3 v5 v4)=true):∃N d,FI N d N (Cx O0 O1 O2 v3 v4 v5)=some (bb Prod.mk [] (.exit 0) (yw O0 O1 O2 v3 (iO (bt v3) 13 1 v4).2 (iO (bt v3) 13 1 v4).1)):=by
 simp only[E8,WW,beq_iff_eq,WY]at hg
 obtain⟨h1,rfl,h3,h4⟩:=hg
 have hl:=sT h1
 exact⟨40,3,Sb O0 O1 O2 v3 v4 1 40 0 h1 13 1 v4 40 (KJ h1 h3 h4).1.2 h3 (by omega) (by omega) (by omega) (by omega)⟩
theorem NK {n:Int} (hi:inH n=true):eg n=⟨aW n,(iO (bt (aW n)) 13 1 (n-aP (aW n))).1,(iO (bt (aW n)) 13 1 (n-aP (aW n))).2+1⟩:=by
 obtain⟨y0,y1,y2,_⟩:=jo hi
 have hn:=eU (aW n)
 have hd:=LB y0 n 13 1 (aP (aW n)) 0 0
 obtain⟨_,r1,r2⟩:=KJ y0 (o:=n-aP (aW n)) (by omega) (by omega)
 unfold eg
 rw[hd.1,hd.2,r1,r2]
theorem xq (a0:Int) (hg:inH a0=true):∃F d,run PX F d 115 Tryz.f115 kh (a0,())=some (qc.enc (eg a0)):=by
 refine⟨200,6,?_⟩
 rw[vi]
 obtain⟨y0,y1,y2,_⟩:=jo hg
 have hb:=(ml a0).1 hg
 have hyr:=(cr _).1 y0
 have hn:=eU (aW a0)
 have hl:=sT y0
 obtain⟨⟨r1,r2⟩,_⟩:=KJ y0 (o:=a0-aP (aW a0)) (by omega) (by omega)
 have hd:=wh (aW a0) (iO (bt (aW a0)) 13 1 (a0-aP (aW a0))).1
 rw[rr y0]at hd
 rw[wrI (n:=a0-aP (aW a0)) (by omega),hg,show bO (aW a0)=true from(bZ _).2 (by omega)]
 rw[show E8 (aW a0) 1 (a0-aP (aW a0))=true by simp only[E8,y0,beq_self_eq_true,Bool.true_and,WW,WY];omega]
 rw[wrI (n:=(iO (bt (aW a0)) 13 1 (a0-aP (aW a0))).2+1) (by omega),NK hg]
 rfl
theorem qk (a0:Int) (a1:Bool):∃F d,run RH F d 122 Tryz.f122 fG (a0,a1,())=some (kv.enc (tP a0 a1)):=by
 refine⟨200,6,?_⟩
 rw[ph]
 unfold tP
 cases a0==1<;>cases a0==2<;>cases a0==10<;>cases a0==15<;>cases a0==16<;>cases a0==22<;>cases a0==23<;>cases a1<;>rfl
theorem x3 (a0:ob) (a1:Bool):∃F d,run OR F d 114 Tryz.f114 ke (a0,a1,())=some (pZ.enc (Ev a0 a1)):=by
 refine⟨200,6,?_⟩
 rw[vu]
 unfold Ev
 cases a0.month==1<;>cases a0.month==8<;>cases a0.month==10<;>(try rfl)<;>cases a0.day==15<;>cases a0.day==16<;>cases a0.day==21<;>cases a0.day==22<;>(try rfl)<;>cases a0.day==6<;>cases a0.day==7<;>cases a1<;>rfl
theorem PZ (d:ob) (ab:Bool):Ev d ab=ky d.month d.day ab:=by
 obtain⟨y,m,d⟩:=d
 unfold Ev tP ky eZ
 dsimp only
 rw[show List.range 13=[0,1,2,3,4,5,6,7,8,9,10,11,12] from rfl]
 have none_ok:∀l:List Nat,(∀j∈l,hit m d j=false)→l.find? (hit m d)=none:=by
  intro l hl
  rw[List.find?_eq_none]
  intro j hj
  rw[hl j hj]
  decide
 have ne:∀{a b:Int},a≠b→(a==b)=false:=fun h=>beq_eq_false_iff_ne.2 h
 by_cases m1:m=1
 ·subst m1
  rcases(show d=1∨d=2∨d=10∨d=15∨d=16∨d=22∨d=23∨(d≠1∧d≠2∧d≠10∧d≠15∧d≠16∧d≠22∧d≠23) by omega)with rfl|rfl|rfl|rfl|rfl|rfl|rfl|⟨h1,h2,h3,h4,h5,h6,h7⟩
  iterate 7 (cases ab<;>rfl)
  rw[none_ok _ (by
   intro j hj
   simp only[List.mem_cons,List.not_mem_nil,or_false]at hj
   rcases hj with rfl|rfl|rfl|rfl|rfl|rfl|rfl|rfl|rfl|rfl|rfl|rfl|rfl<;>simp[hit,cJ,QS,h1,h2,h3,h4,h5,h6,h7])]
  simp[ne h1,ne h2,ne h3,ne h4,ne h5,ne h6,ne h7]
 ·by_cases m8:m=8
  ·subst m8
   rcases(show d=15∨d=16∨d=21∨d=22∨(d≠15∧d≠16∧d≠21∧d≠22) by omega)with rfl|rfl|rfl|rfl|⟨h1,h2,h3,h4⟩
   iterate 4 (cases ab<;>rfl)
   rw[none_ok _ (by
    intro j hj
    simp only[List.mem_cons,List.not_mem_nil,or_false]at hj
    rcases hj with rfl|rfl|rfl|rfl|rfl|rfl|rfl|rfl|rfl|rfl|rfl|rfl|rfl<;>simp[hit,cJ,QS,h1,h2,h3,h4])]
   simp[ne h1,ne h2,ne h3,ne h4]
  ·by_cases m10:m=10
   ·subst m10
    rcases(show d=6∨d=7∨(d≠6∧d≠7) by omega)with rfl|rfl|⟨h1,h2⟩
    iterate 2 (cases ab<;>rfl)
    rw[none_ok _ (by
     intro j hj
     simp only[List.mem_cons,List.not_mem_nil,or_false]at hj
     rcases hj with rfl|rfl|rfl|rfl|rfl|rfl|rfl|rfl|rfl|rfl|rfl|rfl|rfl<;>simp[hit,cJ,QS,h1,h2])]
    simp[ne h1,ne h2]
   ·rw[none_ok _ (by
     intro j hj
     simp only[List.mem_cons,List.not_mem_nil,or_false]at hj
     rcases hj with rfl|rfl|rfl|rfl|rfl|rfl|rfl|rfl|rfl|rfl|rfl|rfl|rfl<;>simp[hit,cJ,QS,m1,m8,m10])]
    simp[ne m1,ne m8,ne m10]
theorem vP (a0:Int):∃F d,run Qr F d 101 Tryz.f101 iW (a0,())=some (od.enc (inH a0)):=by
 refine⟨200,6,?_⟩
 rw[uu,Ll,show FA=249 from ja]
 have e:(bif decide (a0≥249)then decide (a0≤2278650)else false)=inH a0:=by
  unfold inH
  rw[Bool.eq_iff_iff]
  cases h1:decide (a0≥249)<;>simp at h1⊢ <;>omega
 rw[e]
 rfl
theorem uF (a0:Int) (a1:Bool):∃F d,run P4 F d 100 Tryz.f100 iz (a0,a1,())=some (mm.enc (eS a0 a1)):=by
 refine⟨200,6,?_⟩
 rw[sq,PZ]
 unfold eS kT
 cases inH a0<;>rfl
theorem uz (a0:Int) (a1:Bool):∃F d,run Qq F d 71 Tryz.f71 gZ (a0,a1,())=some (mQ.enc (a7 a0 a1)):=by
 refine⟨200,6,?_⟩
 rw[rM]
 unfold a7 eS
 cases hi:inH a0 with
 |false=>
  rw[Bool.not_false,Bool.or_true]
  rfl
 |true=>
  have hb:=(ml a0).1 hi
  rw[show cR a0=true from(cN _).2 (by omega)]
  simp only[WZ,Bool.true_and,Bool.true_or]
  unfold av
  cases a0%7==6<;>rfl
theorem Oh (O0 O1:Int) (v1:Bool) (v5 v6:Int) (v7:Bool) (F d:Nat):∀(k:Nat) (x:Int) (n:Nat),inH x=true→cp (-1) v1 k x=true→k≤n→
  AO F (d+3) n (yd O0 O1 v1 x v6 (a7 (x-1) v1))=some (.exit 0,(tu O0 O1 v1 (bH (-1) v1 k x) v6)):=by
 intro k
 induction k with
 |zero=>intro x n hi hr hn;cases hr
 |succ k ih=>
  intro x n hi hr hn
  obtain⟨n,rfl⟩:∃k,n=k+1:=⟨n-1,by omega⟩
  have hx:=(ml x).1 hi
  rw[Kp,wrI (n:=x-1) (by omega),wrI (n:=x-1-1) (by omega)]
  simp only[cp,Bool.or_eq_true,Bool.not_eq_true']at hr
  unfold bH
  rw[show x+ -1=x-1 by omega]at hr⊢
  cases hc:a7 (x-1) v1 with
  |false=>rfl
  |true=>
   rw[hc]at hr
   rw[WZ,WZ]
   exact ih (x-1) n ((n7 _ _).1 hc).1 (hr.resolve_left (by simp)) (by omega)
theorem Kw (O0 O1:Int) (v1:Bool) (v5 v6:Int) (v7:Bool) (hg:(kD (-1) v1 v5&&v7==a7 (v5-1) v1)=true):∃N d,AO N d N (yd O0 O1 v1 v5 v6 v7)=some (bb Prod.mk [] (.exit 0) (tu O0 O1 v1 (bH (-1) v1 10 v5) v6)):=by
 simp only[kD,WW,Bool.or_eq_true,beq_iff_eq]at hg
 obtain⟨⟨_,h2,h3⟩,rfl⟩:=hg
 exact⟨20,3,Oh O0 O1 v1 v5 v6 (a7 (v5-1) v1) 20 0 10 v5 20 h2 h3 (by omega)⟩
theorem MP (O0 O1:Int) (v1:Bool) (v5 v6:Int) (v7:Bool) (F d:Nat):∀(k:Nat) (x:Int) (n:Nat),inH x=true→cp 1 v1 k x=true→k≤n→
  yx F (d+3) n (qS O0 O1 v1 v5 x (a7 (x+1) v1))=some (.exit 2,(po O0 O1 v5 (bH 1 v1 k x))):=by
 intro k
 induction k with
 |zero=>intro x n hi hr hn;cases hr
 |succ k ih=>
  intro x n hi hr hn
  obtain⟨n,rfl⟩:∃k,n=k+1:=⟨n-1,by omega⟩
  have hx:=(ml x).1 hi
  rw[Il,wrI (n:=x+1) (by omega),wrI (n:=x+1+1) (by omega)]
  simp only[cp,Bool.or_eq_true,Bool.not_eq_true']at hr
  unfold bH
  cases hc:a7 (x+1) v1 with
  |false=>rfl
  |true=>
   rw[hc]at hr
   rw[WZ,WZ]
   exact ih (x+1) n ((n7 _ _).1 hc).1 (hr.resolve_left (by simp)) (by omega)
theorem I3 (O0 O1:Int) (v1:Bool) (v5 v6:Int) (v7:Bool) (hg:(kD 1 v1 v6&&v7==a7 (v6+1) v1)=true):∃N d,yx N d N (qS O0 O1 v1 v5 v6 v7)=some (bb Prod.mk [] (.exit 2) (po O0 O1 v5 (bH 1 v1 10 v6))):=by
 simp only[kD,WW,Bool.or_eq_true,beq_iff_eq]at hg
 obtain⟨⟨_,h2,h3⟩,rfl⟩:=hg
 exact⟨20,3,MP O0 O1 v1 v5 v6 (a7 (v6+1) v1) 20 0 10 v6 20 h2 h3 (by omega)⟩
theorem vf (a0:Int) (a1:Bool) (hg:a7 a0 a1=true):∃F d,run Pz F d 72 Tryz.f72 ju (a0,a1,())=some (ot.enc (Vo a0 a1)):=by
 refine⟨200,6,?_⟩
 rw[tY]
 have ho:=Ry hg
 have hb:=(ml a0).1 ((n7 _ _).1 hg).1
 rw[wrI (n:=a0-1) (by omega),wrI (n:=a0+1) (by omega),ho.1,ho.2,beq_self_eq_true,beq_self_eq_true]
 rfl
theorem xu (a0:Sun) (a1:Int) (hg:yZ a0 a1=true):∃F d,run Qd F d 102 Tryz.f102 ko (a0,a1,())=some (jV.enc (IM a0 a1)):=by
 refine⟨200,6,?_⟩
 rw[wD]
 have hg':ax a0=0∧dj a1=true:=by simpa only[yZ,WW,beq_iff_eq]using hg
 obtain⟨hs0,hd⟩:=hg'
 obtain⟨⟨m1,m2⟩,⟨d1,d2⟩,he,hL⟩:=Bk hd
 have hr:=n5 hs0 hd
 unfold rOf qK
 have e1:IntKind.wrap IntKind.i64 ((ofG a1).1.month-1)=(ofG a1).1.month-1:=wrI (by omega)
 have e3:Int.tmod (ofG a1).1.month 12=(ofG a1).1.month%12:=Int.tmod_eq_emod_of_nonneg (by omega)
 have e4:IntKind.wrap IntKind.i64 ((ofG a1).1.day-1)=(ofG a1).1.day-1:=wrI (by omega)
 have ha:=gO hs0 (k:=((ofG a1).1.month-1).toNat) (by omega)
 have hb:=gO hs0 (k:=((ofG a1).1.month%12).toNat) (by omega)
 have hv:=rR (a:=cT (gH a0) ((ofG a1).1.month-1).toNat) (b:=cT (gH a0) ((ofG a1).1.month%12).toNat) (x:=(ofG a1).1.day-1) (d:=ai (ofG a1).1.year (ofG a1).1.month) (by omega) (by omega) (by omega)
 rw[e1,e3,e4,hd]
 have hl:[a0.m0,a0.m1,a0.m2,a0.m3,a0.m4,a0.m5,a0.m6,a0.m7,a0.m8,a0.m9,a0.m10,a0.m11]=gH a0:=rfl
 rw[hl]
 simp only[Nat.zero_add,Nat.mul_one]
 have r:(jV.enc (IM a0 a1))=AV.int .i64 (cT (gH a0) ((ofG a1).1.month-1).toNat+(cT (gH a0) ((ofG a1).1.month%12).toNat-cT (gH a0) ((ofG a1).1.month-1).toNat)*((ofG a1).1.day-1)/ai (ofG a1).1.year (ofG a1).1.month):=rfl
 rw[r]
 have hu:(decide (0≤(ofG a1).1.month-1)&&decide ((ofG a1).1.month-1<((12:Nat):Int)))=true:=by simp;omega
 have hu2:(decide (0≤(ofG a1).1.month%12)&&decide ((ofG a1).1.month%12<((12:Nat):Int)))=true:=by simp;omega
 have hu3:Nat.ble (((ofG a1).1.month-1).toNat+1) 12=true:=Nat.ble_eq_true_of_le (by omega)
 have hu4:Nat.ble (((ofG a1).1.month%12).toNat+1) 12=true:=Nat.ble_eq_true_of_le (by omega)
 rw[hu,hu2,hu3,hu4]
 clear hr r hu hu2 hu3 hu4 hl e1 e3 e4 he
 generalize hm1:cT (gH a0) ((ofG a1).1.month-1).toNat=p at*
 generalize hm2:cT (gH a0) ((ofG a1).1.month%12).toNat=q at*
 generalize hx:(ofG a1).1.day-1=x at*
 generalize hy:ai (ofG a1).1.year (ofG a1).1.month=y at*
 have hx':0≤x∧x≤31:=by omega
 have hpq: -100000≤(q-p)*x∧(q-p)*x≤100000:=by
  have h1:q-p≤420:=by omega
  have h2: -420≤q-p:=by omega
  constructor
  ·have:=Int.mul_le_mul_of_nonneg_right h2 hx'.1
   omega
  ·have:=Int.mul_le_mul_of_nonneg_right h1 hx'.1
   omega
 rw[wrI (n:=q-p) (by omega),wrI (n:=(q-p)*x) (by omega)]
 rw[show bz ((q-p)*x) y=true by simp only[bz,big,byB,WW,WY];omega]
 generalize (q-p)*x/y=v at*
 rw[wrI (n:=p+v) (by omega)]
 rfl
theorem qq (a0:a8) (a1:Sun) (a2:Int):∃F d,run Rt F d 73 Tryz.f73 fo (a0,a1,a2,())=some (kF.enc (hU a0 a1 a2)):=by
 refine⟨200,6,?_⟩
 rw[pq]
 unfold hU
 cases hz:ao a0 != 0 with
 |true=>rfl
 |false=>
  have hz0:ao a0=0:=by simpa using hz
  obtain⟨z1,_⟩:=bx hz0
  cases hs:ax a1 != 0 with
  |true=>rfl
  |false=>
   have hs0:ax a1=0:=by simpa using hs
   have e:(bif decide (a2<401)then true else decide (a2>3651998))= !inB a2 401 3651998:=by
    unfold inB
    rw[Bool.eq_iff_iff]
    cases h1:decide (a2<401)<;>simp at h1⊢ <;>omega
   rw[e]
   cases hb:inB a2 401 3651998 with
   |false=>rfl
   |true=>
    have h1:=bF.1 hb
    have hd:dj a2=true:=cF.2 (by omega)
    have hr:900≤IM a1 a2∧IM a1 a2≤1320:=n5 hs0 hd
    rw[show yZ a1 a2=true by simp only[yZ,hs0,hd,beq_self_eq_true,Bool.and_self]]
    rw[wrI (n:=a2*1440) (by omega),wrI (n:=a2*1440+IM a1 a2) (by omega),wrI (n:=a2*1440+IM a1 a2-a0.base) (by omega)]
    rfl
def Ve (x:Nat):Bool:=(bits .and .i64 (x:Int) 1==1)==(Int.tmod (x:Int) 2==1)
theorem Sk:eA Ve 128=true:=by kernel_rfl
theorem Se {x:Int} (h0:0≤x) (h1:x≤127):(Int.tmod x 2==1)=(bits .and .i64 x 1==1):=by
 have:=bT Sk x.toNat (by omega)
 unfold Ve at this
 rw[show((x.toNat:Nat):Int)=x by omega,beq_iff_eq]at this
 exact this.symm
theorem NP {w:ag} (h:ak w=0) (hk:w.kind=1):1≤w.arg∧w.arg≤127:=by
 have hb:bj w=true:=by
  unfold ak dD at h
  cases hb:bj w with
  |true=>rfl
  |false=>rw[hb]at h;cases h
 unfold bj at hb
 rw[hk]at hb
 simp only[WW,bF,beq_self_eq_true,WZ]at hb
 exact hb.2.1.2
theorem qI (a0:Config) (a1:ag) (a2:Int) (hg:nR a0 a1 a2=true):∃F d,run Pu F d 70 Tryz.f70 fu (a0,a1,a2,())=some (kG.enc (xP a0 a1 a2)):=by
 refine⟨200,6,?_⟩
 rw[pK]
 have hg':cI () a0 a1 a2=true∧a1.kind<4:=by simpa only[nR,WW,WY]using hg
 obtain⟨h1,h2,h3⟩:=Bc hg'.1
 have hd:=(kO _).1 h3
 obtain⟨hk,_,_,hs⟩:=eX h2
 unfold xP opens
 rcases hk with hk|hk|hk|hk
 ·have ha:=NP h2 hk
  rw[hk,show cR a2=true from(cN _).2 (by omega)]
  have hw:0≤av a2∧av a2<7:=by unfold av;omega
  have hu:IntKind.wrap IntKind.u64 (av a2)=av a2:=by
   have:av a2=0∨av a2=1∨av a2=2∨av a2=3∨av a2=4∨av a2=5∨av a2=6:=by omega
   rcases this with h|h|h|h|h|h|h<;>rw[h]<;>rfl
  rw[hu,decide_eq_true hw.1]
  have hx:0≤a1.arg.fdiv (2^min (av a2).toNat 64)∧a1.arg.fdiv (2^min (av a2).toNat 64)≤127:=by
   have hp:(0:Int)<2^min (av a2).toNat 64:=Int.pow_pos (by omega)
   rw[Int.fdiv_eq_ediv_of_nonneg _ (Int.le_of_lt hp)]
   exact⟨Int.ediv_nonneg (by omega) (Int.le_of_lt hp),Int.le_trans (Int.ediv_le_self _ (by omega)) ha.2⟩
  have hbit:=Se hx.1 hx.2
  simp only[beq_self_eq_true,WZ,Bool.and_self]
  rw[hbit]
  rfl
 ·rw[hk];rfl
 ·rw[hk,wrI (n:=a2-a1.shift) (by omega)];rfl
 ·omega
theorem yy (a0:Config) (a1:ag) (a2:Int) (hg:Bn a0 a1 a2=true):∃F d,run NV F d 36 Tryz.f36 ki (a0,a1,a2,())=some (pW.enc (qh a0 a1 a2)):=by
 refine⟨200,6,?_⟩
 rw[vJ]
 obtain⟨h1,h2,h3⟩:=Bc hg
 have hd:=(kO _).1 h3
 obtain⟨b1,b2,b3,b4⟩:=mE a0
 obtain⟨hz,hs⟩:=dn h1
 obtain⟨z1,_⟩:=bx hz
 obtain⟨hk,hf4,hf,_⟩:=eX h2
 unfold qh
 by_cases hk4:a1.kind=4
 ·rw[decide_eq_false (by omega:¬a1.kind<4),W2,wrI (n:=a2+1) (by omega)]
  have eo:opens a0 a1 a2=aZ () a0 a1 a2:=by
   unfold opens
   rw[hk4]
   rfl
  rw[eo]
  unfold aZ
  cases hn:a7 a2 a0.bq with
  |true=>rw[Bool.not_true,Bool.and_false];rfl
  |false=>
   cases hr:a7 (a2+1) a0.bq with
   |false=>rfl
   |true=>
    obtain⟨l1,l2,_,_⟩:=Dy hr
    obtain⟨m,m1,m2⟩:=sQ (n:=a2) hz hs (by omega) (by omega)
    obtain⟨n,n1,n2⟩:=sQ (n:=bH 1 a0.bq 10 (a2+1)) hz hs (by omega) (by omega)
    have:=hf4 hk4
    simp only[WZ,Bool.not_false,Bool.not_true,Bool.and_self,m1,n1,W2]
    rw[wrI (n:=a2*1440+m-a0.aE.base-a1.minute) (by omega),wrI (n:=bH 1 a0.bq 10 (a2+1)*1440+n-a0.aE.base+a1.len) (by omega)]
    rfl
 ·have hlt:a1.kind<4:=by omega
  obtain⟨m1,m2,m3,o1,o2⟩:=C3 hk4 h1 h2 h3
  have hmo:mg a2 a1.minute=true:=by
   have:=(hf hk4).1
   unfold mg
   rw[h3]
   simp
   omega
  have hms:=QL hz hmo
  have hm':(cL a0.aE a2 a1.minute).1=HK a0.aE a2 a1.minute:=by rw[hms]
  rw[hm']at m2 o1 o2
  rw[decide_eq_true hlt,b1,b2,b3,b4]
  rw[show nR a0 a1 a2=true by simp only[nR,WW,WY];exact⟨hg,hlt⟩]
  rw[show zy a0.aE a2 a1.minute=true by simp only[zy,hz,hmo,beq_self_eq_true,Bool.and_self]]
  rw[wrI (n:=HK a0.aE a2 a1.minute+a1.len) (by omega),o1,o2]
  unfold xP
  cases (opens a0 a1 a2).2.2<;>rfl
theorem Ua (l0:List (Span)) (P0 P1 P2 P3 v1 v6:Int) (F d:Nat):∀(suf pre:List Span) (n:Nat),suf.length<n→(pre++suf).length≤1048576→
  LI F (d+3) n (HP (pre++suf) P0 P1 P2 P3 v1 ((pre.length:Nat):Int))=cond (!gR suf v1) (some (.exit 0,(Bl (pre++suf) P0 P1 P2 P3))) (some (.ret,(Be (pre++suf) ((pre.length+suf.findIdx (fun s=>inS s v1):Nat):Int)))):=by
 intro suf
 induction suf with
 |nil=>
  intro pre n hn hl
  obtain⟨n,rfl⟩:∃k,n=k+1:=⟨n-1,by omega⟩
  rw[HH,fh,W2]
  rfl
 |cons x suf ih=>
  intro pre n hn hl
  obtain⟨n,rfl⟩:∃k,n=k+1:=⟨n-1,by omega⟩
  have ih':=ih (pre++[x]) n (by simp at hn;omega) (by simpa using hl)
  rw[HH]
  simp only[fI,gw,Bool.and_self,WZ,dB,fF,dc hl,Bool.true_or,br]
  rw[←dp]at ih'
  have hi:(decide (v1≥x.from_)&&decide (v1<x.to_))=inS x v1:=rfl
  rw[hi]
  cases hw:inS x v1
  ·rw[W2,ih']
   simp only[gR,List.any_cons,hw,Bool.false_or,List.findIdx_cons,W2,List.length_append,List.length_singleton]
   rw[show pre.length+1+suf.findIdx (fun s=>inS s v1)=pre.length+(suf.findIdx (fun s=>inS s v1)+1) by omega]
  ·simp[gR,hw,List.findIdx_cons]
theorem OY (l0:List (Span)) (P0 P1 P2 P3 v1 v6:Int) (hg:(decide (l0.length≤1048576)&&v6==0)=true):∃N d,LI N d N (HP l0 P0 P1 P2 P3 v1 v6)=some (bb Prod.mk [(!gR l0 v1, .exit 0,(Bl l0 P0 P1 P2 P3))] (.ret) (Be l0 (atIdx l0 v1))):=by
 simp only[WW,WY,beq_iff_eq]at hg
 obtain⟨h1,rfl⟩:=hg
 have:=Ua l0 P0 P1 P2 P3 v1 0 (l0.length+3) 0 l0 [] (l0.length+3) (by omega) (by simpa using h1)
 refine⟨l0.length+3,3,?_⟩
 simp only[List.nil_append,List.length_nil,Nat.zero_add]at this
 rw[show((0:Nat):Int)=0 from rfl]at this
 rw[this]
 cases h:gR l0 v1<;>simp[bb,h,atIdx]
theorem yp (a0:List Span) (a1:Int) (hg:bl a0 a1=true):∃F d,run ON F d 42 Tryz.f42 jW (a0,a1,())=some (qj.enc (eD a0 a1)):=by
 refine⟨200,6,?_⟩
 rw[vK]
 simp only[bl,dd,WY]at hg
 simp only[fm,hg,decide_true,Bool.true_and,Bool.and_true,Bool.and_self,beq_self_eq_true,WZ]
 cases h:gR a0 a1
 ·simp only[Bool.not_false,WZ]
  simp only[eD,h,W2]
  rfl
 ·simp only[Bool.not_true,W2,(Fy a0 a1 h).1]
  rw[show eD a0 a1=((eD a0 a1).1,true) from Prod.ext rfl (Fy a0 a1 h).2]
  rfl
theorem ur (a0:Span) (a1:Span):∃F d,run Qo F d 103 Tryz.f103 iC (a0,a1,())=some (mc.enc (CS a0 a1)):=by
 refine⟨200,6,?_⟩
 rw[qZ]
 have:CS a0 a1=cond (a0.prio != a1.prio) (decide (a0.prio>a1.prio)) (decide (a0.from_≥a1.from_)):=by
  rw[Bool.eq_iff_iff]
  by_cases h:a0.prio=a1.prio
  ·simp[CS,mH,h]
  ·have hb:(a0.prio != a1.prio)=true:=by simpa using h
   have hb2:(a0.prio==a1.prio)=false:=by simpa using h
   simp[CS,mH,hb,hb2]
   omega
 rw[this]
 cases (a0.prio != a1.prio)<;>rfl
theorem Vl (l0:List (Span)) (v1 v5 v6:Int) (F d:Nat):∀(suf pre:List Span) (best:Int) (n:Nat),suf.length<n→(pre++suf).length≤1048576→ -1≤best→best<(pre.length:Int)→
  Kg F (d+3) n (Iy (pre++suf) v1 best ((pre.length:Nat):Int))=some (.exit 0,(G1 (pre++suf) (wGo (pre++suf) v1 suf ((pre.length:Nat):Int) best))):=by
 intro suf
 induction suf with
 |nil=>
  intro pre best n hn hl h1 h2
  obtain⟨n,rfl⟩:∃k,n=k+1:=⟨n-1,by omega⟩
  rw[Lu,fh,W2]
  rfl
 |cons x suf ih=>
  intro pre best n hn hl h1 h2
  obtain⟨n,rfl⟩:∃k,n=k+1:=⟨n-1,by omega⟩
  have ih':=fun b h1 h2=>ih (pre++[x]) b n (by simp at hn;omega) (by simpa using hl) h1 h2
  rw[Lu]
  simp only[fI,gw,Bool.and_self,WZ,dB,fF,dc hl,Bool.true_or,cM]
  rw[←dp]at ih'
  conv=>rhs;unfold wGo
  have hin:(decide (v1<x.from_)||decide (v1≥x.to_))= !inS x v1:=by
   rw[Bool.eq_iff_iff];simp[inS]<;>omega
  rw[hin]
  have e3:(((pre++[x]).length:Nat):Int)=((pre.length:Nat):Int)+1:=by simp
  cases hx:inS x v1
  ·simp only[Bool.not_false,WZ,Bool.false_and,W2]
   rw[ih' best h1 (by rw[e3];omega),e3]
  ·simp only[Bool.not_true,W2,Bool.true_and]
   by_cases hb:best<0
   ·simp only[hb,decide_true,WZ,Bool.true_or]
    rw[ih' _ (by omega) (by rw[e3];omega),e3]
   ·have i1:(decide (0≤best)&&decide (best<(((pre++x::suf).length:Nat):Int)))=true:=by simp;omega
    have i2:decide (0+Int.toNat best<(pre++x::suf).length)=true:=by simp;omega
    simp only[hb,decide_false,W2,i1,i2,WZ,Bool.false_or,CS,zz]
    simp only[Nat.zero_add]
    cases (!mH x (List.getD (pre++x::suf) best.toNat cU))
    ·rw[W2,W2,ih' best h1 (by rw[e3];omega),e3]
    ·rw[WZ,WZ,ih' _ (by omega) (by rw[e3];omega),e3]
theorem S3 (l0:List (Span)) (v1 v5 v6:Int) (hg:(decide (l0.length≤1048576)&&(v5== -1&&v6==0))=true):∃N d,Kg N d N (Iy l0 v1 v5 v6)=some (bb Prod.mk [] (.exit 0) (G1 l0 (az l0 v1))):=by
 simp only[WW,WY,beq_iff_eq]at hg
 obtain⟨h1,rfl,rfl⟩:=hg
 have:=Vl l0 v1 (-1) 0 (l0.length+3) 0 l0 [] (-1) (l0.length+3) (by omega) (by simpa using h1) (by omega) (by simp)
 exact⟨l0.length+3,3,by simpa[bb,az]using this⟩
theorem ma (a0:List Span) (a1:Int) (hg:bl a0 a1=true):∃F d,run OK F d 76 Tryz.f76 dC (a0,a1,())=some (gK.enc (az a0 a1)):=by
 refine⟨200,6,?_⟩
 rw[ll]
 simp only[bl,dd,WY]at hg
 simp only[fm,hg,decide_true,Bool.true_and,Bool.and_true,Bool.and_self,beq_self_eq_true,WZ]
 rfl
theorem UI (l0:List (Span)) (v1 v6:Int) (v7:Bool) (v8:Int) (F d:Nat):∀(suf pre:List Span) (m:Int) (h:Bool) (n:Nat),suf.length<n→(pre++suf).length≤1048576→
  Cf F (d+3) n (zY (pre++suf) v1 m h ((pre.length:Nat):Int))=some (.exit 0,(A5 (pre++suf) (nGo v1 suf m h).1 (nGo v1 suf m h).2)):=by
 intro suf
 induction suf with
 |nil=>
  intro pre m h n hn hl
  obtain⟨n,rfl⟩:∃k,n=k+1:=⟨n-1,by omega⟩
  rw[IX,fh,W2]
  rfl
 |cons x suf ih=>
  intro pre m h n hn hl
  obtain⟨n,rfl⟩:∃k,n=k+1:=⟨n-1,by omega⟩
  have ih':=fun m h=>ih (pre++[x]) m h n (by simp at hn;omega) (by simpa using hl)
  rw[IX]
  simp only[fI,gw,Bool.and_self,WZ,dB,fF,dc hl,Bool.true_or,cM,br,W2]
  rw[←dp]at ih'
  have hgo:nGo v1 (x::suf) m h=nGo v1 suf (nP1 v1 x.to_ (nP1 v1 x.from_ m h) (nP2 v1 x.from_ m h)) (nP2 v1 x.to_ (nP1 v1 x.from_ m h) (nP2 v1 x.from_ m h)):=rfl
  rw[hgo,←ih']
  cases h1:(decide (x.from_>v1)&&(!h||decide (x.from_<m)))
  ·have p1:nP1 v1 x.from_ m h=m:=by simp only[nP1,h1,W2]
   have p2:nP2 v1 x.from_ m h=h:=by simp only[nP2,h1,W2]
   rw[p1,p2,W2]
   cases h2:(decide (x.to_>v1)&&(!h||decide (x.to_<m)))
   ·simp only[nP1,nP2,h2,W2]
   ·simp only[nP1,nP2,h2,WZ]
  ·have p1:nP1 v1 x.from_ m h=x.from_:=by simp only[nP1,h1,WZ]
   have p2:nP2 v1 x.from_ m h=true:=by simp only[nP2,h1,WZ]
   rw[p1,p2,WZ]
   cases h2:(decide (x.to_>v1)&&decide (x.to_<x.from_))
   ·simp only[nP1,nP2,Bool.not_true,Bool.false_or,h2,W2]
   ·simp only[nP1,nP2,Bool.not_true,Bool.false_or,h2,WZ]
theorem N0 (l0:List (Span)) (v1 v6:Int) (v7:Bool) (v8:Int) (hg:(decide (l0.length≤1048576)&&(v6==0&&(v7==false&&v8==0)))=true):∃N d,Cf N d N (zY l0 v1 v6 v7 v8)=some (bb Prod.mk [] (.exit 0) (A5 l0 (bm l0 v1).1 (bm l0 v1).2)):=by
 simp only[WW,WY,beq_iff_eq]at hg
 obtain⟨h1,rfl,rfl,rfl⟩:=hg
 have:=UI l0 v1 0 false 0 (l0.length+3) 0 l0 [] 0 false (l0.length+3) (by omega) (by simpa using h1)
 exact⟨l0.length+3,3,by simpa[bb,bm]using this⟩
theorem uA (a0:List Span) (a1:Int) (hg:bl a0 a1=true):∃F d,run Pa F d 75 Tryz.f75 ij (a0,a1,())=some (mq.enc (bm a0 a1)):=by
 refine⟨200,6,?_⟩
 rw[sd]
 simp only[bl,dd,WY]at hg
 simp only[fm,hg,decide_true,Bool.true_and,Bool.and_true,Bool.and_self,beq_self_eq_true,WZ]
 rfl
theorem UK (l0:List (Span)) (v3 v4:Int) (F d:Nat):∀(suf pre:List Span) (m:Int) (n:Nat),suf.length<n→(pre++suf).length≤1048576→
  HO F (d+3) n (Ey (pre++suf) m ((pre.length:Nat):Int))=some (.exit 0,(BG (pre++suf) (lGo suf m))):=by
 intro suf
 induction suf with
 |nil=>
  intro pre m n hn hl
  obtain⟨n,rfl⟩:∃k,n=k+1:=⟨n-1,by omega⟩
  rw[H6,fh,W2]
  rfl
 |cons x suf ih=>
  intro pre m n hn hl
  obtain⟨n,rfl⟩:∃k,n=k+1:=⟨n-1,by omega⟩
  have ih':=fun m=>ih (pre++[x]) m n (by simp at hn;omega) (by simpa using hl)
  rw[H6]
  simp only[fI,gw,Bool.and_self,WZ,dB,fF,dc hl]
  rw[←dp]at ih'
  conv=>rhs;unfold lGo
  cases decide (x.from_<m)
  ·rw[W2,W2,ih']
  ·rw[WZ,WZ,ih']
theorem QP (l0:List (Span)) (v3 v4:Int) (hg:(decide (l0.length≤1048576)&&v4==0)=true):∃N d,HO N d N (Ey l0 v3 v4)=some (bb Prod.mk [] (.exit 0) (BG l0 (lGo l0 v3))):=by
 simp only[WW,WY,beq_iff_eq]at hg
 obtain⟨h1,rfl⟩:=hg
 have:=UK l0 v3 0 (l0.length+3) 0 l0 [] v3 (l0.length+3) (by omega) (by simpa using h1)
 exact⟨l0.length+3,3,by simpa[bb]using this⟩
theorem sw (a0:List Span) (hg:EF a0=true):∃F d,run OL F d 74 Tryz.f74 gD (a0,())=some (lO.enc (df a0)):=by
 refine⟨200,6,?_⟩
 rw[qx]
 simp only[EF,dd,WW,WY]at hg
 have e1:decide ((0:Int)<((a0.length:Nat):Int))=true:=by simp;omega
 simp only[fm,hg.1,hg.2,e1,gt_iff_lt,decide_true,Bool.true_and,Bool.and_true,Bool.and_self,beq_self_eq_true,WZ]
 rfl
theorem Sg (l0 l1:List (Span)) (v4 v5:Int) (v6:Bool) (F d:Nat) (hL:l0.length≤500):∀(k:List Int) (a:Int) (out:List Span) (n:Nat),Qz l0 a≤k.length→k.length<n→out.length+k.length≤1048576→
  zw F (d+3) n (u6 l0 out a (bm l0 a).1 (bm l0 a).2)=some (.exit 0,(xH l0 (rV l0 k a (bm l0 a).1 (bm l0 a).2 out))):=by
 intro k
 induction k with
 |nil=>
  intro a out n hc hn ho
  obtain⟨n,rfl⟩:∃k,n=k+1:=⟨n-1,by omega⟩
  rw[yQ,M6 (by simpa using hc),W2]
  rfl
 |cons y k ih=>
  intro a out n hc hn ho
  obtain⟨n,rfl⟩:∃k,n=k+1:=⟨n-1,by omega⟩
  conv=>rhs;unfold rV
  cases hm:(bm l0 a).2 with
  |false=>rw[yQ,W2];rfl
  |true=>
   have hcn:=MC hm
   have hol1:out.length+(k.length+1)≤1048576:=by simpa using ho
   have ih2:=ih (bm l0 a).1 (eM l0 out a (bm l0 a).1) n (by simp at hc;omega) (by simp at hn;omega) (by have:=nt l0 out a (bm l0 a).1;omega)
   have hs:∀t,bl l0 t=true:=fun t=>by simp[bl,dd];omega
   have hol:Nat.ble out.length 1048576=true:=by simp;omega
   rw[yQ,WZ,WZ,←ih2]
   simp only[fm,qn,hs,hol,Bool.and_true,Bool.true_and,Bool.and_self,WZ,br]
   obtain⟨w1,w2⟩:=uQ l0 a
   cases hw:decide (az l0 a<0)with
   |true=>
    have hg:decide (az l0 a≥0)=false:=by simp at hw⊢;omega
    simp only[hg,Bool.false_and,Bool.not_false,Bool.or_true,WZ,W2]
    rcases cV out with rfl|⟨q,p,rfl⟩
    ·rw[lX,hw];rfl
    ·rw[jQ,hw];rfl
   |false=>
    have hw':¬az l0 a<0:=by simpa using hw
    have hg:decide (az l0 a≥0)=true:=by simp;omega
    have i1:decide (az l0 a<((l0.length:Nat):Int))=true:=by simp;omega
    have i2:decide (0+Int.toNat (az l0 a)<l0.length)=true:=by simp;omega
    simp only[hg,i1,Bool.and_self,i2,Bool.true_or,WZ,Bool.true_and,zz]
    rcases cV out with rfl|⟨q,p,rfl⟩
    ·simp only[L9,lX,hw,W2]
     simp
    ·simp only[Le (show(q++[p]).length≤1048576 by omega),QO,PD,Qa,TM,TD,Bool.true_or,WZ,Bool.true_and]
     simp only[jQ,hw,W2,Nat.zero_add]
     cases hc:(p.to_==a&&p.mode==(l0.getD (az l0 a).toNat cU).mode)
     ·simp only[W2]
     ·simp only[WZ,List.length_append,List.length_singleton,fm]
theorem Me (l0 l1:List (Span)) (v4 v5:Int) (v6:Bool) (hg:(decide (l0.length≤500)&&(l1.length==0&&(v5==(bm l0 v4).1&&v6==(bm l0 v4).2)))=true):∃N d,zw N d N (u6 l0 l1 v4 v5 v6)=some (bb Prod.mk [] (.exit 0) (xH l0 (rV l0 (aS l0) v4 v5 v6 []))):=by
 simp only[WW,WY,beq_iff_eq]at hg
 obtain⟨h1,h2,rfl,rfl⟩:=hg
 have h5:l1=[]:=List.length_eq_zero_iff.1 h2
 subst h5
 have:=Sg l0 [] 0 0 false (2*l0.length+4) 0 h1 (aS l0) v4 [] (2*l0.length+4) (Sv _ _) (by rw[fa];omega) (by rw[fa];simp;omega)
 exact⟨2*l0.length+4,3,by simpa[bb]using this⟩
theorem oZ (a0:List Span) (hg:yP a0=true):∃F d,l6 P6 F d 37 Tryz.f37 eP eE (a0,())=some (zg a0):=by
 refine⟨200,6,?_⟩
 rw[nY]
 simp only[yP,WY]at hg
 by_cases h0:a0.length=0
 ·have:a0=[]:=List.length_eq_zero_iff.1 h0
  subst this
  rfl
 ·have e1:((((a0.length:Nat):Int))==0)=false:=by simp;exact fun e=>h0 (by rw[e];rfl)
  have e2:decide (a0.length>0)=true:=by simp;omega
  have e3:EF a0=true:=by simp[EF,dd];omega
  have e4:∀t,bl a0 t=true:=fun t=>by simp[bl,dd];omega
  simp only[e1,e3,e4,fm,qn,hg,decide_true,Bool.true_and,Bool.and_true,Bool.and_self,beq_self_eq_true,WZ,W2]
  simp only[zg,e2,WZ]
end Go.Proofs.YtfhepbbkggdlcaaGreatDoor.Px.PxT


namespace Go.Proofs.YtfhepbbkggdlcaaGreatDoor.Px.PxT
open Go Go.Proofs
set_option maxRecDepth 10000
theorem Nb {c:Config} {w:ag} {d:Int} (hc:af c=0) (hw:ak w=0) (hd:du d=true):(qh c w d).is=(bw c w d).2.1∧((qh c w d).is=true→(qh c w d).s=(bw c w d).1):=by
 rcases CK c w d with⟨he,_⟩|⟨_,e⟩
 ·exfalso
  apply he
  unfold kR orE dD
  rw[hc,hw,hd]
  rfl
 ·rw[e]
  unfold qh
  cases (opens c w d).2.2
  ·exact⟨rfl,fun h=>by cases h⟩
  ·exact⟨rfl,fun _=>rfl⟩
theorem Sx (l0:List (Int)) (l1:List (ag)) (l3:List (Span)) (Q0 Q1 Q2 Q4 Q5 Q6 Q7 Q8 Q9 Q10 Q11 Q12 Q13 Q14 Q15 Q16 Q17 Q18 Q19 Q20 Q21 Q22 Q23 Q24 Q25 Q26 Q27 Q28 Q29 Q30 Q31 Q32 Q33 Q34:Int) (Q35:Bool) (v2 v8 v9:Int) (F d:Nat) (C:Config) (hC:C=(⟨Q0,Q1,Q2,l0,⟨Q4,Q5,Q6,Q7,Q8,Q9,Q10⟩,Q11,Q12,⟨Q13,Q14,⟨Q15,Q16,Q17,Q18⟩,⟨Q19,Q20,Q21,Q22⟩⟩,⟨Q23,Q24,Q25,Q26,Q27,Q28,Q29,Q30,Q31,Q32,Q33,Q34⟩,Q35,l1⟩:Config)) (h1:l1.length≤1000) (hc:af C=0) (hd:du v8=true):∀(suf pre:List ag) (out:List Span) (n:Nat),l1=pre++suf→suf.length<n→out.length+suf.length≤200000→
  Dq F (d+3) n (yJ l0 l1 out Q0 Q1 Q2 Q4 Q5 Q6 Q7 Q8 Q9 Q10 Q11 Q12 Q13 Q14 Q15 Q16 Q17 Q18 Q19 Q20 Q21 Q22 Q23 Q24 Q25 Q26 Q27 Q28 Q29 Q30 Q31 Q32 Q33 Q34 Q35 v2 v8 ((pre.length:Nat):Int))=some (.exit 2,(w6 l0 l1 (out++bn C v8 suf) Q0 Q1 Q2 Q4 Q5 Q6 Q7 Q8 Q9 Q10 Q11 Q12 Q13 Q14 Q15 Q16 Q17 Q18 Q19 Q20 Q21 Q22 Q23 Q24 Q25 Q26 Q27 Q28 Q29 Q30 Q31 Q32 Q33 Q34 Q35 v2 v8)):=by
 have ca:∀w∈l1,ak w=0:=by
  intro w hw
  have:bj w=true:=List.all_eq_true.1 (I0.1 (Mr.1 hc).2.2.2.2.2).2 w (by rw[hC];exact hw)
  unfold ak dD
  rw[this]
  rfl
 intro suf
 induction suf with
 |nil=>
  intro pre out n hl hn ho
  obtain⟨n,rfl⟩:∃k,n=k+1:=⟨n-1,by omega⟩
  rw[EK,←hC]
  dsimp only
  rw[decide_eq_false (by rw[hl];simp:¬((pre.length:Nat):Int)<((l1.length:Nat):Int)),W2]
  simp[bn]
 |cons w suf ih=>
  intro pre out n hl hn ho
  obtain⟨n,rfl⟩:∃k,n=k+1:=⟨n-1,by omega⟩
  have ih':=fun o ho=>ih (pre++[w]) o n (by rw[hl];simp) (by simp at hn;omega) ho
  have hw0:=ca w (by rw[hl];simp)
  obtain⟨o1,o2⟩:=Nb hc hw0 hd
  have f1:decide (((pre.length:Nat):Int)<((l1.length:Nat):Int))=true:=by rw[hl];exact fI _ _ _
  have f3:decide (0+Int.toNat ((pre.length:Nat):Int)<l1.length)=true:=by rw[hl];exact dB _ _ _
  have f4:∀z,List.getD l1 (0+Int.toNat ((pre.length:Nat):Int)) z=w:=by intro z;rw[hl];exact fF _ _ _ _
  have f5:IntKind.i64.wrap (((pre.length:Nat):Int)+1)=(((pre++[w]).length:Nat):Int):=dc (suf:=suf) (by rw[←hl];omega)
  have f6:Nat.ble out.length 1048576=true:=by simp at ho⊢;omega
  rw[EK,←hC]
  dsimp only
  rw[f1,gw,f3,f4,f5,show Bn C w v8=true from oD hc hw0 hd]
  simp only[fm,qn,f6,Bool.true_and,Bool.and_true,Bool.and_self,WZ]
  rw[NZ,←o1]
  cases hw:(qh C w v8).is with
  |true=>
   simp only[WZ]
   rw[o2 hw,ih' (out++[(bw C w v8).1]) (by simp at ho⊢;omega)]
   simp
  |false=>
   simp only[W2]
   exact ih' out (by simp at ho;omega)
theorem Nj (l0:List (Int)) (l1:List (ag)) (l3:List (Span)) (Q0 Q1 Q2 Q4 Q5 Q6 Q7 Q8 Q9 Q10 Q11 Q12 Q13 Q14 Q15 Q16 Q17 Q18 Q19 Q20 Q21 Q22 Q23 Q24 Q25 Q26 Q27 Q28 Q29 Q30 Q31 Q32 Q33 Q34:Int) (Q35:Bool) (v2 v8 v9:Int) (hg:(decide (l0.length≤1048576)&&(decide (l1.length≤1000)&&(decide (l3.length≤100000)&&(v9==0&&(af (⟨Q0,Q1,Q2,l0,⟨Q4,Q5,Q6,Q7,Q8,Q9,Q10⟩,Q11,Q12,⟨Q13,Q14,⟨Q15,Q16,Q17,Q18⟩,⟨Q19,Q20,Q21,Q22⟩⟩,⟨Q23,Q24,Q25,Q26,Q27,Q28,Q29,Q30,Q31,Q32,Q33,Q34⟩,Q35,l1⟩:Config)==0&&du v8)))))=true):∃N d,Dq N d N (yJ l0 l1 l3 Q0 Q1 Q2 Q4 Q5 Q6 Q7 Q8 Q9 Q10 Q11 Q12 Q13 Q14 Q15 Q16 Q17 Q18 Q19 Q20 Q21 Q22 Q23 Q24 Q25 Q26 Q27 Q28 Q29 Q30 Q31 Q32 Q33 Q34 Q35 v2 v8 v9)=some (bb Prod.mk [] (.exit 2) (w6 l0 l1 (l3++bn (⟨Q0,Q1,Q2,l0,⟨Q4,Q5,Q6,Q7,Q8,Q9,Q10⟩,Q11,Q12,⟨Q13,Q14,⟨Q15,Q16,Q17,Q18⟩,⟨Q19,Q20,Q21,Q22⟩⟩,⟨Q23,Q24,Q25,Q26,Q27,Q28,Q29,Q30,Q31,Q32,Q33,Q34⟩,Q35,l1⟩:Config) v8 l1) Q0 Q1 Q2 Q4 Q5 Q6 Q7 Q8 Q9 Q10 Q11 Q12 Q13 Q14 Q15 Q16 Q17 Q18 Q19 Q20 Q21 Q22 Q23 Q24 Q25 Q26 Q27 Q28 Q29 Q30 Q31 Q32 Q33 Q34 Q35 v2 v8)):=by
 simp only[WW,beq_iff_eq,WY]at hg
 obtain⟨h0,h1,h2,rfl,h4,h5⟩:=hg
 exact⟨2000,3,Sx l0 l1 l3 Q0 Q1 Q2 Q4 Q5 Q6 Q7 Q8 Q9 Q10 Q11 Q12 Q13 Q14 Q15 Q16 Q17 Q18 Q19 Q20 Q21 Q22 Q23 Q24 Q25 Q26 Q27 Q28 Q29 Q30 Q31 Q32 Q33 Q34 Q35 v2 v8 0 2000 0 _ rfl h1 h4 h5 l1 [] l3 2000 rfl (by omega) (by omega)⟩
theorem Sh (l0:List (Int)) (l1:List (ag)) (l3:List (Span)) (Q0 Q1 Q2 Q4 Q5 Q6 Q7 Q8 Q9 Q10 Q11 Q12 Q13 Q14 Q15 Q16 Q17 Q18 Q19 Q20 Q21 Q22 Q23 Q24 Q25 Q26 Q27 Q28 Q29 Q30 Q31 Q32 Q33 Q34:Int) (Q35:Bool) (v2 v8:Int) (F d:Nat) (C:Config) (hC:C=(⟨Q0,Q1,Q2,l0,⟨Q4,Q5,Q6,Q7,Q8,Q9,Q10⟩,Q11,Q12,⟨Q13,Q14,⟨Q15,Q16,Q17,Q18⟩,⟨Q19,Q20,Q21,Q22⟩⟩,⟨Q23,Q24,Q25,Q26,Q27,Q28,Q29,Q30,Q31,Q32,Q33,Q34⟩,Q35,l1⟩:Config)) (h0:l0.length≤1048576) (h1:l1.length≤1000) (hc:af C=0) (hb:v2≤3651990):∀(k:Nat) (x:Int) (out:List Span) (n:Nat),(v2-x+1).toNat=k→402≤x→x≤3652100→out.length+k*1000≤100000→k<n→
  GN F (d+3) n (C6 l0 l1 out Q0 Q1 Q2 Q4 Q5 Q6 Q7 Q8 Q9 Q10 Q11 Q12 Q13 Q14 Q15 Q16 Q17 Q18 Q19 Q20 Q21 Q22 Q23 Q24 Q25 Q26 Q27 Q28 Q29 Q30 Q31 Q32 Q33 Q34 Q35 v2 x)=some (.exit 0,(xX l0 l1 (out++cD C k x) Q0 Q1 Q2 Q4 Q5 Q6 Q7 Q8 Q9 Q10 Q11 Q12 Q13 Q14 Q15 Q16 Q17 Q18 Q19 Q20 Q21 Q22 Q23 Q24 Q25 Q26 Q27 Q28 Q29 Q30 Q31 Q32 Q33 Q34 Q35)):=by
 intro k
 induction k with
 |zero=>
  intro x out n hk h2 h3 ho hn
  obtain⟨n,rfl⟩:∃k,n=k+1:=⟨n-1,by omega⟩
  rw[zI,←hC]
  dsimp only
  rw[decide_eq_false (by omega:¬x≤v2),W2]
  simp[cD]
 |succ k ih=>
  intro x out n hk h2 h3 ho hn
  obtain⟨n,rfl⟩:∃k,n=k+1:=⟨n-1,by omega⟩
  have hw:=pN C x l1
  have hcw:C.ae=l1:=by rw[hC]
  have g1:decide (l0.length≤1048576)=true:=decide_eq_true h0
  have g2:decide (l1.length≤1000)=true:=decide_eq_true h1
  have g3:decide (out.length≤100000)=true:=decide_eq_true (by omega)
  rw[zI,←hC]
  dsimp only
  rw[decide_eq_true (by omega:x≤v2),g1,g2,g3,wrI (n:=x+1) (by omega),hc,(kO x).2 (by omega)]
  simp only[fm,beq_self_eq_true,Bool.true_and,Bool.and_true,Bool.and_self,WZ]
  rw[ih (x+1) (out++bn C x l1) n (by omega) (by omega) (by omega) (by rw[List.length_append];omega) (by omega)]
  simp only[cD,hcw,List.append_assoc]
theorem MQ (l0:List (Int)) (l1:List (ag)) (l3:List (Span)) (Q0 Q1 Q2 Q4 Q5 Q6 Q7 Q8 Q9 Q10 Q11 Q12 Q13 Q14 Q15 Q16 Q17 Q18 Q19 Q20 Q21 Q22 Q23 Q24 Q25 Q26 Q27 Q28 Q29 Q30 Q31 Q32 Q33 Q34:Int) (Q35:Bool) (v2 v8:Int) (hg:(decide (l0.length≤1048576)&&(decide (l1.length≤1000)&&(l3.length==0&&(fg v8 v2&&af (⟨Q0,Q1,Q2,l0,⟨Q4,Q5,Q6,Q7,Q8,Q9,Q10⟩,Q11,Q12,⟨Q13,Q14,⟨Q15,Q16,Q17,Q18⟩,⟨Q19,Q20,Q21,Q22⟩⟩,⟨Q23,Q24,Q25,Q26,Q27,Q28,Q29,Q30,Q31,Q32,Q33,Q34⟩,Q35,l1⟩:Config)==0))))=true):∃N d,GN N d N (C6 l0 l1 l3 Q0 Q1 Q2 Q4 Q5 Q6 Q7 Q8 Q9 Q10 Q11 Q12 Q13 Q14 Q15 Q16 Q17 Q18 Q19 Q20 Q21 Q22 Q23 Q24 Q25 Q26 Q27 Q28 Q29 Q30 Q31 Q32 Q33 Q34 Q35 v2 v8)=some (bb Prod.mk [] (.exit 0) (xX l0 l1 (cD (⟨Q0,Q1,Q2,l0,⟨Q4,Q5,Q6,Q7,Q8,Q9,Q10⟩,Q11,Q12,⟨Q13,Q14,⟨Q15,Q16,Q17,Q18⟩,⟨Q19,Q20,Q21,Q22⟩⟩,⟨Q23,Q24,Q25,Q26,Q27,Q28,Q29,Q30,Q31,Q32,Q33,Q34⟩,Q35,l1⟩:Config) (v2-v8+1).toNat v8) Q0 Q1 Q2 Q4 Q5 Q6 Q7 Q8 Q9 Q10 Q11 Q12 Q13 Q14 Q15 Q16 Q17 Q18 Q19 Q20 Q21 Q22 Q23 Q24 Q25 Q26 Q27 Q28 Q29 Q30 Q31 Q32 Q33 Q34 Q35)):=by
 simp only[WW,beq_iff_eq,WY,fg]at hg
 obtain⟨h0,h1,h2,⟨h3,h4,h5⟩,h6⟩:=hg
 have hl:l3=[]:=List.eq_nil_of_length_eq_zero h2
 subst hl
 refine⟨40,3,?_⟩
 by_cases hx:v8≤3652100
 ·have:=Sh l0 l1 [] Q0 Q1 Q2 Q4 Q5 Q6 Q7 Q8 Q9 Q10 Q11 Q12 Q13 Q14 Q15 Q16 Q17 Q18 Q19 Q20 Q21 Q22 Q23 Q24 Q25 Q26 Q27 Q28 Q29 Q30 Q31 Q32 Q33 Q34 Q35 v2 v8 40 0 _ rfl h0 h1 h6 h4 (v2-v8+1).toNat v8 [] 40 rfl h3 hx (by simp only[List.length_nil];omega) (by omega)
  rw[List.nil_append]at this
  exact this
 ·have hz:(v2-v8+1).toNat=0:=by omega
  rw[hz]
  rw[zI]
  dsimp only
  rw[decide_eq_false (by omega:¬v8≤v2)]
  rfl
theorem sy (a0:Config) (a1:Int) (a2:Int) (hg:zD a0 a1 a2=true):∃F d,l6 Rp F d 17 Tryz.f17 gE gg (a0,a1,a2,())=some (jG a0 a1 a2):=by
 refine⟨200,6,?_⟩
 rw[qp]
 have hg':aY a0=true∧af a0=0∧fg a1 a2=true:=by simpa only[zD,WW,beq_iff_eq]using hg
 obtain⟨hs,hc,hf⟩:=hg'
 have hw:=Fp hc
 have hs':decide (a0.stops.length≤1048576)=true:=by
  simp only[aY,WW]at hs
  exact hs.1
 rw[hs',decide_eq_true (by omega:a0.ae.length≤1000),hf,hc]
 simp only[fm,beq_self_eq_true,Bool.and_self,Bool.true_and,Bool.and_true,WZ]
 rfl
theorem MM {z:a8} {t:Int} (hz:ao z=0) (hd:dj ((t+z.base)/1440)=true):bM z t=w7 z t:=by
 obtain⟨z1,z2,_⟩:=bx hz
 obtain⟨s1,s2⟩:=kH hz hd
 unfold bM w7
 rw[s1]
 rcases s2 with h|h
 ·rw[h,decide_eq_false (by omega),W2];omega
 ·by_cases h0:z.shift=0
  ·rw[h,h0,decide_eq_false (by omega),W2];omega
  ·rw[h,decide_eq_true (by omega:z.shift>0),WZ]
theorem ue (a0:Config) (a1:Int) (hg:EZ a0 a1=true):∃F d,run QE F d 20 Tryz.f20 iL (a0,a1,())=some (mW.enc (Sf a0 a1)):=by
 refine⟨200,6,?_⟩
 rw[sG]
 have hg':aY a0=true∧af a0=0:=by simpa only[EZ,WW,beq_iff_eq]using hg
 obtain⟨hs,hc⟩:=hg'
 have hz:=(dn hc).1
 obtain⟨z1,z2,z3,_⟩:=bx hz
 rw[show dS a0 a1=true by simp only[dS,hc,beq_self_eq_true]]
 simp only[fm,qn,Bool.true_and,Bool.and_true,Bool.and_self,WZ]
 cases hv:dz a0 a1 with
 |false=>
  unfold Sf
  rw[QZ hc hv]
  rfl
 |true=>
  have hsv:=(CG hc).1 hv
  have hd:dj ((a1+a0.aE.base)/1440)=true:=cF.2 (by omega)
  have hr:=rz (z:=a0.aE) a1 z2
  have ht:w7 a0.aE a1=a1+a0.aE.base+bD a0.aE a1:=rfl
  have hD:(dg a0.aE a1).1=w7 a0.aE a1/1440:=by rw[BZ hz (by omega) (by omega)]
  rw[show cE a0.aE a1=true by simp only[cE,cP,z3,hd,mid,lit,Bool.true_and,Bool.and_true,WW,WY];omega]
  rw[MM hz hd,Int.tdiv_eq_ediv_of_nonneg (by omega),←hD]
  generalize hE:(dg a0.aE a1).1=D at*
  rw[wrI (n:=D) (by omega),wrI (n:=D-9) (by omega),wrI (n:=D+1) (by omega)]
  have hd2:nz (D-9) (D+1)=true:=by simp only[nz,WW,WY];omega
  have hm:=Pc hc hd2
  have e11:((D+1)-(D-9)+1).toNat=11:=by omega
  rw[e11]at hm
  have hrow:jG a0 (D-9) (D+1)=cD a0 11 (D-9):=by unfold jG;rw[e11]
  have hlen:(cD a0 11 (D-9)).length≤500:=by
   have:=hm
   simp only[zi,WW,WY]at this
   exact this.2
  have href:=SY hm
  have hrl:=qa (cD a0 11 (D-9))
  rw[show zD a0 (D-9) (D+1)=true by simp only[zD,hs,hc,fg,beq_self_eq_true,Bool.true_and,WW,WY];omega]
  rw[hrow,href,show yP (cD a0 11 (D-9))=true by simp only[yP,WY];omega]
  rw[show bl (eQ (cD a0 11 (D-9))) a1=true by simp only[bl,dd,WY];omega]
  have ea:bQ a0 D=(eQ (cD a0 11 (D-9)),0):=by
   unfold bQ cS
   rw[hc,hd2,e11]
   show bA (cD a0 11 (D-9))=_
   unfold bA
   rw[hm]
   rfl
  have et:atG a0 a1=eD (eQ (cD a0 11 (D-9))) a1:=by
   unfold atG
   rw[hE,ea]
  have hmode:fK a0 a1=cond (atG a0 a1).2 ((atG a0 a1).1.mode,(atG a0 a1).1.from_,0) (0,0,0):=by
   unfold fK
   rw[hc,hv]
   rfl
  unfold Sf
  rw[hmode,et]
  simp only[Bool.not_true,W2,WZ]
  cases (eD (eQ (cD a0 11 (D-9))) a1).2<;>rfl
end Go.Proofs.YtfhepbbkggdlcaaGreatDoor.Px.PxT


namespace Go.Proofs.YtfhepbbkggdlcaaGreatDoor.Px.PxT
open Go Go.Proofs
theorem lZ (a0:Config) (a1:Int):∃F d,run Ss F d 4 Tryz.f4 b8 (a0,a1,())=some (AV.bool true):=by
 refine⟨200,6,?_⟩
 rw[lV]
 simp only[fm,qn,Bool.true_and,Bool.and_true,Bool.and_self,WZ]
 cases hf:C2 a0 with
 |false=>rfl
 |true=>
  have hs:=M0 hf
  rw[hs,Ge,show tI a0 a1=true from hs]
  simp only[Bool.not_true,W2,WZ]
  cases hc:af a0 != 0 with
  |true=>
   have e:fK a0 a1=(0,0,af a0):=by
    unfold fK
    rw[hc]
    rfl
   rw[e]
   simp only[WZ,beq_self_eq_true]
  |false=>
   have hc0:af a0=0:=by simpa using hc
   rw[show EZ a0 a1=true by simp only[EZ,hs,hc0,beq_self_eq_true,Bool.and_self],RQ a1 hc0]
   simp only[WZ,W2,beq_self_eq_true]
end Go.Proofs.YtfhepbbkggdlcaaGreatDoor.Px.PxT
