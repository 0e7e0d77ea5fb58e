/- The table: the functions are what is said of them. -/
import Derived.Test.YtfhepbbkggdlcaaGreatDoorPxTProofs6
import Derived.Test.YtfhepbbkggdlcaaGreatDoorPxSpecSpan
import Derived.Test.YtfhepbbkggdlcaaGreatDoorPxSpecGreg
set_option linter.unusedVariables false
set_option linter.unusedSimpArgs false
namespace Go.Proofs.YtfhepbbkggdlcaaGreatDoor.Px.PxT
open Go Go.Proofs
set_option maxRecDepth 10000
theorem SH (l0:List (Int)) (l1:List (ag)) (l9:List (Span)) (Q0 Q1 Q2 Q4 Q5 Q6 Q7 Q8 Q9 Q10 Q11 Q12 Q13 Q14 Q15 Q16 Q17 Q18 Q19 Q20 Q21 Q22 Q23 Q24 Q25 Q26 Q27 Q28 Q29 Q30 Q31 Q32 Q33 Q34:Int) (Q35:Bool) (S0 S1 S2 S4 S5 S6 S7 S8 S9 S10 S11 S12 S13 S14 S15 S16 S17 S18 S19 S20 S21 S22 S23 S24 S25 S26 S27 S28 S29 S30 S31 S32 S33 S34:Int) (S35:Bool) (U0 W0 v5 v19 v20:Int) (F d:Nat) (C:Config) (hC:C=(⟨S0,S1,S2,l0,⟨S4,S5,S6,S7,S8,S9,S10⟩,S11,S12,⟨S13,S14,⟨S15,S16,S17,S18⟩,⟨S19,S20,S21,S22⟩⟩,⟨S23,S24,S25,S26,S27,S28,S29,S30,S31,S32,S33,S34⟩,S35,l1⟩:Config)) (h0:l0.length≤1048576) (h1:l1.length≤1000) (hv:v19=((l1.length:Nat):Int)):∀(suf pre:List ag) (out:List Span) (n:Nat),l1=pre++suf→suf.length<n→out.length+suf.length≤200000→
  CT F (d+3) n (zm l0 l1 out Q0 Q1 Q2 Q4 Q5 Q6 Q7 Q8 Q9 Q10 Q11 Q12 Q13 Q14 Q15 Q16 Q17 Q18 Q19 Q20 Q21 Q22 Q23 Q24 Q25 Q26 Q27 Q28 Q29 Q30 Q31 Q32 Q33 Q34 Q35 S0 S1 S2 S4 S5 S6 S7 S8 S9 S10 S11 S12 S13 S14 S15 S16 S17 S18 S19 S20 S21 S22 S23 S24 S25 S26 S27 S28 S29 S30 S31 S32 S33 S34 S35 U0 W0 v5 v19 ((pre.length:Nat):Int))=some (.exit 2,(xu l0 l1 (out++bo C v5 suf) Q0 Q1 Q2 Q4 Q5 Q6 Q7 Q8 Q9 Q10 Q11 Q12 Q13 Q14 Q15 Q16 Q17 Q18 Q19 Q20 Q21 Q22 Q23 Q24 Q25 Q26 Q27 Q28 Q29 Q30 Q31 Q32 Q33 Q34 Q35 S0 S1 S2 S4 S5 S6 S7 S8 S9 S10 S11 S12 S13 S14 S15 S16 S17 S18 S19 S20 S21 S22 S23 S24 S25 S26 S27 S28 S29 S30 S31 S32 S33 S34 S35 U0 W0 v5)):=by
 have hs:∀w x,Dn C w x=true:=by
  intro w x
  rw[hC]
  simp only[Dn,aX,XR,XT]
  exact⟨h0,by omega⟩
 intro suf
 induction suf with
 |nil=>
  intro pre out n hl hn ho
  obtain⟨n,rfl⟩:∃k,n=k+1:=⟨n-1,by omega⟩
  rw[E5,←hC]
  dsimp only
  rw[decide_eq_false (by rw[hv,hl];simp:¬((pre.length:Nat):Int)<v19),XV]
  simp[bo]
 |cons w suf ih=>
  intro pre out n hl hn ho
  obtain⟨n,rfl⟩:∃k,n=k+1:=⟨n-1,by omega⟩
  have ih':=fun o ho=>ih (pre++[w]) o n (by rw[hl];simp) (by simp at hn;omega) ho
  have f1:decide (((pre.length:Nat):Int)<v19)=true:=by rw[hv,hl];exact dZ _ _ _
  have f2:(decide ((0:Int)≤((pre.length:Nat):Int))&&decide (((pre.length:Nat):Int)<((l1.length:Nat):Int)))=true:=by rw[hl];exact UZ _ _ _
  have f3:decide (0+Int.toNat ((pre.length:Nat):Int)<l1.length)=true:=by rw[hl];exact di _ _ _
  have f4:∀z,List.getD l1 (0+Int.toNat ((pre.length:Nat):Int)) z=w:=by intro z;rw[hl];exact dX _ _ _ _
  have f5:IntKind.i64.wrap (((pre.length:Nat):Int)+1)=(((pre++[w]).length:Nat):Int):=cE (suf:=suf) (by rw[←hl];omega)
  have f6:Nat.ble out.length 1048576=true:=by simp at ho⊢;omega
  rw[E5,←hC]
  dsimp only
  rw[f1,f2,f3,f4,hs,f5]
  simp only[eH,qh,f6,Bool.true_and,Bool.and_true,Bool.and_self,XU]
  unfold bo
  cases hw:(bw C w v5).2.1 with
  |true=>
   simp only[XU,XV]
   rw[ih' (out++[(bw C w v5).1]) (by simp at ho⊢;omega)]
   simp
  |false=>
   simp only[XV]
   exact ih' out (by simp at ho;omega)
theorem Nl (l0:List (Int)) (l1:List (ag)) (l9:List (Span)) (Q0 Q1 Q2 Q4 Q5 Q6 Q7 Q8 Q9 Q10 Q11 Q12 Q13 Q14 Q15 Q16 Q17 Q18 Q19 Q20 Q21 Q22 Q23 Q24 Q25 Q26 Q27 Q28 Q29 Q30 Q31 Q32 Q33 Q34:Int) (Q35:Bool) (S0 S1 S2 S4 S5 S6 S7 S8 S9 S10 S11 S12 S13 S14 S15 S16 S17 S18 S19 S20 S21 S22 S23 S24 S25 S26 S27 S28 S29 S30 S31 S32 S33 S34:Int) (S35:Bool) (U0 W0 v5 v19 v20:Int) (hg:(decide (l0.length≤1048576)&&(decide (l1.length≤1000)&&(decide (l9.length≤100000)&&(v19==(l1.length:Int)&&v20==0))))=true):∃N d,CT N d N (zm l0 l1 l9 Q0 Q1 Q2 Q4 Q5 Q6 Q7 Q8 Q9 Q10 Q11 Q12 Q13 Q14 Q15 Q16 Q17 Q18 Q19 Q20 Q21 Q22 Q23 Q24 Q25 Q26 Q27 Q28 Q29 Q30 Q31 Q32 Q33 Q34 Q35 S0 S1 S2 S4 S5 S6 S7 S8 S9 S10 S11 S12 S13 S14 S15 S16 S17 S18 S19 S20 S21 S22 S23 S24 S25 S26 S27 S28 S29 S30 S31 S32 S33 S34 S35 U0 W0 v5 v19 v20)=some (a7 Prod.mk [] (.exit 2) (xu l0 l1 (l9++bo (⟨S0,S1,S2,l0,⟨S4,S5,S6,S7,S8,S9,S10⟩,S11,S12,⟨S13,S14,⟨S15,S16,S17,S18⟩,⟨S19,S20,S21,S22⟩⟩,⟨S23,S24,S25,S26,S27,S28,S29,S30,S31,S32,S33,S34⟩,S35,l1⟩:Config) v5 l1) Q0 Q1 Q2 Q4 Q5 Q6 Q7 Q8 Q9 Q10 Q11 Q12 Q13 Q14 Q15 Q16 Q17 Q18 Q19 Q20 Q21 Q22 Q23 Q24 Q25 Q26 Q27 Q28 Q29 Q30 Q31 Q32 Q33 Q34 Q35 S0 S1 S2 S4 S5 S6 S7 S8 S9 S10 S11 S12 S13 S14 S15 S16 S17 S18 S19 S20 S21 S22 S23 S24 S25 S26 S27 S28 S29 S30 S31 S32 S33 S34 S35 U0 W0 v5)):=by
 simp only[XR,beq_iff_eq,XT]at hg
 obtain⟨h0,h1,h2,h3,rfl⟩:=hg
 exact⟨2000,3,SH l0 l1 l9 Q0 Q1 Q2 Q4 Q5 Q6 Q7 Q8 Q9 Q10 Q11 Q12 Q13 Q14 Q15 Q16 Q17 Q18 Q19 Q20 Q21 Q22 Q23 Q24 Q25 Q26 Q27 Q28 Q29 Q30 Q31 Q32 Q33 Q34 Q35 S0 S1 S2 S4 S5 S6 S7 S8 S9 S10 S11 S12 S13 S14 S15 S16 S17 S18 S19 S20 S21 S22 S23 S24 S25 S26 S27 S28 S29 S30 S31 S32 S33 S34 S35 U0 W0 v5 v19 0 2000 0 _ rfl h0 h1 h3 l1 [] l9 2000 rfl (by omega) (by omega)⟩
theorem Tq (l0:List (Int)) (l1:List (ag)) (l9:List (Span)) (Q0 Q1 Q2 Q4 Q5 Q6 Q7 Q8 Q9 Q10 Q11 Q12 Q13 Q14 Q15 Q16 Q17 Q18 Q19 Q20 Q21 Q22 Q23 Q24 Q25 Q26 Q27 Q28 Q29 Q30 Q31 Q32 Q33 Q34:Int) (Q35:Bool) (S0 S1 S2 S4 S5 S6 S7 S8 S9 S10 S11 S12 S13 S14 S15 S16 S17 S18 S19 S20 S21 S22 S23 S24 S25 S26 S27 S28 S29 S30 S31 S32 S33 S34:Int) (S35:Bool) (U0 W0 v5:Int) (F d:Nat) (C:Config) (hC:C=(⟨S0,S1,S2,l0,⟨S4,S5,S6,S7,S8,S9,S10⟩,S11,S12,⟨S13,S14,⟨S15,S16,S17,S18⟩,⟨S19,S20,S21,S22⟩⟩,⟨S23,S24,S25,S26,S27,S28,S29,S30,S31,S32,S33,S34⟩,S35,l1⟩:Config)) (h0:l0.length≤1048576) (h1:l1.length≤1000) (hb:W0≤3651990):∀(k:Nat) (x:Int) (out:List Span) (n:Nat),(W0-x+1).toNat=k→402≤x→x≤3652100→out.length+k*1000≤100000→k<n→
  FX F (d+3) n (DS l0 l1 out Q0 Q1 Q2 Q4 Q5 Q6 Q7 Q8 Q9 Q10 Q11 Q12 Q13 Q14 Q15 Q16 Q17 Q18 Q19 Q20 Q21 Q22 Q23 Q24 Q25 Q26 Q27 Q28 Q29 Q30 Q31 Q32 Q33 Q34 Q35 S0 S1 S2 S4 S5 S6 S7 S8 S9 S10 S11 S12 S13 S14 S15 S16 S17 S18 S19 S20 S21 S22 S23 S24 S25 S26 S27 S28 S29 S30 S31 S32 S33 S34 S35 U0 W0 x)=some (.exit 0,(yN l0 l1 (out++dH C k x) Q0 Q1 Q2 Q4 Q5 Q6 Q7 Q8 Q9 Q10 Q11 Q12 Q13 Q14 Q15 Q16 Q17 Q18 Q19 Q20 Q21 Q22 Q23 Q24 Q25 Q26 Q27 Q28 Q29 Q30 Q31 Q32 Q33 Q34 Q35 S0 S1 S2 S4 S5 S6 S7 S8 S9 S10 S11 S12 S13 S14 S15 S16 S17 S18 S19 S20 S21 S22 S23 S24 S25 S26 S27 S28 S29 S30 S31 S32 S33 S34 S35 U0 W0)):=by
 intro k
 induction k with
 |zero=>
  intro x out n hk h2 h3 ho hn
  obtain⟨n,rfl⟩:∃k,n=k+1:=⟨n-1,by omega⟩
  rw[zL,←hC]
  dsimp only
  rw[decide_eq_false (by omega:¬x≤W0),XV]
  simp[dH]
 |succ k ih=>
  intro x out n hk h2 h3 ho hn
  obtain⟨n,rfl⟩:∃k,n=k+1:=⟨n-1,by omega⟩
  have hw:=qa C x l1
  have hcw:C.ae=l1:=by rw[hC]
  have g1:decide (l0.length≤1048576)=true:=decide_eq_true h0
  have g2:decide (l1.length≤1000)=true:=decide_eq_true h1
  have g3:decide (out.length≤100000)=true:=decide_eq_true (by omega)
  rw[zL,←hC]
  dsimp only
  rw[decide_eq_true (by omega:x≤W0),g1,g2,g3,wrI (n:=x+1) (by omega)]
  simp only[eH,beq_self_eq_true,Bool.true_and,Bool.and_true,Bool.and_self,XU]
  rw[ih (x+1) (out++bo C x l1) n (by omega) (by omega) (by omega) (by rw[List.length_append];omega) (by omega)]
  simp only[dH,hcw,List.append_assoc]
theorem NG (l0:List (Int)) (l1:List (ag)) (l9:List (Span)) (Q0 Q1 Q2 Q4 Q5 Q6 Q7 Q8 Q9 Q10 Q11 Q12 Q13 Q14 Q15 Q16 Q17 Q18 Q19 Q20 Q21 Q22 Q23 Q24 Q25 Q26 Q27 Q28 Q29 Q30 Q31 Q32 Q33 Q34:Int) (Q35:Bool) (S0 S1 S2 S4 S5 S6 S7 S8 S9 S10 S11 S12 S13 S14 S15 S16 S17 S18 S19 S20 S21 S22 S23 S24 S25 S26 S27 S28 S29 S30 S31 S32 S33 S34:Int) (S35:Bool) (U0 W0 v5:Int) (hg:(decide (l0.length≤1048576)&&(decide (l1.length≤1000)&&(l9.length==0&&eu v5 W0)))=true):∃N d,FX N d N (DS l0 l1 l9 Q0 Q1 Q2 Q4 Q5 Q6 Q7 Q8 Q9 Q10 Q11 Q12 Q13 Q14 Q15 Q16 Q17 Q18 Q19 Q20 Q21 Q22 Q23 Q24 Q25 Q26 Q27 Q28 Q29 Q30 Q31 Q32 Q33 Q34 Q35 S0 S1 S2 S4 S5 S6 S7 S8 S9 S10 S11 S12 S13 S14 S15 S16 S17 S18 S19 S20 S21 S22 S23 S24 S25 S26 S27 S28 S29 S30 S31 S32 S33 S34 S35 U0 W0 v5)=some (a7 Prod.mk [] (.exit 0) (yN l0 l1 (dH (⟨S0,S1,S2,l0,⟨S4,S5,S6,S7,S8,S9,S10⟩,S11,S12,⟨S13,S14,⟨S15,S16,S17,S18⟩,⟨S19,S20,S21,S22⟩⟩,⟨S23,S24,S25,S26,S27,S28,S29,S30,S31,S32,S33,S34⟩,S35,l1⟩:Config) (W0-v5+1).toNat v5) Q0 Q1 Q2 Q4 Q5 Q6 Q7 Q8 Q9 Q10 Q11 Q12 Q13 Q14 Q15 Q16 Q17 Q18 Q19 Q20 Q21 Q22 Q23 Q24 Q25 Q26 Q27 Q28 Q29 Q30 Q31 Q32 Q33 Q34 Q35 S0 S1 S2 S4 S5 S6 S7 S8 S9 S10 S11 S12 S13 S14 S15 S16 S17 S18 S19 S20 S21 S22 S23 S24 S25 S26 S27 S28 S29 S30 S31 S32 S33 S34 S35 U0 W0)):=by
 simp only[XR,beq_iff_eq,XT,eu]at hg
 obtain⟨h0,h1,h2,h3,h4,h5⟩:=hg
 have hl:l9=[]:=List.eq_nil_of_length_eq_zero h2
 subst hl
 refine⟨40,3,?_⟩
 by_cases hx:v5≤3652100
 ·have:=Tq l0 l1 [] Q0 Q1 Q2 Q4 Q5 Q6 Q7 Q8 Q9 Q10 Q11 Q12 Q13 Q14 Q15 Q16 Q17 Q18 Q19 Q20 Q21 Q22 Q23 Q24 Q25 Q26 Q27 Q28 Q29 Q30 Q31 Q32 Q33 Q34 Q35 S0 S1 S2 S4 S5 S6 S7 S8 S9 S10 S11 S12 S13 S14 S15 S16 S17 S18 S19 S20 S21 S22 S23 S24 S25 S26 S27 S28 S29 S30 S31 S32 S33 S34 S35 U0 W0 v5 40 0 _ rfl h0 h1 h4 (W0-v5+1).toNat v5 [] 40 rfl h3 hx (by simp only[List.length_nil];omega) (by omega)
  rw[List.nil_append]at this
  exact this
 ·have hz:(W0-v5+1).toNat=0:=by omega
  rw[hz]
  rw[zL]
  dsimp only
  rw[decide_eq_false (by omega:¬v5≤W0)]
  rfl
theorem AZ (a0:Config) (a1:Int) (a2:Int) (hg:tC a0 a1 a2=true):∃F d,kd k78 F d 13 Tryz.f13 nC nz (a0,a1,a2,())=some (bh a0 a1 a2):=by
 refine⟨200,6,?_⟩
 rw[zo]
 obtain⟨b1,b2,b3,b4⟩:=my a0
 have hs:aX a0=true:=hg
 have hs':decide (a0.stops.length≤1048576)=true:=by
  simp only[aX,XR]at hs
  exact hs.1
 rw[b1,b2,b3,b4,hs]
 unfold bh
 cases hc:af a0 != 0 with
 |true=>rfl
 |false=>
  have hw:=GZ (show af a0=0 by simpa using hc)
  cases hd:fG a1 a2 with
  |false=>
   have e:(bif bif bif decide (a1<402)then true else decide (a2>3651990)then true else decide (a1>a2)then true else decide (IntKind.i64.wrap (a2-a1)>30))=true:=by
    by_cases c1:a1<402
    ·rw[decide_eq_true c1];rfl
    ·by_cases c2:a2>3651990
     ·rw[decide_eq_false c1,decide_eq_true c2];rfl
     ·by_cases c3:a1>a2
      ·rw[decide_eq_false c1,decide_eq_false c2,decide_eq_true c3];rfl
      ·rw[decide_eq_false c1,decide_eq_false c2,decide_eq_false c3,wrI (n:=a2-a1) (by omega)]
       simp only[XV,XT]
       by_cases c4:a2-a1>30
       ·exact c4
       ·have:fG a1 a2=true:=by simp only[fG,XR,XT];omega
        rw[this]at hd
        cases hd
   rw[e]
   rfl
  |true=>
   obtain⟨d1,d2,d3,d4⟩:=FZ hd
   rw[wrI (n:=a2-a1) (by omega),decide_eq_false (by omega:¬a1<402),decide_eq_false (by omega:¬a2>3651990),decide_eq_false (by omega:¬a1>a2),decide_eq_false (by omega:¬a2-a1>30)]
   rw[hs',decide_eq_true (by omega:a0.ae.length≤1000)]
   rw[show eu a1 a2=true by simp only[eu,XR,XT];omega]
   simp only[eH,Bool.and_self,Bool.true_and,Bool.and_true,XU,XV]
theorem A0 (a0:Config) (a1:Int) (hg:ln a0 a1=true):∃F d,kd k79 F d 28 Tryz.f28 nF nL (a0,a1,())=some (bP a0 a1):=by
 refine⟨200,6,?_⟩
 rw[zQ]
 obtain⟨b1,b2,b3,b4⟩:=my a0
 have hg':aX a0=true∧(-1000000000000≤a1∧a1≤1000000000000):=by simpa only[ln,big,XR,XT]using hg
 obtain⟨hs,h1⟩:=hg'
 have hl:=pG a0 (a1-9) (a1+1)
 rw[b1,b2,b3,b4,wrI (n:=a1-9) (by omega),wrI (n:=a1+1) (by omega),show tC a0 (a1-9) (a1+1)=true from hs]
 rw[show cR (bh a0 (a1-9) (a1+1)).1=true by simp only[cR,XT];omega]
 unfold bP
 simp only[eH,qh,Bool.and_self,Bool.true_and,Bool.and_true,XU]
 cases (bh a0 (a1-9) (a1+1)).2 != 0<;>rfl
theorem Et (a0:Config) (a1:Int) (hg:tE a0 a1=true):∃F d,kd k80 F d 11 Tryz.f11 rl sV (a0,a1,())=some (aY a0 a1):=by
 refine⟨200,6,?_⟩
 rw[C4]
 obtain⟨b1,b2,b3,b4⟩:=my a0
 have hs:aX a0=true:=hg
 rw[b1,b2,b3,b4,hs]
 unfold aY
 cases hc:af a0 != 0 with
 |true=>rfl
 |false=>
  by_cases h1:a1<411
  ·rw[decide_eq_true h1];rfl
  ·by_cases h2:a1>3651988
   ·rw[decide_eq_false h1,decide_eq_true h2];rfl
   ·have hl:=xC a0 a1
    rw[decide_eq_false h1,decide_eq_false h2,wrI (n:=a1+1) (by omega)]
    rw[show ln a0 a1=true by simp only[ln,hs,big,Bool.true_and,XR,XT];omega]
    rw[show dS (bP a0 a1).1 (cM a0.aK a1 0).1 (cM a0.aK (a1+1) 0).1=true by simp only[dS,cR,XT];omega]
    simp only[eH,qh,Bool.and_self,Bool.true_and,Bool.and_true,XU,XV,Bool.or_self]
    cases (bP a0 a1).2 != 0<;>rfl
theorem Aa (a0:Config) (a1:Int) (hg:iP a0 a1=true):∃F d,run k81 F d 40 Tryz.f40 lU (a0,a1,())=some (sE.enc (fX a0 a1)):=by
 refine⟨200,6,?_⟩
 rw[xw]
 have hc:af a0=0:=by simpa only[iP,beq_iff_eq]using hg
 obtain⟨z1,_⟩:=bR (cW hc).1
 unfold fX
 have e:(bif decide (a1<576000)then true else decide (a1>5258879999))= !inB a1 576000 5258879999:=by
  unfold inB
  rw[Bool.eq_iff_iff]
  cases h1:decide (a1<576000)<;>simp at h1⊢ <;>omega
 rw[e]
 cases hb:inB a1 576000 5258879999 with
 |false=>rfl
 |true=>
  have h1:=bG.1 hb
  rw[wrI (n:=a1+a0.aK.base) (by omega)]
  rw[show bD (a1+a0.aK.base) 1440=true by simp only[bD,big,byB,XR,XT];omega]
  simp only[Bool.not_true,XV,Bool.and_self,XU,Bool.true_and]
  cases (ofG ((a1+a0.aK.base)/1440)).2==0<;>cases h2:decide (1900≤(ofG ((a1+a0.aK.base)/1440)).1.year)<;>simp only[ge_iff_le,h2,XU,XV,Bool.true_and,Bool.false_and]<;>rfl
theorem OE {c:Config} {t:Int} (hc:af c=0) (hs:fX c t=true): -1000000000000≤(dr c.aK t).1∧(dr c.aK t).1≤1000000000000:=by
 obtain⟨hz,_⟩:=cW hc
 obtain⟨z1,z2,_⟩:=bR hz
 have h:=(K3 hc).1 hs
 have hr:=AJ (z:=c.aK) t z2
 rw[J3 hz (by omega) (by omega)]
 unfold JF
 dsimp only
 omega
theorem CI (a0:Config) (a1:Int) (hg:tE a0 a1=true):∃F d,run k82 F d 19 Tryz.f19 ph (a0,a1,())=some (ya.enc (Rs a0 a1)):=by
 refine⟨200,6,?_⟩
 rw[AR]
 obtain⟨b1,b2,b3,b4⟩:=my a0
 have hs:aX a0=true:=hg
 rw[b1,b2,b3,b4,hs]
 unfold Rs
 cases hc:af a0 != 0 with
 |true=>rfl
 |false=>
  have hc0:af a0=0:=by simpa using hc
  rw[show iP a0 a1=true by simp only[iP,hc0,beq_self_eq_true]]
  cases hv:fX a0 a1 with
  |false=>rfl
  |true=>
   have hb:=OE hc0 hv
   have hl:=xC a0 (dr a0.aK a1).1
   rw[show ln a0 (dr a0.aK a1).1=true by simp only[ln,hs,big,Bool.true_and,XR,XT];omega]
   rw[show bz (bP a0 (dr a0.aK a1).1).1 a1=true by simp only[bz,cR,XT];omega]
   unfold atG
   simp only[eH,qh,Bool.and_self,Bool.true_and,Bool.and_true,XU,XV,Bool.not_true]
   cases (ja (bP a0 (dr a0.aK a1).1).1 a1).2<;>rfl
end Go.Proofs.YtfhepbbkggdlcaaGreatDoor.Px.PxT


namespace Go.Proofs.YtfhepbbkggdlcaaGreatDoor.Px.PxT
open Go Go.Proofs
theorem Sl {a b:Int} (hb:1≤b):(a.tmod b=0∨0≤a→a/b=a.tdiv b)∧(a.tmod b≠0→a<0→a/b=a.tdiv b-1):=by
 obtain⟨d1,d2,d3,d4⟩:=yI (a:=a) (b:=b) hb
 refine⟨fun h=>(d2 ?_).1,fun h1 h2=>(d1 ?_).1⟩
 ·rcases h with h|h
  ·omega
  ·exact Int.tmod_nonneg b h
 ·have hn:=Int.tmod_nonneg b (show 0≤ -a by omega)
  rw[Int.neg_tmod]at hn
  omega
theorem wv (a0:Int) (a1:Int) (hg:bD a0 a1=true):∃F d,run k95 F d 45 Tryz.f45 jJ (a0,a1,())=some (oD.enc (qC a0 a1)):=by
 refine⟨200,6,?_⟩
 rw[uT]
 simp only[bD,byB,big,XR,XT]at hg
 have e2:(a1 != 0)=true:=by rw[bne_iff_ne];omega
 obtain⟨t1,t2⟩:=Sl (a:=a0) (b:=a1) (by omega)
 obtain⟨q1,q2⟩:=L5 (a:=a0) (b:=a1) (K:=1000000000000) (by omega) (by omega) (by omega) (by omega)
 simp only[e2,XU]
 by_cases h:a0.tmod a1=0
 ·have f:=t1 (.inl h)
  rw[show(a0.tmod a1 != 0)=false by rw[h];rfl,XV,XV,←f,wrI (by omega)]
  rfl
 ·rw[show(a0.tmod a1 != 0)=true by rw[bne_iff_ne];exact h,XU]
  by_cases hn:a0<0
  ·have f:=t2 h hn
   rw[decide_eq_true hn,XU,wrI (n:=a0.tdiv a1) (by omega),wrI (by omega),←f]
   rfl
  ·have f:=t1 (.inr (by omega))
   rw[decide_eq_false hn,XV,←f,wrI (by omega)]
   rfl
theorem uU (a0:Int):∃F d,run k96 F d 105 Tryz.f105 ir (a0,())=some (iz.enc (dU a0)):=by
 refine⟨200,6,?_⟩
 rw[ra]
 simp only[iz,Res.bool,dU]
 cases h1:Int.tmod a0 4==0<;>cases h2:Int.tmod a0 100 != 0<;>cases h3:Int.tmod a0 400==0<;>rfl
theorem ur (a0:Int):∃F d,run k97 F d 81 Tryz.f81 iA (a0,())=some (iL.enc (eR a0)):=by
 refine⟨200,6,?_⟩
 rw[rT]
 simp only[iL,Res.int,eR]
 cases dU a0<;>rfl
theorem uX (a0:Int) (a1:Int):∃F d,run k98 F d 82 Tryz.f82 hJ (a0,a1,())=some (hO.enc (ai a0 a1)):=by
 refine⟨200,6,?_⟩
 rw[rW]
 simp only[hO,Res.int,ai]
 have hc:(bif bif bif decide (a0<1)then true else decide (a0>9999)then true else decide (a1<1)then true else decide (a1>12))= !bm a0 a1:=by
  rw[Bool.eq_iff_iff]
  by_cases h1:a0<1<;>by_cases h2:a0>9999<;>by_cases h3:a1<1<;>by_cases h4:a1>12<;>simp[bm,h1,h2,h3,h4]<;>omega
 rw[hc]
 cases hm:bm a0 a1 with
 |false=>rfl
 |true=>
  simp only[bm,XR,XT]at hm
  simp only[Bool.not_true,XV,XU]
  have h12:a1=1∨a1=2∨a1=3∨a1=4∨a1=5∨a1=6∨a1=7∨a1=8∨a1=9∨a1=10∨a1=11∨a1=12:=by omega
  rcases h12 with rfl|rfl|rfl|rfl|rfl|rfl|rfl|rfl|rfl|rfl|rfl|rfl<;>cases dU a0<;>rfl
theorem Vx (O0 O1 O2 v0 v3:Int) (F d:Nat) (N:Int) (h1:1≤N) (h2:N≤3652059):∀(m:Nat) (y:Int) (n:Nat),1≤y→y+m=yrG N→m<n→
  Ml F (d+3) n (Ix O0 O1 O2 (N-aF y) y)=some (.exit 0,(BQ O0 O1 O2 (N-aF (yrG N)) (yrG N))):=by
 obtain⟨y1,y2,l1,l2,e1,e2⟩:=nn h1 h2
 intro m
 induction m with
 |zero=>
  intro y n hy hm hn
  obtain⟨n,rfl⟩:∃k,n=k+1:=⟨n-1,by omega⟩
  have:y=yrG N:=by omega
  subst this
  rw[Ji]
  have:=j0 y1
  rw[show decide (N-aF (yrG N)>eR (yrG N))=false by simp;omega,XV]
 |succ m ih=>
  intro y n hy hm hn
  obtain⟨n,rfl⟩:∃k,n=k+1:=⟨n-1,by omega⟩
  have hl:=j0 hy
  have hb:=cV (y:=y) (by omega) (by omega)
  have hb':=cV (y:=y+1) (by omega) (by omega)
  have hmo:=jX (y:=y+1) (z:=yrG N) (by omega) (by omega)
  rw[Ji]
  rw[show decide (N-aF y>eR y)=true by simp;omega,XU,wrI (n:=N-aF y-eR y) (by omega),wrI (n:=y+1) (by omega),show N-aF y-eR y=N-aF (y+1) by omega]
  exact ih (y+1) n (by omega) (by omega) (by omega)
theorem Sr (O0 O1 O2 v0 v3:Int) (hg:(v3==1&&dt v0)=true):∃N d,Ml N d N (Ix O0 O1 O2 v0 v3)=some (a7 Prod.mk [] (.exit 0) (BQ O0 O1 O2 (v0-aF (yrG v0)) (yrG v0))):=by
 simp only[XR,beq_iff_eq,c8]at hg
 obtain⟨rfl,h1,h2⟩:=hg
 obtain⟨y1,y2,_⟩:=nn h1 h2
 have:=Vx O0 O1 O2 v0 1 20000 0 v0 h1 h2 (yrG v0-1).toNat 1 20000 (by omega) (by omega) (by omega)
 rw[show v0-aF 1=v0 by rw[show aF 1=0 from rfl];omega]at this
 exact⟨20000,3,this⟩
theorem Tg (O0 O1 O2 v0 v3 v4:Int) (F d:Nat) (R:Int) (h1:1≤v3) (h2:v3≤9999) (r1:1≤R) (r2:R≤eR v3):∀(k m:Nat) (n:Nat),1≤m→m+k=12→aE v3 (m-1)<R→k<n→
  GO F (d+3) n (Ea O0 O1 O2 (R-aE v3 (m-1)) v3 ((m:Nat):Int))=some (.exit 2,(x7 O0 O1 O2 (R-aE v3 (oC v3 (R-1) m k-1)) v3 ((oC v3 (R-1) m k:Nat):Int))):=by
 intro k
 have hy:=IE h1 h2
 induction k with
 |zero=>
  intro m n hm hk hs hn
  obtain⟨n,rfl⟩:∃k,n=k+1:=⟨n-1,by omega⟩
  have:m=12:=by omega
  subst this
  rw[Fb]
  have e:aE v3 12=aE v3 11+ai v3 12:=rfl
  rw[show decide (R-aE v3 (12-1)>ai v3 ((12:Nat):Int))=false by simp;omega,XV]
  rfl
 |succ k ih=>
  intro m n hm hk hs hn
  obtain⟨n,rfl⟩:∃k,n=k+1:=⟨n-1,by omega⟩
  have e:aE v3 m=aE v3 (m-1)+ai v3 (m:Int):=by
   obtain⟨j,rfl⟩:∃j,m=j+1:=⟨m-1,by omega⟩
   simp only[aE,Nat.add_sub_cancel]
   rfl
  have hr:=dQ v3 (m-1)
  have hr':=dQ v3 m
  have hL:eR v3≤366:=by unfold eR;cases dU v3<;>decide
  rw[Fb]
  simp only[oC]
  by_cases hc:R-1<aE v3 m
  ·rw[decide_eq_true hc,XU,show decide (R-aE v3 (m-1)>ai v3 (m:Int))=false by simp;omega,XV]
  ·rw[decide_eq_false hc,XV,show decide (R-aE v3 (m-1)>ai v3 (m:Int))=true by simp;omega,XU,wrI (n:=R-aE v3 (m-1)-ai v3 (m:Int)) (by omega),wrI (n:=(m:Int)+1) (by omega)]
   have:=ih (m+1) n (by omega) (by omega) (by rw[Nat.add_sub_cancel];omega) (by omega)
   rw[Nat.add_sub_cancel]at this
   rw[show R-aE v3 (m-1)-ai v3 (m:Int)=R-aE v3 m by omega,show(m:Int)+1=((m+1:Nat):Int) by omega]
   exact this
theorem Oa (O0 O1 O2 v0 v3 v4:Int) (hg:(v4==1&&(decide (1≤v3)&&(decide (v3≤9999)&&(decide (1≤v0)&&decide (v0≤eR v3)))))=true):∃N d,GO N d N (Ea O0 O1 O2 v0 v3 v4)=some (a7 Prod.mk [] (.exit 2) (x7 O0 O1 O2 (v0-aE v3 (IC v3 v0-1)) v3 ((IC v3 v0:Nat):Int))):=by
 simp only[XR,beq_iff_eq,XT]at hg
 obtain⟨rfl,h1,h2,h3,h4⟩:=hg
 have:=Tg O0 O1 O2 v0 v3 1 200 0 v0 h1 h2 h3 h4 11 1 200 (by omega) (by omega) (by simp only[Nat.sub_self,aE];omega) (by omega)
 rw[show v0-aE v3 (1-1)=v0 by simp only[Nat.sub_self,aE];omega]at this
 exact⟨200,3,this⟩
theorem yB (a0:Int) (hg:dt a0=true):∃F d,run Pm F d 44 Tryz.f44 kp (a0,())=some (kg.enc (rOf a0)):=by
 refine⟨200,6,?_⟩
 rw[wA]
 have h':=c8.1 hg
 obtain⟨y1,y2,l1,l2,e1,e2⟩:=nn h'.1 h'.2
 have hl:=j0 y1
 rw[hg,show decide (1≤yrG a0)=true by simpa using y1,show decide (yrG a0≤9999)=true by simpa using y2,show decide (1≤a0-aF (yrG a0))=true by simp;omega,show decide (a0-aF (yrG a0)≤eR (yrG a0))=true by simp;omega]
 simp only[Bool.and_self,XU]
 have hn:(decide (a0<1)||decide (a0>3652059))=false:=by simp;omega
 have hm:IC (yrG a0) (a0-aF (yrG a0))=oG a0:=by
  unfold IC oG
  rw[show a0-aF (yrG a0)-1=lfG a0 by omega]
 simp only[kg,rOf,ofG,hn,XV]
 rw[hm,show a0-aF (yrG a0)-aE (yrG a0) (oG a0-1)=lfG a0-aE (yrG a0) (oG a0-1)+1 by omega]
 rfl
def c9 (o i:Int):Int:=(i+6-o)/7
def qB (f o i:Int):Int:=if c9 o i=0 then 0 else f+o+7*(c9 o i-1)
theorem GD {f w o i:Int} (ho:o=(w-f%7)%7) (hw:0≤w∧w≤6) (hi:0≤i) (h:(f+i)%7=w):c9 o (i+1)=c9 o i+1∧qB f o (i+1)=f+i∧0≤c9 o i∧i=o+7*c9 o i:=by
 have h0:0≤o∧o≤6:=by omega
 have h1:(i-o)%7=0:=by omega
 have h2:o≤i:=by omega
 have e:c9 o (i+1)=c9 o i+1:=by unfold c9;omega
 refine⟨e,?_,?_,?_⟩
 ·unfold qB
  rw[e]
  unfold c9
  split<;>omega
 ·unfold c9;omega
 ·unfold c9;omega
theorem JH {f w o i:Int} (ho:o=(w-f%7)%7) (hw:0≤w∧w≤6) (hi:0≤i) (h:(f+i)%7≠w):c9 o (i+1)=c9 o i∧qB f o (i+1)=qB f o i:=by
 have h0:0≤o∧o≤6:=by omega
 have h1:(i-o)%7≠0:=by omega
 have e:c9 o (i+1)=c9 o i:=by unfold c9;omega
 exact⟨e,by unfold qB;rw[e]⟩
theorem Jl {w k:Int} (h:dO w k=false):(0≤w∧w≤6)∧(k= -1∨(1≤k∧k≤5)):=by
 simp only[dO,Bool.or_eq_false_iff,Bool.and_eq_false_iff,decide_eq_false_iff_not,bne_eq_false_iff_eq]at h
 obtain⟨⟨w0,w1⟩,hk⟩:=h
 refine⟨by omega,?_⟩
 rcases hk with h|⟨h1,h2⟩
 ·exact .inl h
 ·exact .inr (by omega)
theorem uq (a0:Int):∃F d,run QO F d 43 Tryz.f43 gY (a0,())=some (mQ.enc (IV a0)):=by
 refine⟨200,6,?_⟩
 rw[sC]
 unfold IV inB
 cases h:decide (a0≥576000)
 ·rfl
 ·rfl
theorem qD (a0:Config) (a1:Int) (hg:iP a0 a1=true):∃F d,run OJ F d 21 Tryz.f21 fH (a0,a1,())=some (kW.enc (fX a0 a1)):=by
 refine⟨200,6,?_⟩
 rw[pY]
 have hc:af a0=0:=by simpa only[iP,beq_iff_eq]using hg
 obtain⟨z1,_⟩:=bR (cW hc).1
 unfold fX IV
 cases hb:inB a1 576000 5258879999 with
 |false=>rfl
 |true=>
  have h1:=bG.1 hb
  rw[wrI (n:=a1+a0.aK.base) (by omega)]
  rw[show bD (a1+a0.aK.base) 1440=true by simp only[bD,big,byB,XR,XT];omega]
  have hd:dt ((a1+a0.aK.base)/1440)=true:=c8.2 (by omega)
  have he:=(BK hd).2.2.1
  unfold qC rOf
  rw[hd,he]
  simp only[Bool.not_true,XV,Bool.and_self,XU,Bool.true_and,beq_self_eq_true]
  cases h2:decide (1900≤(ofG ((a1+a0.aK.base)/1440)).1.year)<;>simp only[ge_iff_le,h2,XU,XV,Bool.true_and,Bool.false_and]<;>rfl
end Go.Proofs.YtfhepbbkggdlcaaGreatDoor.Px.PxT


namespace Go.Proofs.YtfhepbbkggdlcaaGreatDoor.Px.PxT
open Go Go.Proofs
theorem wO (a0:Int) (a1:Int) (hg:bD a0 a1=true):∃F d,run QK F d 113 Tryz.f113 jg (a0,a1,())=some (oh.enc (Lb a0 a1)):=by
 refine⟨200,6,?_⟩
 rw[uV]
 simp only[bD,byB,big,XR,XT]at hg
 have e2:(a1 != 0)=true:=by rw[bne_iff_ne];omega
 obtain⟨d1,d2,d3,d4⟩:=yI (a:=a0) (b:=a1) (by omega)
 simp only[e2,XU]
 by_cases h:a0.tmod a1<0
 ·rw[decide_eq_true h,XU,wrI (by omega),←(d1 h).2]
  rfl
 ·rw[decide_eq_false h,XV,←(d2 (by omega)).2]
  rfl
theorem SP (O0 O1 O2 v3 v4:Int) (F d:Nat) (D:Int) (h1:1≤O0) (h2:O0≤10000) (hD: -100000≤D∧D≤100000):∀(m:Nat) (y:Int) (n:Nat),1≤y→y+m=O0→m<n→
  FW F (d+3) n (Ef O0 O1 O2 (D+aF y) y)=some (.exit 0,(yo O0 O1 O2 (D+aF O0))):=by
 intro m
 induction m with
 |zero=>
  intro y n hy hm hn
  obtain⟨n,rfl⟩:∃k,n=k+1:=⟨n-1,by omega⟩
  have:y=O0:=by omega
  subst this
  rw[EV,show decide (y<y)=false by simp,XV]
 |succ m ih=>
  intro y n hy hm hn
  obtain⟨n,rfl⟩:∃k,n=k+1:=⟨n-1,by omega⟩
  have hl:=j0 hy
  have hb:=cV (y:=y) (by omega) (by omega)
  have hb':=cV (y:=y+1) (by omega) (by omega)
  rw[EV,show decide (y<O0)=true by simp;omega,XU,wrI (n:=D+aF y+eR y) (by omega),wrI (n:=y+1) (by omega),show D+aF y+eR y=D+aF (y+1) by omega]
  exact ih (y+1) n (by omega) (by omega) (by omega)
theorem Oz (O0 O1 O2 v3 v4:Int) (hg:(v4==1&&(lit v3&&qx O0))=true):∃N d,FW N d N (Ef O0 O1 O2 v3 v4)=some (a7 Prod.mk [] (.exit 0) (yo O0 O1 O2 (v3+aF O0))):=by
 simp only[lit,qx,XR,beq_iff_eq,XT]at hg
 obtain⟨rfl,hD,h1,h2⟩:=hg
 have:=SP O0 O1 O2 v3 1 20000 0 v3 h1 h2 hD (O0-1).toNat 1 20000 (by omega) (by omega) (by omega)
 rw[show v3+aF 1=v3 by rw[show aF 1=0 from rfl];omega]at this
 exact⟨20000,3,this⟩
theorem Td (O0 O1 O2 v3 v5:Int) (F d:Nat) (D:Int) (h1:1≤O1) (h2:O1≤12) (hD: -1000000000000≤D∧D≤1000000000000):∀(k m:Nat) (n:Nat),1≤m→(m:Int)+k=O1→k<n→
  HV F (d+3) n (DB O0 O1 O2 (D+aE O0 (m-1)) ((m:Nat):Int))=some (.exit 2,(xz O0 O1 O2 (D+aE O0 (O1-1).toNat))):=by
 intro k
 induction k with
 |zero=>
  intro m n hm hk hn
  obtain⟨n,rfl⟩:∃k,n=k+1:=⟨n-1,by omega⟩
  rw[Fi,show decide ((m:Int)<O1)=false by simp;omega,XV,show(O1-1).toNat=m-1 by omega]
 |succ k ih=>
  intro m n hm hk hn
  obtain⟨n,rfl⟩:∃k,n=k+1:=⟨n-1,by omega⟩
  have e:aE O0 m=aE O0 (m-1)+ai O0 (m:Int):=by
   obtain⟨j,rfl⟩:∃j,m=j+1:=⟨m-1,by omega⟩
   simp only[aE,Nat.add_sub_cancel]
   rfl
  have hr:=dQ O0 m
  rw[Fi,show decide ((m:Int)<O1)=true by simp;omega,XU,wrI (n:=D+aE O0 (m-1)+ai O0 (m:Int)) (by omega),wrI (n:=(m:Int)+1) (by omega)]
  have:=ih (m+1) n (by omega) (by omega) (by omega)
  rw[Nat.add_sub_cancel]at this
  rw[show D+aE O0 (m-1)+ai O0 (m:Int)=D+aE O0 m by omega,show(m:Int)+1=((m+1:Nat):Int) by omega]
  exact this
theorem Nb (O0 O1 O2 v3 v5:Int) (hg:(v5==1&&(big v3&&(decide (1≤O1)&&decide (O1≤12))))=true):∃N d,HV N d N (DB O0 O1 O2 v3 v5)=some (a7 Prod.mk [] (.exit 2) (xz O0 O1 O2 (v3+aE O0 (O1-1).toNat))):=by
 simp only[big,XR,beq_iff_eq,XT]at hg
 obtain⟨rfl,hD,h1,h2⟩:=hg
 have:=Td O0 O1 O2 v3 1 200 0 v3 h1 h2 hD (O1-1).toNat 1 200 (by omega) (by omega) (by omega)
 rw[show v3+aE O0 (1-1)=v3 by simp only[Nat.sub_self,aE];omega]at this
 exact⟨200,3,this⟩
theorem vL (a0:Date) (hg:z7 a0=true):∃F d,run OL F d 127 Tryz.f127 jC (a0,())=some (ov.enc (J7 a0)):=by
 refine⟨200,6,?_⟩
 rw[uO]
 simp only[z7,bm,XR,XT]at hg
 obtain⟨⟨y1,y2,m1,m2⟩,hl⟩:=hg
 have hb:=cV (y:=a0.year) (by omega) (by omega)
 have hl':=hl
 simp only[lit,XR,XT]at hl'
 rw[hl,show qx a0.year=true by simp only[qx,XR,XT];omega,show big (a0.day+aF a0.year)=true by simp only[big,XR,XT];omega,show decide (1≤a0.month)=true by simpa using m1,show decide (a0.month≤12)=true by simpa using m2]
 rfl
theorem pk (a0:Int) (hg:cS a0=true):∃F d,run QQ F d 99 Tryz.f99 eM (a0,())=some (j6.enc (av a0)):=by
 refine⟨200,6,?_⟩
 rw[oa]
 have h':=hg
 simp only[cS,mid,XR,XT]at h'
 rw[show bD a0 7=true by simp only[bD,big,byB,XR,XT];omega]
 rfl
theorem Qb (v0 v1 v2 v3 v10 v11 v12 v13:Int) (F d:Nat) (hm:bm v0 v1=true) (hf:v10=aN v0 v1) (hw:0≤v2∧v2≤6) (o:Int) (ho:o=(v2-v10%7)%7) (hk:v3= -1∨v3>c9 o (ai v0 v1)):∀(m:Nat) (i:Int) (n:Nat),0≤i→i+m=ai v0 v1→m<n→
  za F (d+3) n (vQ v0 v1 v2 v3 v10 (c9 o i) (qB v10 o i) i)=some (.exit 0,(xB v3 (qB v10 o (ai v0 v1)))):=by
 have hd:=jj hm
 have hr:=rX hm
 intro m
 induction m with
 |zero=>
  intro i n hi hm' hn
  obtain⟨n,rfl⟩:∃k,n=k+1:=⟨n-1,by omega⟩
  have:i=ai v0 v1:=by omega
  subst this
  rw[th,show decide (ai v0 v1<ai v0 v1)=false by simp,XV]
 |succ m ih=>
  intro i n hi hm' hn
  obtain⟨n,rfl⟩:∃k,n=k+1:=⟨n-1,by omega⟩
  have hq:0≤o∧o≤6:=by omega
  have hmi:0≤c9 o i∧c9 o i≤5∧c9 o i≤c9 o (ai v0 v1):=by unfold c9;omega
  have hl:=ih (i+1) n (by omega) (by omega) (by omega)
  rw[th,show decide (i<ai v0 v1)=true by simp;omega,XU,wrI (n:=v10+i) (by omega),wrI (n:=i+1) (by omega),wrI (n:=c9 o i+1) (by omega)]
  rw[show cS (v10+i)=true by simp only[cS,mid,XR,XT];omega,Bool.and_self,XU]
  by_cases hc:(v10+i)%7=v2
  ·obtain⟨e1,e2,e3,e4⟩:=GD ho hw hi hc
   rw[e1,e2]at hl
   have hmo:c9 o (i+1)≤c9 o (ai v0 v1):=by unfold c9;omega
   rw[show(av (v10+i) != v2)=false by simp[av,hc],XV,show(c9 o i+1==v3)=false by rw[beq_eq_false_iff_ne];omega,XV]
   exact hl
  ·obtain⟨e1,e2⟩:=JH ho hw hi hc
   rw[e1,e2]at hl
   rw[show(av (v10+i) != v2)=true by simp[av,hc],XU]
   exact hl
theorem Pq (v0 v1 v2 v3 v10 v11 v12 v13:Int) (F d:Nat) (hm:bm v0 v1=true) (hf:v10=aN v0 v1) (hw:0≤v2∧v2≤6) (o:Int) (ho:o=(v2-v10%7)%7) (hk:1≤v3∧v3≤c9 o (ai v0 v1)):∀(m:Nat) (i:Int) (n:Nat),0≤i→i+m=o+7*(v3-1)→m<n→
  za F (d+3) n (vQ v0 v1 v2 v3 v10 (c9 o i) (qB v10 o i) i)=some (.ret,(xy v3 v10 (o+7*(v3-1)))):=by
 have hd:=jj hm
 have hr:=rX hm
 have hq:0≤o∧o≤6:=by omega
 have hlt:o+7*(v3-1)<ai v0 v1:=by have:=hk.2;unfold c9 at this;omega
 intro m
 induction m with
 |zero=>
  intro i n hi hm' hn
  obtain⟨n,rfl⟩:∃k,n=k+1:=⟨n-1,by omega⟩
  have:i=o+7*(v3-1):=by omega
  subst this
  have hc:(v10+(o+7*(v3-1)))%7=v2:=by omega
  obtain⟨e1,e2,e3,e4⟩:=GD ho hw hi hc
  rw[th,show decide (o+7*(v3-1)<ai v0 v1)=true by simp;omega,XU,wrI (n:=v10+(o+7*(v3-1))) (by omega),wrI (n:=c9 o (o+7*(v3-1))+1) (by omega)]
  rw[show cS (v10+(o+7*(v3-1)))=true by simp only[cS,mid,XR,XT];omega,Bool.and_self,XU]
  rw[show(av (v10+(o+7*(v3-1))) != v2)=false by simp[av,hc],XV,show(c9 o (o+7*(v3-1))+1==v3)=true by rw[beq_iff_eq];omega,XU]
 |succ m ih=>
  intro i n hi hm' hn
  obtain⟨n,rfl⟩:∃k,n=k+1:=⟨n-1,by omega⟩
  have hmi:0≤c9 o i∧c9 o i≤5∧c9 o i<v3:=by unfold c9;omega
  have hl:=ih (i+1) n (by omega) (by omega) (by omega)
  rw[th,show decide (i<ai v0 v1)=true by simp;omega,XU,wrI (n:=v10+i) (by omega),wrI (n:=i+1) (by omega),wrI (n:=c9 o i+1) (by omega)]
  rw[show cS (v10+i)=true by simp only[cS,mid,XR,XT];omega,Bool.and_self,XU]
  by_cases hc:(v10+i)%7=v2
  ·obtain⟨e1,e2,e3,e4⟩:=GD ho hw hi hc
   rw[e1,e2]at hl
   rw[show(av (v10+i) != v2)=false by simp[av,hc],XV,show(c9 o i+1==v3)=false by rw[beq_eq_false_iff_ne];omega,XV]
   exact hl
  ·obtain⟨e1,e2⟩:=JH ho hw hi hc
   rw[e1,e2]at hl
   rw[show(av (v10+i) != v2)=true by simp[av,hc],XU]
   exact hl
theorem NY (v0 v1 v2 v3 v10 v11 v12 v13:Int) (hg:(v10==aN v0 v1&&(bm v0 v1&&(!dO v2 v3&&(v11==0&&(v12==0&&v13==0)))))=true):∃N d,za N d N (vQ v0 v1 v2 v3 v10 v11 v12 v13)=some (a7 Prod.mk [(GR v3 (n6 v0 v1 v2), .exit 0,(xB v3 (cz v0 v1 v2+7*(n6 v0 v1 v2-1))))] (.ret) (xy v3 v10 (cz v0 v1 v2+7*(v3-1)-v10))):=by
 simp only[XR,beq_iff_eq,Bool.not_eq_true']at hg
 obtain⟨rfl,hm,hb,rfl,rfl,rfl⟩:=hg
 obtain⟨hw,hk⟩:=Jl hb
 have hd:=jj hm
 let o:Int:=(v2-aN v0 v1%7)%7
 have ho:o=(v2-aN v0 v1%7)%7:=rfl
 have hq:0≤o∧o≤6:=by omega
 have h0:c9 o 0=0:=by unfold c9;omega
 have hl0:qB (aN v0 v1) o 0=0:=by unfold qB;rw[if_pos h0]
 have hfr:cz v0 v1 v2=aN v0 v1+o:=rfl
 have hcn:n6 v0 v1 v2=c9 o (ai v0 v1):=by unfold n6 c9;rw[hfr];omega
 have hme:4≤c9 o (ai v0 v1):=by unfold c9;omega
 refine⟨200,3,?_⟩
 cases he:GR v3 (n6 v0 v1 v2)with
 |true=>
  have hk':v3= -1∨v3>c9 o (ai v0 v1):=by
   rw[hcn]at he
   simpa[GR]using he
  have:=Qb v0 v1 v2 v3 (aN v0 v1) 0 0 0 200 0 hm rfl hw o ho hk' (ai v0 v1).toNat 0 200 (by omega) (by omega) (by omega)
  rw[h0,hl0]at this
  rw[this]
  have hle:qB (aN v0 v1) o (ai v0 v1)=cz v0 v1 v2+7*(n6 v0 v1 v2-1):=by unfold qB;rw[if_neg (by omega),hcn,hfr]
  simp[a7,hle]
 |false=>
  have hk':1≤v3∧v3≤c9 o (ai v0 v1):=by
   rw[hcn]at he
   simp[GR]at he
   omega
  have:=Pq v0 v1 v2 v3 (aN v0 v1) 0 0 0 200 0 hm rfl hw o ho hk' (o+7*(v3-1)).toNat 0 200 (by omega) (by omega) (by omega)
  rw[h0,hl0]at this
  rw[this]
  simp[a7,hfr,show aN v0 v1+o+7*(v3-1)-aN v0 v1=o+7*(v3-1) by omega]
theorem wT (a0:Int) (a1:Int) (a2:Int) (a3:Int):∃F d,run RR F d 118 Tryz.f118 ji (a0,a1,a2,a3,())=some (oA.enc (kE a0 a1 a2 a3)):=by
 refine⟨200,6,?_⟩
 rw[uK]
 unfold kE
 cases hd:ai a0 a1==0 with
 |true=>rfl
 |false=>
  have hd0:ai a0 a1≠0:=by simpa using hd
  obtain⟨y1,y2,m1,m2⟩:=(dm a0 a1).2.2 hd0
  have hm:bm a0 a1=true:=by simp only[bm,XR,XT];omega
  rw[XV,XV]
  rw[show(bif bif decide (a2<0)then true else decide (a2>6)then true else bif a3 != -1 then bif decide (a3<1)then true else decide (a3>5)else false)=dO a2 a3 by
   unfold dO
   cases decide (a2<0)<;>cases decide (a2>6)<;>cases (a3 != -1)<;>cases decide (a3<1)<;>rfl]
  cases hb:dO a2 a3 with
  |true=>rfl
  |false=>
   obtain⟨hw,hk⟩:=Jl hb
   have hdm:=jj hm
   have hr:=rX hm
   have hf:J7 {year:=a0,month:=a1,day:=1}=aN a0 a1:=by unfold J7 aN;simp only;omega
   have hfr:aN a0 a1≤cz a0 a1 a2∧cz a0 a1 a2≤aN a0 a1+6:=by unfold cz;omega
   rw[hf,show z7 {year:=a0,month:=a1,day:=1}=true by simp only[z7,hm,lit,Bool.true_and];rfl,hm]
   simp only[beq_self_eq_true,Bool.not_false,Bool.and_self,XU,XV]
   have hc:(aN a0 a1+ai a0 a1-1-cz a0 a1 a2)/7=n6 a0 a1 a2-1:=by unfold n6;omega
   rcases hk with rfl|hk
   ·rw[show GR (-1) (n6 a0 a1 a2)=true from rfl,XU,show((-1:Int)== -1)=true from rfl,XU,XU,hc,show 7*(n6 a0 a1 a2-1)=(n6 a0 a1 a2-1)*7 by omega]
    rfl
   ·rw[show(a3== -1)=false by rw[beq_eq_false_iff_ne];omega]
    simp only[XV]
    have hcc:decide (cz a0 a1 a2+7*(a3-1)≥aN a0 a1+ai a0 a1)=decide (a3>n6 a0 a1 a2):=by
     rw[Bool.eq_iff_iff,XT,XT];unfold n6;omega
    rw[show GR a3 (n6 a0 a1 a2)=decide (a3>n6 a0 a1 a2) by unfold GR;rw[show(a3== -1)=false by rw[beq_eq_false_iff_ne];omega,Bool.false_or],hcc]
    cases decide (a3>n6 a0 a1 a2)with
    |true=>rfl
    |false=>
     rw[XV,XV,show aN a0 a1+(cz a0 a1 a2+7*(a3-1)-aN a0 a1)=cz a0 a1 a2+7*(a3-1) by omega,wrI (by omega)]
     rfl
theorem u0 (a0:bc) (a1:nU) (a2:Int) (hg:er a0 a1 a2=true):∃F d,run QY F d 104 Tryz.f104 iK (a0,a1,a2,())=some (hP.enc (bW a0 a1 a2)):=by
 refine⟨200,6,?_⟩
 rw[td]
 simp only[er,lit,XR,XT]at hg
 simp only[hP,Res.int,bW]
 have w:∀k,IntKind.wrap IntKind.i64 (IntKind.wrap IntKind.i64 (IntKind.wrap IntKind.i64 ((kE a2 a1.month a1.weekday k).1*1440)+a1.minute)-a0.base)=(kE a2 a1.month a1.weekday k).1*1440+a1.minute-a0.base:=fun k=>by
  have:=Fm a2 a1.month a1.weekday k
  rw[wrI (n:=(kE a2 a1.month a1.weekday k).1*1440) (by omega),wrI (n:=(kE a2 a1.month a1.weekday k).1*1440+a1.minute) (by omega),wrI (by omega)]
 rw[w,w]
 cases a1.ck==5<;>rfl
theorem qH (a0:bc) (a1:Int) (hg:dq a0 a1=true):∃F d,run Rp F d 80 Tryz.f80 ft (a0,a1,())=some (fF.enc (mA a0 a1)):=by
 refine⟨200,6,?_⟩
 rw[qi]
 simp only[dq,dj,iI,XR]at hg
 obtain⟨⟨⟨b1,b2,b3⟩,b4⟩,b5,b6⟩:=hg
 have b1':=b1
 simp only[lit,mid,XR,XT]at b1' b4
 simp only[fF,Res.bool,mA]
 cases h0:a0.shift==0 with
 |true=>rfl
 |false=>
  have w:IntKind.wrap IntKind.i64 (a1+a0.base)=a1+a0.base:=wrI (by omega)
  have ho:bD (a1+a0.base) 1440=true:=by simp only[bD,byB,big,XR,XT];omega
  have k1:∀y,er a0 a0.on y=true:=fun y=>by simp only[er,b1,b2,Bool.and_self]
  have k2:∀y,er a0 a0.off y=true:=fun y=>by simp only[er,b1,b3,Bool.and_self]
  have hdv:qC (a1+a0.base) 1440=(a1+a0.base)/1440:=rfl
  have hy:(rOf ((a1+a0.base)/1440)).year=cK a0 a1:=rfl
  simp only[w,ho,hdv,b6,k1,k2,hy,Bool.and_self,Bool.true_and,XU,XV,ge_iff_le]
  cases decide (bW a0 a0.on (cK a0 a1)<bW a0 a0.off (cK a0 a1))<;>cases decide (bW a0 a0.on (cK a0 a1)≤a1)<;>cases decide (bW a0 a0.off (cK a0 a1)≤a1)<;>rfl
theorem uA (a0:bc) (a1:Int) (hg:dq a0 a1=true):∃F d,run P5 F d 41 Tryz.f41 iE (a0,a1,())=some (ig.enc (kP a0 a1)):=by
 refine⟨200,6,?_⟩
 rw[rF]
 have hg':=hg
 simp only[dq,dj,iI,lit,mid,XR,XT]at hg'
 rw[hg]
 simp only[ig,Res.int,kP,Bool.and_self,XU]
 rw[wrI (n:=a1+a0.base) (by omega),wrI (n:=a1+a0.base+a0.shift) (by omega)]
 cases mA a0 a1<;>rfl
theorem oH (a0:bc) (a1:Int) (a2:Int) (hg:ll a0 a1 a2=true):∃F d,kd RG F d 77 Tryz.f77 ee ek (a0,a1,a2,())=some (kN a0 a1 a2):=by
 refine⟨200,6,?_⟩
 rw[nR]
 simp only[ll,XR,XT]at hg
 obtain⟨p3,p1,p1',p2,p2',g1,g2,g3,g4⟩:=hg
 unfold kN
 have w1:IntKind.wrap IntKind.i64 (a1*1440)=a1*1440:=wrI (by omega)
 have w2:IntKind.wrap IntKind.i64 (a1*1440+a2)=a1*1440+a2:=wrI (by omega)
 have w3:IntKind.wrap IntKind.i64 (a1*1440+a2-a0.base)=a1*1440+a2-a0.base:=wrI (by omega)
 have w4:IntKind.wrap IntKind.i64 (a1*1440+a2-a0.base-a0.shift)=a1*1440+a2-a0.base-a0.shift:=wrI (by omega)
 have hs:lit a0.shift=true:=by simp only[lit,XR,XT];omega
 have o1:dq a0 (a1*1440+a2-a0.base)=true:=by
  simp only[dq,dj,p3,hs,mid,Bool.true_and,XR,XT,dt];omega
 have o2:dq a0 (a1*1440+a2-a0.base-a0.shift)=true:=by
  simp only[dq,dj,p3,hs,mid,Bool.true_and,XR,XT,dt];omega
 simp only[w1,w2,w3,w4,o1,o2,Bool.and_self,Bool.true_and,Bool.true_or,XU]
 rw[show(bif decide (a0.shift>0)then kP a0 (a1*1440+a2-a0.base-a0.shift)==a1*1440+a2 else false)=(decide (a0.shift>0)&&(kP a0 (a1*1440+a2-a0.base-a0.shift)==a1*1440+a2)) by cases decide (a0.shift>0)<;>rfl]
 cases (decide (a0.shift>0)&&(kP a0 (a1*1440+a2-a0.base-a0.shift)==a1*1440+a2))<;>cases kP a0 (a1*1440+a2-a0.base)==a1*1440+a2<;>rfl
theorem T9 (l2:List (Int)) (O0 O1 O2 O3 O4 O5 O6 O7 O8 O9 v7:Int) (F d:Nat) (z:bc) (hz:z=(⟨O0,O1,⟨O2,O3,O4,O5⟩,⟨O6,O7,O8,O9⟩⟩:bc)) (hc:ao z=0):∀(k:Nat) (t:Int) (n:Nat),578880≤t→t+k≤5258868000→bY (dG z) k t=true→k<n→
  Ae F (d+3) n (wq (dG z t) O0 O1 O2 O3 O4 O5 O6 O7 O8 O9 t)=some (.exit 0,(ri (dG z (br (dG z) k t)) O0 O1 O2 O3 O4 O5 O6 O7 O8 O9)):=by
 obtain⟨z1,z2,z3,_⟩:=bR hc
 have step:∀(t:Int) (n:Nat),578880≤t→t≤5258868000→Ae F (d+3) (n+1) (wq (dG z t) O0 O1 O2 O3 O4 O5 O6 O7 O8 O9 t)=cond (dG z t).isEmpty (Ae F (d+3) n (wq (dG z (t+1)) O0 O1 O2 O3 O4 O5 O6 O7 O8 O9 (t+1))) (some (.exit 0,(ri (dG z t) O0 O1 O2 O3 O4 O5 O6 O7 O8 O9))):=by
  intro t n h0 h1
  have hl:=Gq (dG z t)
  rw[NJ,hl.2.2.2,wrI (n:=t+1) (by omega)]
  have d3:=xH (t:=t+1) (by omega)
  cases (dG z t).isEmpty with
  |false=>rfl
  |true=>
   rw[XU,XU]
   have e1:IntKind.wrap IntKind.i64 (Int.tdiv (t+1) 1440)=(t+1)/1440:=by
    rw[Int.tdiv_eq_ediv_of_nonneg (by omega)];exact wrI (by omega)
   have e2:Int.tmod (t+1) 1440=(t+1)%1440:=Int.tmod_eq_emod_of_nonneg (by omega)
   rw[e1,e2,←hz]
   rw[show ll z ((t+1)/1440) ((t+1)%1440)=true by simp only[ll,z3,Bool.true_and,XR,XT];omega]
   rw[show Nat.beq (kN z ((t+1)/1440) ((t+1)%1440)).length (kN z ((t+1)/1440) ((t+1)%1440)).length=true by simp]
   rfl
 intro k
 induction k with
 |zero=>
  intro t n h0 h1 hr hn
  obtain⟨n,rfl⟩:∃k,n=k+1:=⟨n-1,by omega⟩
  rw[step t n h0 (by omega)]
  simp only[bY,Bool.not_eq_true']at hr
  rw[hr]
  rfl
 |succ k ih=>
  intro t n h0 h1 hr hn
  obtain⟨n,rfl⟩:∃k,n=k+1:=⟨n-1,by omega⟩
  rw[step t n h0 (by omega)]
  simp only[bY,Bool.or_eq_true,Bool.not_eq_true']at hr
  simp only[br]
  cases he:(dG z t).isEmpty with
  |false=>rfl
  |true=>
   rw[he]at hr
   rw[XU,XU]
   refine ih (t+1) n (by omega) (by omega) ?_ (by omega)
   rcases hr with h|h
   ·cases h
   ·exact h
theorem Oy (l2:List (Int)) (O0 O1 O2 O3 O4 O5 O6 O7 O8 O9 v7:Int) (hg:(ao (⟨O0,O1,⟨O2,O3,O4,O5⟩,⟨O6,O7,O8,O9⟩⟩:bc)==0&&(fJ v7&&(JT l2 (dG (⟨O0,O1,⟨O2,O3,O4,O5⟩,⟨O6,O7,O8,O9⟩⟩:bc) v7)&&bY (dG (⟨O0,O1,⟨O2,O3,O4,O5⟩,⟨O6,O7,O8,O9⟩⟩:bc)) 200 v7)))=true):∃N d,Ae N d N (wq l2 O0 O1 O2 O3 O4 O5 O6 O7 O8 O9 v7)=some (a7 Prod.mk [] (.exit 0) (ri (dG (⟨O0,O1,⟨O2,O3,O4,O5⟩,⟨O6,O7,O8,O9⟩⟩:bc) (br (dG (⟨O0,O1,⟨O2,O3,O4,O5⟩,⟨O6,O7,O8,O9⟩⟩:bc)) 200 v7)) O0 O1 O2 O3 O4 O5 O6 O7 O8 O9)):=by
 simp only[XR,beq_iff_eq,JT,XT]at hg
 obtain⟨h1,h2,rfl,h3⟩:=hg
 simp only[fJ,XR,XT]at h2
 exact⟨300,3,T9 (dG (⟨O0,O1,⟨O2,O3,O4,O5⟩,⟨O6,O7,O8,O9⟩⟩:bc) v7) O0 O1 O2 O3 O4 O5 O6 O7 O8 O9 v7 300 0 _ rfl h1 200 v7 300 (by omega) (by omega) h3 (by omega)⟩
theorem qW (a0:bc) (a1:Int) (a2:Int) (hg:kH a0 a1 a2=true):∃F d,run Ra F d 39 Tryz.f39 fq (a0,a1,a2,())=some (kS.enc (oJ a0 a1 a2)):=by
 refine⟨200,6,?_⟩
 rw[oQ]
 simp only[kH,XR,beq_iff_eq]at hg
 obtain⟨hz,hm⟩:=hg
 obtain⟨z1,z2,z3,_⟩:=bR hz
 have ht:=B0 hm
 obtain⟨hr,_,_⟩:=Qx hz ht
 have hf:=sd hr
 have ht':=ht
 simp only[fJ,XR,XT]at ht'
 have hm':0≤a2∧a2<1440:=by
  simp only[gW,XR,XT]at hm
  exact hm.2
 rw[wrI (n:=a1*1440) (by omega),wrI (n:=a1*1440+a2) (by omega)]
 obtain⟨d1,d2⟩:=xH (t:=a1*1440+a2) (by omega) (by omega)
 rw[d1,d2]
 have hl:=Gq (dG a0 (br (dG a0) 200 (a1*1440+a2)))
 rw[show ll a0 ((a1*1440+a2)/1440) ((a1*1440+a2)%1440)=true by simp only[ll,z3,Bool.true_and,XR,XT];omega]
 rw[show kN a0 ((a1*1440+a2)/1440) ((a1*1440+a2)%1440)=dG a0 (a1*1440+a2) from rfl,hz,ht,hr,hl.2.1,hl.2.2.1,hf]
 simp only[JT,decide_true,beq_self_eq_true,Bool.and_self,Bool.not_false,XU]
 rw[show Nat.beq (dG a0 (a1*1440+a2)).length (dG a0 (a1*1440+a2)).length=true by simp]
 rfl
theorem u9 (a0:Int) (hg:cS a0=true):∃F d,run OO F d 143 Tryz.f143 iS (a0,())=some (mX.enc (dd a0)):=by
 refine⟨200,6,?_⟩
 rw[rD]
 have h':=(cO a0).1 hg
 unfold Lb
 rw[show bD a0 19=true by simp only[bD,big,byB,XR,XT];omega]
 rw[wrI (n:=7*(a0%19)) (by omega),wrI (n:=7*(a0%19)+1) (by omega)]
 rw[show bD (7*(a0%19)+1) 19=true by simp only[bD,big,byB,XR,XT];omega]
 rfl
theorem wS (a0:Int):∃F d,run PL F d 142 Tryz.f142 jx (a0,())=some (n5.enc (fM a0)):=by
 refine⟨200,6,?_⟩
 rw[u5]
 have e:(bif decide (a0≥3762)then decide (a0≤9999)else false)=fM a0:=by
  unfold fM inB
  cases decide (a0≥3762)<;>rfl
 rw[e]
 rfl
theorem Jb {y:Int} (h:1≤y):bg (y+1)=cond (dd y) (bg y+1+12) (bg y+12):=by
 unfold bg dd
 obtain⟨q,r,hy,hr⟩:∃q r:Int,y=19*q+r∧(r=0∨r=1∨r=2∨r=3∨r=4∨r=5∨r=6∨r=7∨r=8∨r=9∨r=10∨r=11∨r=12∨r=13∨r=14∨r=15∨r=16∨r=17∨r=18):=⟨y/19,y%19,by omega,by omega⟩
 have hm:y%19=r:=by omega
 rw[hm]
 subst hy
 rcases hr with rfl|rfl|rfl|rfl|rfl|rfl|rfl|rfl|rfl|rfl|rfl|rfl|rfl|rfl|rfl|rfl|rfl|rfl|rfl<;>simp only[Int.reduceMul,Int.reduceAdd,Int.reduceMod,Int.reduceLT,decide_true,decide_false,XU,XV]<;>omega
theorem TP (v0 v4 v5:Int) (F d:Nat) (h0:v0≤100000):∀(k:Nat) (y:Int) (n:Nat),(v0-y).toNat=k→1≤y→y≤v0→k<n→
  Dz F (d+3) n (zh v0 (bg y) y)=some (.exit 0,(yf (bg v0))):=by
 intro k
 induction k with
 |zero=>
  intro y n hk h1 h2 hn
  obtain⟨n,rfl⟩:∃k,n=k+1:=⟨n-1,by omega⟩
  have:y=v0:=by omega
  subst this
  rw[FA,decide_eq_false (by omega:¬y<y)]
  rfl
 |succ k ih=>
  intro y n hk h1 h2 hn
  obtain⟨n,rfl⟩:∃k,n=k+1:=⟨n-1,by omega⟩
  have hr:=lr h1 (by omega:y≤100000)
  have hs:=Jb h1
  rw[FA,decide_eq_true (by omega:y<v0),show cS y=true from(cO _).2 (by omega)]
  rw[wrI (n:=bg y+1) (by omega),wrI (n:=bg y+1+12) (by omega),wrI (n:=bg y+12) (by omega),wrI (n:=y+1) (by omega)]
  have:=ih (y+1) n (by omega) (by omega) (by omega) (by omega)
  rw[hs]at this
  cases hl:dd y with
  |true=>rw[hl]at this;exact this
  |false=>rw[hl]at this;exact this
theorem N1 (v0 v4 v5:Int) (hg:(bO v0&&(decide (1≤v5)&&(decide (v5≤v0)&&(decide (v0-v5≤20)&&v4==bg v5))))=true):∃N d,Dz N d N (zh v0 v4 v5)=some (a7 Prod.mk [] (.exit 0) (yf (bg v0))):=by
 simp only[ca,XR,beq_iff_eq,XT]at hg
 obtain⟨⟨h1,h2⟩,h3,h4,h5,rfl⟩:=hg
 exact⟨40,3,TP v0 (bg v5) v5 40 0 h2 (v0-v5).toNat v5 40 rfl h3 h4 (by omega)⟩
theorem q6 (a0:Int) (hg:bO a0=true):∃F d,run RI F d 150 Tryz.f150 fz (a0,())=some (kQ.enc (bg a0)):=by
 refine⟨200,6,?_⟩
 rw[oT]
 have h':=(ca a0).1 hg
 rw[wrI (n:=a0-1) (by omega),Int.tdiv_eq_ediv_of_nonneg (by omega),wrI (n:=(a0-1)/19) (by omega),wrI (n:=19*((a0-1)/19)) (by omega),wrI (n:=19*((a0-1)/19)+1) (by omega),wrI (n:=235*((a0-1)/19)) (by omega)]
 have e:bg (19*((a0-1)/19)+1)=235*((a0-1)/19):=by unfold bg;omega
 rw[e,hg,decide_eq_true (by omega:1≤19*((a0-1)/19)+1),decide_eq_true (by omega:19*((a0-1)/19)+1≤a0),decide_eq_true (by omega:a0-(19*((a0-1)/19)+1)≤20),beq_self_eq_true]
 rfl
theorem sx (a0:Int) (hg:bO a0=true):∃F d,run OR F d 140 Tryz.f140 gA (a0,())=some (lX.enc (UJ a0)):=by
 refine⟨200,6,?_⟩
 rw[qR]
 have h':=(ca a0).1 hg
 have hm:=lr h'.1 h'.2
 rw[wrI (n:=765433*bg a0) (by omega),wrI (n:=5604+765433*bg a0) (by omega),Int.tdiv_eq_ediv_of_nonneg (by omega),Int.tmod_eq_emod_of_nonneg (by omega),wrI (n:=(5604+765433*bg a0)/25920) (by omega),wrI (by omega)]
 rw[hg]
 rfl
theorem wV (a0:Int) (a1:Od) (hg:FB a0 a1=true):∃F d,run Ri F d 151 Tryz.f151 jF (a0,a1,())=some (nY.enc (EE a0 a1)):=by
 refine⟨200,6,?_⟩
 rw[uM]
 have hg':bO a0=true∧cS a1.day=true:=by simpa only[FB,XR]using hg
 have h':=(ca a0).1 hg'.1
 rw[hg'.2,show cS a0=true from(cO _).2 (by omega),wrI (n:=a0-1) (by omega),show cS (a0-1)=true from(cO _).2 (by omega)]
 unfold EE av
 cases decide (a1.part≥19440)<;>cases a1.day%7==2<;>cases a1.day%7==1<;>cases decide (a1.part≥9924)<;>cases decide (a1.part≥16789)<;>cases dd a0<;>cases dd (a0-1)<;>rfl
theorem sB (a0:Int) (hg:bO a0=true):∃F d,run OP F d 141 Tryz.f141 gj (a0,())=some (gL.enc (fv a0)):=by
 refine⟨200,6,?_⟩
 rw[qO]
 have h':=(ca a0).1 hg
 have hp:=jU h'.1 h'.2
 have hput:EE a0 {day:= -1373427+aL a0/25920,part:=aL a0%25920}=cond (EF a0) 1 0:=rfl
 have hd:(gL.enc (fv a0))=AV.int .i64 (Kt ((-1373427+aL a0/25920)%7) (cond (EF a0) 1 0)):=rfl
 have hpn:(0:Int)≤cond (EF a0) 1 0∧(cond (EF a0) 1 0:Int)≤1:=by cases EF a0<;>decide
 rw[hput,hd]
 rw[show FB a0 {day:= -1373427+aL a0/25920,part:=aL a0%25920}=true by simp only[FB,hg,Bool.true_and];exact(cO _).2 (by omega),hg]
 clear hput hd
 have hq:0≤aL a0/25920∧aL a0/25920≤100000000:=by omega
 generalize (cond (EF a0) 1 0:Int)=p at*
 generalize aL a0/25920=q at*
 rw[wrI (n:= -1373427+q+p) (by omega),show cS (-1373427+q+p)=true from(cO _).2 (by omega),wrI (n:=p+1) (by omega)]
 unfold Kt av
 rw[show((-1373427+q)%7+p)%7=(-1373427+q+p)%7 by omega]
 cases (-1373427+q+p)%7==0<;>cases (-1373427+q+p)%7==3<;>cases (-1373427+q+p)%7==5<;>rfl
theorem qc (a0:Int) (hg:bO a0=true):∃F d,run Pk F d 124 Tryz.f124 eU (a0,())=some (j9.enc (aP a0)):=by
 refine⟨200,6,?_⟩
 rw[ow]
 have h':=(ca a0).1 hg
 have hp:=jU h'.1 h'.2
 have hn:=gB h'.1 h'.2
 rw[hg,wrI (n:= -1373427+aL a0/25920+fv a0) (by omega)]
 rfl
theorem vF (a0:Int) (hg:kv a0=true):∃F d,run QS F d 126 Tryz.f126 jq (a0,())=some (oj.enc (bu a0)):=by
 refine⟨200,6,?_⟩
 rw[uE]
 have h':1≤a0∧a0≤99999:=by simpa only[kv,XR,XT]using hg
 rw[wrI (n:=a0+1) (by omega),show bO (a0+1)=true from(ca _).2 (by omega),show bO a0=true from(ca _).2 (by omega)]
 have h1:=gB (h:=a0) (by omega) (by omega)
 have h2:=gB (h:=a0+1) (by omega) (by omega)
 rw[wrI (n:=aP (a0+1)-aP a0) (by omega)]
 rfl
theorem uG (a0:Int) (a1:Int):∃F d,run Ru F d 125 Tryz.f125 iV (a0,a1,())=some (nd.enc (dI a0 a1)):=by
 refine⟨200,6,?_⟩
 rw[rQ]
 unfold dI
 cases hr:fM a0 with
 |false=>rfl
 |true=>
  have hb:=(cu a0).1 hr
  rw[show cS a0=true from(cO _).2 (by omega),show kv a0=true by simp only[kv,XR,XT];omega]
  simp only[XU,Bool.true_and,Bool.not_true,XV]
  have e:(bif decide (a1<1)then true else decide (a1>13))= !(decide (1≤a1)&&decide (a1≤13)):=by
   rw[Bool.eq_iff_iff]
   cases h1:decide (a1<1)<;>simp at h1⊢ <;>omega
  rw[e]
  cases hm:(decide (1≤a1)&&decide (a1≤13))with
  |false=>rfl
  |true=>
   have hm':1≤a1∧a1≤13:=by simpa only[XR,XT]using hm
   simp only[Bool.not_true,XV,XU,Dc,bne]
   have hc:a1=1∨a1=2∨a1=3∨a1=4∨a1=5∨a1=6∨a1=7∨a1=8∨a1=9∨a1=10∨a1=11∨a1=12∨a1=13:=by omega
   rcases hc with rfl|rfl|rfl|rfl|rfl|rfl|rfl|rfl|rfl|rfl|rfl|rfl|rfl<;>cases dd a0<;>cases (bu a0).tmod 10==5<;>cases (bu a0).tmod 10==3<;>rfl
theorem sa:∃F d,run Sm F d 116 Tryz.f116 gi (())=some (mb.enc (FU)):=⟨200,6,by rw[qX];rfl⟩
theorem Mo:Fw=2278650:=by
 unfold Fw
 rw[←ff,show(9999:Int)+1=10000 from rfl,ly]
 rfl
theorem uk:∃F d,run Rz F d 117 Tryz.f117 ik (())=some (nq.enc (Fw)):=by
 refine⟨200,6,?_⟩
 rw[sk]
 have h:=Mo
 unfold Fw at h
 rw[wrI (n:=aP 9999+bu 9999) (by omega),wrI (n:=aP 9999+bu 9999-1) (by omega)]
 rfl
theorem Ul (v0 v3 v4:Int) (F d:Nat) (hi0:inH v0=true):∀(k:Nat) (lo hi:Int) (n:Nat),hi-lo≤(k:Int)+1→3762≤lo→lo<hi→hi≤10000→aP lo≤v0→v0<aP hi→k<n→
  Dg F (d+3) n (zp v0 lo hi)=some (.exit 0,(xN (aZ v0))):=by
 intro k
 induction k with
 |zero=>
  intro lo hi n hk h1 h2 h3 h4 h5 hn
  obtain⟨n,rfl⟩:∃k,n=k+1:=⟨n-1,by omega⟩
  have e:hi=lo+1:=by omega
  subst e
  rw[Fx,wrI (n:=lo+1-lo) (by omega),decide_eq_false (by omega:¬lo+1-lo>1),pJ ((cu lo).2 (by omega)) h4 h5]
  rfl
 |succ k ih=>
  intro lo hi n hk h1 h2 h3 h4 h5 hn
  obtain⟨n,rfl⟩:∃k,n=k+1:=⟨n-1,by omega⟩
  rw[Fx,wrI (n:=hi-lo) (by omega)]
  by_cases hc:hi-lo>1
  ·rw[decide_eq_true hc,XU,wrI (n:=lo+hi) (by omega),Int.tdiv_eq_ediv_of_nonneg (by omega),wrI (n:=(lo+hi)/2) (by omega),show bO ((lo+hi)/2)=true from(ca _).2 (by omega)]
   simp only[Bool.and_self,XU]
   by_cases hm:aP ((lo+hi)/2)≤v0
   ·rw[decide_eq_true hm,XU]
    exact ih ((lo+hi)/2) hi n (by omega) (by omega) (by omega) h3 hm h5 (by omega)
   ·rw[decide_eq_false hm,XV]
    exact ih lo ((lo+hi)/2) n (by omega) h1 (by omega) (by omega) h4 (by omega) (by omega)
  ·have e:hi=lo+1:=by omega
   subst e
   rw[decide_eq_false hc,pJ ((cu lo).2 (by omega)) h4 h5]
   rfl
theorem Nz (v0 v3 v4:Int) (hg:(zk v0 v3 v4)=true):∃N d,Dg N d N (zp v0 v3 v4)=some (a7 Prod.mk [] (.exit 0) (xN (aZ v0))):=by
 simp only[zk,XR,XT]at hg
 obtain⟨h1,h2,h3,h4,h5,h6⟩:=hg
 exact⟨20000,3,Ul v0 v3 v4 20000 0 h1 (v4-v3).toNat v3 v4 20000 (by omega) h2 h3 h4 h5 h6 (by omega)⟩
theorem uJ (a0:Int) (hg:inH a0=true):∃F d,run QH F d 123 Tryz.f123 iG (a0,())=some (nf.enc (aZ a0)):=by
 refine⟨200,6,?_⟩
 rw[rj]
 have hb:=(mE a0).1 hg
 have w1:aP 3762=249:=jD
 have w2:aP 10000=2278651:=ly
 rw[show zk a0 3762 10000=true by simp only[zk,hg,w1,w2,Bool.true_and,XR,XT];omega]
 rfl
theorem SO (O0 O1 O2 v3 v4 v5:Int) (F d:Nat) (hr:fM v3=true):∀(k:Nat) (m o:Int) (n:Nat),(iY (bu v3) k m o).2<lV (bu v3) (iY (bu v3) k m o).1→0≤o→o≤100000→1≤m→m+k≤100→k<n→
  Gi F (d+3) n (D9 O0 O1 O2 v3 o m)=some (.exit 0,(xW O0 O1 O2 v3 (iY (bu v3) k m o).2 (iY (bu v3) k m o).1)):=by
 intro k
 induction k with
 |zero=>
  intro m o n hf h0 h1 h2 h3 hn
  obtain⟨n,rfl⟩:∃k,n=k+1:=⟨n-1,by omega⟩
  rw[Fa,rC hr]
  have hf':o<lV (bu v3) m:=hf
  rw[decide_eq_false (by omega:¬o≥lV (bu v3) m)]
  rfl
 |succ k ih=>
  intro m o n hf h0 h1 h2 h3 hn
  obtain⟨n,rfl⟩:∃k,n=k+1:=⟨n-1,by omega⟩
  have hd:=vO v3 m
  rw[rC hr]at hd
  rw[Fa,rC hr]
  unfold iY at hf⊢
  by_cases hc:o≥lV (bu v3) m
  ·rw[decide_eq_true hc]at hf⊢
   rw[XU]at hf
   rw[XU,wrI (n:=o-lV (bu v3) m) (by omega),wrI (n:=m+1) (by omega)]
   exact ih (m+1) (o-lV (bu v3) m) n hf (by omega) (by omega) (by omega) (by omega) (by omega)
  ·rw[decide_eq_false hc]
   rfl
theorem J4 {h o:Int} (hr:fM h=true) (h0:0≤o) (h1:o<bu h):(0≤(iY (bu h) 13 1 o).2∧(iY (bu h) 13 1 o).2<lV (bu h) (iY (bu h) 13 1 o).1)∧(Dv (bu h) 13 1 o 0 0).1=(iY (bu h) 13 1 o).1∧(Dv (bu h) 13 1 o 0 0).2=(iY (bu h) 13 1 o).2+1:=by
 have e:((o.toNat:Nat):Int)=o:=by omega
 have a:=U4 (ua hr).1 (o:=o.toNat) (by omega)
 have b:=PK (ua hr).1 (o:=o.toNat) (by omega)
 simp only[Am,Av,e,XR,XT,beq_iff_eq]at a b
 exact⟨a.1,b⟩
theorem OA (O0 O1 O2 v3 v4 v5:Int) (hg:(Fy v3 v5 v4)=true):∃N d,Gi N d N (D9 O0 O1 O2 v3 v4 v5)=some (a7 Prod.mk [] (.exit 0) (xW O0 O1 O2 v3 (iY (bu v3) 13 1 v4).2 (iY (bu v3) 13 1 v4).1)):=by
 simp only[Fy,XR,beq_iff_eq,XT]at hg
 obtain⟨h1,rfl,h3,h4⟩:=hg
 have hl:=tF h1
 exact⟨40,3,SO O0 O1 O2 v3 v4 1 40 0 h1 13 1 v4 40 (J4 h1 h3 h4).1.2 h3 (by omega) (by omega) (by omega) (by omega)⟩
theorem Ov {n:Int} (hi:inH n=true):ez n=⟨aZ n,(iY (bu (aZ n)) 13 1 (n-aP (aZ n))).1,(iY (bu (aZ n)) 13 1 (n-aP (aZ n))).2+1⟩:=by
 obtain⟨y0,y1,y2,_⟩:=jv hi
 have hn:=ff (aZ n)
 have hd:=MH y0 n 13 1 (aP (aZ n)) 0 0
 obtain⟨_,r1,r2⟩:=J4 y0 (o:=n-aP (aZ n)) (by omega) (by omega)
 unfold ez
 rw[hd.1,hd.2,r1,r2]
theorem xI (a0:Int) (hg:inH a0=true):∃F d,run QU F d 115 Tryz.f115 kI (a0,())=some (qw.enc (ez a0)):=by
 refine⟨200,6,?_⟩
 rw[vU]
 obtain⟨y0,y1,y2,_⟩:=jv hg
 have hb:=(mE a0).1 hg
 have hyr:=(cu _).1 y0
 have hn:=ff (aZ a0)
 have hl:=tF y0
 obtain⟨⟨r1,r2⟩,_⟩:=J4 y0 (o:=a0-aP (aZ a0)) (by omega) (by omega)
 have hd:=vO (aZ a0) (iY (bu (aZ a0)) 13 1 (a0-aP (aZ a0))).1
 rw[rC y0]at hd
 rw[wrI (n:=a0-aP (aZ a0)) (by omega),hg,show bO (aZ a0)=true from(ca _).2 (by omega)]
 rw[show Fy (aZ a0) 1 (a0-aP (aZ a0))=true by simp only[Fy,y0,beq_self_eq_true,Bool.true_and,XR,XT];omega]
 rw[wrI (n:=(iY (bu (aZ a0)) 13 1 (a0-aP (aZ a0))).2+1) (by omega),Ov hg]
 rfl
theorem qK (a0:Int) (a1:Bool):∃F d,run Po F d 122 Tryz.f122 fx (a0,a1,())=some (kT.enc (tx a0 a1)):=by
 refine⟨200,6,?_⟩
 rw[oW]
 unfold tx
 cases a0==1<;>cases a0==2<;>cases a0==10<;>cases a0==15<;>cases a0==16<;>cases a0==22<;>cases a0==23<;>cases a1<;>rfl
theorem xP (a0:n9) (a1:Bool):∃F d,run PW F d 114 Tryz.f114 kr (a0,a1,())=some (qv.enc (E6 a0 a1)):=by
 refine⟨200,6,?_⟩
 rw[wR]
 unfold E6
 cases a0.month==1<;>cases a0.month==8<;>cases a0.month==10<;>(try rfl)<;>cases a0.day==15<;>cases a0.day==16<;>cases a0.day==21<;>cases a0.day==22<;>(try rfl)<;>cases a0.day==6<;>cases a0.day==7<;>cases a1<;>rfl
theorem Qw (d:n9) (ab:Bool):E6 d ab=kO d.month d.day ab:=by
 obtain⟨y,m,d⟩:=d
 unfold E6 tx kO eZ
 dsimp only
 rw[show List.range 13=[0,1,2,3,4,5,6,7,8,9,10,11,12] from rfl]
 have none_ok:∀l:List Nat,(∀j∈l,hit m d j=false)→l.find? (hit m d)=none:=by
  intro l hl
  rw[List.find?_eq_none]
  intro j hj
  rw[hl j hj]
  decide
 have ne:∀{a b:Int},a≠b→(a==b)=false:=fun h=>beq_eq_false_iff_ne.2 h
 by_cases m1:m=1
 ·subst m1
  rcases(show d=1∨d=2∨d=10∨d=15∨d=16∨d=22∨d=23∨(d≠1∧d≠2∧d≠10∧d≠15∧d≠16∧d≠22∧d≠23) by omega)with rfl|rfl|rfl|rfl|rfl|rfl|rfl|⟨h1,h2,h3,h4,h5,h6,h7⟩
  iterate 7 (cases ab<;>rfl)
  rw[none_ok _ (by
   intro j hj
   simp only[List.mem_cons,List.not_mem_nil,or_false]at hj
   rcases hj with rfl|rfl|rfl|rfl|rfl|rfl|rfl|rfl|rfl|rfl|rfl|rfl|rfl<;>simp[hit,cN,Pu,h1,h2,h3,h4,h5,h6,h7])]
  simp[ne h1,ne h2,ne h3,ne h4,ne h5,ne h6,ne h7]
 ·by_cases m8:m=8
  ·subst m8
   rcases(show d=15∨d=16∨d=21∨d=22∨(d≠15∧d≠16∧d≠21∧d≠22) by omega)with rfl|rfl|rfl|rfl|⟨h1,h2,h3,h4⟩
   iterate 4 (cases ab<;>rfl)
   rw[none_ok _ (by
    intro j hj
    simp only[List.mem_cons,List.not_mem_nil,or_false]at hj
    rcases hj with rfl|rfl|rfl|rfl|rfl|rfl|rfl|rfl|rfl|rfl|rfl|rfl|rfl<;>simp[hit,cN,Pu,h1,h2,h3,h4])]
   simp[ne h1,ne h2,ne h3,ne h4]
  ·by_cases m10:m=10
   ·subst m10
    rcases(show d=6∨d=7∨(d≠6∧d≠7) by omega)with rfl|rfl|⟨h1,h2⟩
    iterate 2 (cases ab<;>rfl)
    rw[none_ok _ (by
     intro j hj
     simp only[List.mem_cons,List.not_mem_nil,or_false]at hj
     rcases hj with rfl|rfl|rfl|rfl|rfl|rfl|rfl|rfl|rfl|rfl|rfl|rfl|rfl<;>simp[hit,cN,Pu,h1,h2])]
    simp[ne h1,ne h2]
   ·rw[none_ok _ (by
     intro j hj
     simp only[List.mem_cons,List.not_mem_nil,or_false]at hj
     rcases hj with rfl|rfl|rfl|rfl|rfl|rfl|rfl|rfl|rfl|rfl|rfl|rfl|rfl<;>simp[hit,cN,Pu,m1,m8,m10])]
    simp[ne m1,ne m8,ne m10]
theorem wW (a0:Int):∃F d,run P8 F d 101 Tryz.f101 jz (a0,())=some (oB.enc (inH a0)):=by
 refine⟨200,6,?_⟩
 rw[uP,Mo,show FU=249 from jD]
 have e:(bif decide (a0≥249)then decide (a0≤2278650)else false)=inH a0:=by
  unfold inH
  rw[Bool.eq_iff_iff]
  cases h1:decide (a0≥249)<;>simp at h1⊢ <;>omega
 rw[e]
 rfl
theorem uD (a0:Int) (a1:Bool):∃F d,run Pd F d 100 Tryz.f100 iF (a0,a1,())=some (mF.enc (e9 a0 a1)):=by
 refine⟨200,6,?_⟩
 rw[rm,Qw]
 unfold e9 lv
 cases inH a0<;>rfl
theorem uC (a0:Int) (a1:Bool):∃F d,run Pa F d 71 Tryz.f71 iD (a0,a1,())=some (nm.enc (bb a0 a1)):=by
 refine⟨200,6,?_⟩
 rw[sr]
 unfold bb e9
 cases hi:inH a0 with
 |false=>
  rw[Bool.not_false,Bool.or_true]
  rfl
 |true=>
  have hb:=(mE a0).1 hi
  rw[show cS a0=true from(cO _).2 (by omega)]
  simp only[XU,Bool.true_and,Bool.true_or]
  unfold av
  cases a0%7==6<;>rfl
theorem P4 (O0 O1:Int) (v1:Bool) (v5 v6:Int) (v7:Bool) (F d:Nat):∀(k:Nat) (x:Int) (n:Nat),inH x=true→cr (-1) v1 k x=true→k≤n→
  BP F (d+3) n (xO O0 O1 v1 x v6 (bb (x-1) v1))=some (.exit 0,(tr O0 O1 v1 (bJ (-1) v1 k x) v6)):=by
 intro k
 induction k with
 |zero=>intro x n hi hr hn;cases hr
 |succ k ih=>
  intro x n hi hr hn
  obtain⟨n,rfl⟩:∃k,n=k+1:=⟨n-1,by omega⟩
  have hx:=(mE x).1 hi
  rw[K7,wrI (n:=x-1) (by omega),wrI (n:=x-1-1) (by omega)]
  simp only[cr,Bool.or_eq_true,Bool.not_eq_true']at hr
  unfold bJ
  rw[show x+ -1=x-1 by omega]at hr⊢
  cases hc:bb (x-1) v1 with
  |false=>rfl
  |true=>
   rw[hc]at hr
   rw[XU,XU]
   exact ih (x-1) n ((n8 _ _).1 hc).1 (hr.resolve_left (by simp)) (by omega)
theorem J2 (O0 O1:Int) (v1:Bool) (v5 v6:Int) (v7:Bool) (hg:(kY (-1) v1 v5&&v7==bb (v5-1) v1)=true):∃N d,BP N d N (xO O0 O1 v1 v5 v6 v7)=some (a7 Prod.mk [] (.exit 0) (tr O0 O1 v1 (bJ (-1) v1 10 v5) v6)):=by
 simp only[kY,XR,Bool.or_eq_true,beq_iff_eq]at hg
 obtain⟨⟨_,h2,h3⟩,rfl⟩:=hg
 exact⟨20,3,P4 O0 O1 v1 v5 v6 (bb (v5-1) v1) 20 0 10 v5 20 h2 h3 (by omega)⟩
theorem NT (O0 O1:Int) (v1:Bool) (v5 v6:Int) (v7:Bool) (F d:Nat):∀(k:Nat) (x:Int) (n:Nat),inH x=true→cr 1 v1 k x=true→k≤n→
  yt F (d+3) n (rv O0 O1 v1 v5 x (bb (x+1) v1))=some (.exit 2,(oO O0 O1 v5 (bJ 1 v1 k x))):=by
 intro k
 induction k with
 |zero=>intro x n hi hr hn;cases hr
 |succ k ih=>
  intro x n hi hr hn
  obtain⟨n,rfl⟩:∃k,n=k+1:=⟨n-1,by omega⟩
  have hx:=(mE x).1 hi
  rw[IF,wrI (n:=x+1) (by omega),wrI (n:=x+1+1) (by omega)]
  simp only[cr,Bool.or_eq_true,Bool.not_eq_true']at hr
  unfold bJ
  cases hc:bb (x+1) v1 with
  |false=>rfl
  |true=>
   rw[hc]at hr
   rw[XU,XU]
   exact ih (x+1) n ((n8 _ _).1 hc).1 (hr.resolve_left (by simp)) (by omega)
theorem IA (O0 O1:Int) (v1:Bool) (v5 v6:Int) (v7:Bool) (hg:(kY 1 v1 v6&&v7==bb (v6+1) v1)=true):∃N d,yt N d N (rv O0 O1 v1 v5 v6 v7)=some (a7 Prod.mk [] (.exit 2) (oO O0 O1 v5 (bJ 1 v1 10 v6))):=by
 simp only[kY,XR,Bool.or_eq_true,beq_iff_eq]at hg
 obtain⟨⟨_,h2,h3⟩,rfl⟩:=hg
 exact⟨20,3,NT O0 O1 v1 v5 v6 (bb (v6+1) v1) 20 0 10 v6 20 h2 h3 (by omega)⟩
theorem wX (a0:Int) (a1:Bool) (hg:bb a0 a1=true):∃F d,run RY F d 72 Tryz.f72 jK (a0,a1,())=some (nT.enc (VU a0 a1)):=by
 refine⟨200,6,?_⟩
 rw[uI]
 have ho:=QF hg
 have hb:=(mE a0).1 ((n8 _ _).1 hg).1
 rw[wrI (n:=a0-1) (by omega),wrI (n:=a0+1) (by omega),ho.1,ho.2,beq_self_eq_true,beq_self_eq_true]
 rfl
theorem xx (a0:Sun) (a1:Int) (hg:zB a0 a1=true):∃F d,run QL F d 102 Tryz.f102 km (a0,a1,())=some (kD.enc (I3 a0 a1)):=by
 refine⟨200,6,?_⟩
 rw[wj]
 have hg':ax a0=0∧dt a1=true:=by simpa only[zB,XR,beq_iff_eq]using hg
 obtain⟨hs0,hd⟩:=hg'
 obtain⟨⟨m1,m2⟩,⟨d1,d2⟩,he,hL⟩:=BK hd
 have hr:=nZ hs0 hd
 unfold rOf qC
 have e1:IntKind.wrap IntKind.i64 ((ofG a1).1.month-1)=(ofG a1).1.month-1:=wrI (by omega)
 have e3:Int.tmod (ofG a1).1.month 12=(ofG a1).1.month%12:=Int.tmod_eq_emod_of_nonneg (by omega)
 have e4:IntKind.wrap IntKind.i64 ((ofG a1).1.day-1)=(ofG a1).1.day-1:=wrI (by omega)
 have ha:=gT hs0 (k:=((ofG a1).1.month-1).toNat) (by omega)
 have hb:=gT hs0 (k:=((ofG a1).1.month%12).toNat) (by omega)
 have hv:=rB (a:=cP (gH a0) ((ofG a1).1.month-1).toNat) (b:=cP (gH a0) ((ofG a1).1.month%12).toNat) (x:=(ofG a1).1.day-1) (d:=ai (ofG a1).1.year (ofG a1).1.month) (by omega) (by omega) (by omega)
 rw[e1,e3,e4,hd]
 have hl:[a0.m0,a0.m1,a0.m2,a0.m3,a0.m4,a0.m5,a0.m6,a0.m7,a0.m8,a0.m9,a0.m10,a0.m11]=gH a0:=rfl
 rw[hl]
 simp only[Nat.zero_add,Nat.mul_one]
 have r:(kD.enc (I3 a0 a1))=AV.int .i64 (cP (gH a0) ((ofG a1).1.month-1).toNat+(cP (gH a0) ((ofG a1).1.month%12).toNat-cP (gH a0) ((ofG a1).1.month-1).toNat)*((ofG a1).1.day-1)/ai (ofG a1).1.year (ofG a1).1.month):=rfl
 rw[r]
 have hu:(decide (0≤(ofG a1).1.month-1)&&decide ((ofG a1).1.month-1<((12:Nat):Int)))=true:=by simp;omega
 have hu2:(decide (0≤(ofG a1).1.month%12)&&decide ((ofG a1).1.month%12<((12:Nat):Int)))=true:=by simp;omega
 have hu3:Nat.ble (((ofG a1).1.month-1).toNat+1) 12=true:=Nat.ble_eq_true_of_le (by omega)
 have hu4:Nat.ble (((ofG a1).1.month%12).toNat+1) 12=true:=Nat.ble_eq_true_of_le (by omega)
 rw[hu,hu2,hu3,hu4]
 clear hr r hu hu2 hu3 hu4 hl e1 e3 e4 he
 generalize hm1:cP (gH a0) ((ofG a1).1.month-1).toNat=p at*
 generalize hm2:cP (gH a0) ((ofG a1).1.month%12).toNat=q at*
 generalize hx:(ofG a1).1.day-1=x at*
 generalize hy:ai (ofG a1).1.year (ofG a1).1.month=y at*
 have hx':0≤x∧x≤31:=by omega
 have hpq: -100000≤(q-p)*x∧(q-p)*x≤100000:=by
  have h1:q-p≤420:=by omega
  have h2: -420≤q-p:=by omega
  constructor
  ·have:=Int.mul_le_mul_of_nonneg_right h2 hx'.1
   omega
  ·have:=Int.mul_le_mul_of_nonneg_right h1 hx'.1
   omega
 rw[wrI (n:=q-p) (by omega),wrI (n:=(q-p)*x) (by omega)]
 rw[show bD ((q-p)*x) y=true by simp only[bD,big,byB,XR,XT];omega]
 generalize (q-p)*x/y=v at*
 rw[wrI (n:=p+v) (by omega)]
 rfl
theorem qM (a0:bc) (a1:Sun) (a2:Int):∃F d,run RJ F d 73 Tryz.f73 fB (a0,a1,a2,())=some (kR.enc (iM a0 a1 a2)):=by
 refine⟨200,6,?_⟩
 rw[po]
 unfold iM
 cases hz:ao a0 != 0 with
 |true=>rfl
 |false=>
  have hz0:ao a0=0:=by simpa using hz
  obtain⟨z1,_⟩:=bR hz0
  cases hs:ax a1 != 0 with
  |true=>rfl
  |false=>
   have hs0:ax a1=0:=by simpa using hs
   have e:(bif decide (a2<401)then true else decide (a2>3651998))= !inB a2 401 3651998:=by
    unfold inB
    rw[Bool.eq_iff_iff]
    cases h1:decide (a2<401)<;>simp at h1⊢ <;>omega
   rw[e]
   cases hb:inB a2 401 3651998 with
   |false=>rfl
   |true=>
    have h1:=bG.1 hb
    have hd:dt a2=true:=c8.2 (by omega)
    have hr:900≤I3 a1 a2∧I3 a1 a2≤1320:=nZ hs0 hd
    rw[show zB a1 a2=true by simp only[zB,hs0,hd,beq_self_eq_true,Bool.and_self]]
    rw[wrI (n:=a2*1440) (by omega),wrI (n:=a2*1440+I3 a1 a2) (by omega),wrI (n:=a2*1440+I3 a1 a2-a0.base) (by omega)]
    rfl
def VT (x:Nat):Bool:=(bits .and .i64 (x:Int) 1==1)==(Int.tmod (x:Int) 2==1)
theorem Tj:eX VT 128=true:=by kernel_rfl
theorem Ty {x:Int} (h0:0≤x) (h1:x≤127):(Int.tmod x 2==1)=(bits .and .i64 x 1==1):=by
 have:=bX Tj x.toNat (by omega)
 unfold VT at this
 rw[show((x.toNat:Nat):Int)=x by omega,beq_iff_eq]at this
 exact this.symm
theorem MT {w:ag} (h:ak w=0) (hk:w.kind=1):1≤w.arg∧w.arg≤127:=by
 have hb:bl w=true:=by
  unfold ak dF at h
  cases hb:bl w with
  |true=>rfl
  |false=>rw[hb]at h;cases h
 unfold bl at hb
 rw[hk]at hb
 simp only[XR,bG,beq_self_eq_true,XU]at hb
 exact hb.2.1.2
theorem qI (a0:Config) (a1:ag) (a2:Int) (hg:nX a0 a1 a2=true):∃F d,run QC F d 70 Tryz.f70 fy (a0,a1,a2,())=some (kM.enc (yV a0 a1 a2)):=by
 refine⟨200,6,?_⟩
 rw[pF]
 have hg':cI () a0 a1 a2=true∧a1.kind<4:=by simpa only[nX,XR,XT]using hg
 obtain⟨h1,h2,h3⟩:=B1 hg'.1
 have hd:=(iR _).1 h3
 obtain⟨hk,_,_,hs⟩:=fc h2
 unfold yV opens
 rcases hk with hk|hk|hk|hk
 ·have ha:=MT h2 hk
  rw[hk,show cS a2=true from(cO _).2 (by omega)]
  have hw:0≤av a2∧av a2<7:=by unfold av;omega
  have hu:IntKind.wrap IntKind.u64 (av a2)=av a2:=by
   have:av a2=0∨av a2=1∨av a2=2∨av a2=3∨av a2=4∨av a2=5∨av a2=6:=by omega
   rcases this with h|h|h|h|h|h|h<;>rw[h]<;>rfl
  rw[hu,decide_eq_true hw.1]
  have hx:0≤a1.arg.fdiv (2^min (av a2).toNat 64)∧a1.arg.fdiv (2^min (av a2).toNat 64)≤127:=by
   have hp:(0:Int)<2^min (av a2).toNat 64:=Int.pow_pos (by omega)
   rw[Int.fdiv_eq_ediv_of_nonneg _ (Int.le_of_lt hp)]
   exact⟨Int.ediv_nonneg (by omega) (Int.le_of_lt hp),Int.le_trans (Int.ediv_le_self _ (by omega)) ha.2⟩
  have hbit:=Ty hx.1 hx.2
  simp only[beq_self_eq_true,XU,Bool.and_self]
  rw[hbit]
  rfl
 ·rw[hk];rfl
 ·rw[hk,wrI (n:=a2-a1.shift) (by omega)];rfl
 ·omega
theorem xt (a0:Config) (a1:ag) (a2:Int) (hg:Bo a0 a1 a2=true):∃F d,run Rm F d 36 Tryz.f36 kz (a0,a1,a2,())=some (qy.enc (qk a0 a1 a2)):=by
 refine⟨200,6,?_⟩
 rw[w7]
 obtain⟨h1,h2,h3⟩:=B1 hg
 have hd:=(iR _).1 h3
 obtain⟨b1,b2,b3,b4⟩:=my a0
 obtain⟨hz,hs⟩:=cW h1
 obtain⟨z1,_⟩:=bR hz
 obtain⟨hk,hf4,hf,_⟩:=fc h2
 unfold qk
 by_cases hk4:a1.kind=4
 ·rw[decide_eq_false (by omega:¬a1.kind<4),XV,wrI (n:=a2+1) (by omega)]
  have eo:opens a0 a1 a2=a6 () a0 a1 a2:=by
   unfold opens
   rw[hk4]
   rfl
  rw[eo]
  unfold a6
  cases hn:bb a2 a0.bt with
  |true=>rw[Bool.not_true,Bool.and_false];rfl
  |false=>
   cases hr:bb (a2+1) a0.bt with
   |false=>rfl
   |true=>
    obtain⟨l1,l2,_,_⟩:=CJ hr
    obtain⟨m,m1,m2⟩:=ud (n:=a2) hz hs (by omega) (by omega)
    obtain⟨n,n1,n2⟩:=ud (n:=bJ 1 a0.bt 10 (a2+1)) hz hs (by omega) (by omega)
    have:=hf4 hk4
    simp only[XU,Bool.not_false,Bool.not_true,Bool.and_self,m1,n1,XV]
    rw[wrI (n:=a2*1440+m-a0.aK.base-a1.minute) (by omega),wrI (n:=bJ 1 a0.bt 10 (a2+1)*1440+n-a0.aK.base+a1.len) (by omega)]
    rfl
 ·have hlt:a1.kind<4:=by omega
  obtain⟨m1,m2,m3,o1,o2⟩:=Ci hk4 h1 h2 h3
  have hmo:gW a2 a1.minute=true:=by
   have:=(hf hk4).1
   unfold gW
   rw[h3]
   simp
   omega
  have hms:=Cm hz hmo
  have hm':(cM a0.aK a2 a1.minute).1=oJ a0.aK a2 a1.minute:=by rw[hms]
  rw[hm']at m2 o1 o2
  rw[decide_eq_true hlt,b1,b2,b3,b4]
  rw[show nX a0 a1 a2=true by simp only[nX,XR,XT];exact⟨hg,hlt⟩]
  rw[show kH a0.aK a2 a1.minute=true by simp only[kH,hz,hmo,beq_self_eq_true,Bool.and_self]]
  rw[wrI (n:=oJ a0.aK a2 a1.minute+a1.len) (by omega),o1,o2]
  unfold yV
  cases (opens a0 a1 a2).2.2<;>rfl
theorem U7 (l0:List (Span)) (P0 P1 P2 P3 v1 v6:Int) (F d:Nat):∀(suf pre:List Span) (n:Nat),suf.length<n→(pre++suf).length≤1048576→
  MD F (d+3) n (IJ (pre++suf) P0 P1 P2 P3 v1 ((pre.length:Nat):Int))=cond (!gX suf v1) (some (.exit 0,(Bj (pre++suf) P0 P1 P2 P3))) (some (.ret,(BS (pre++suf) ((pre.length+suf.findIdx (fun s=>inS s v1):Nat):Int)))):=by
 intro suf
 induction suf with
 |nil=>
  intro pre n hn hl
  obtain⟨n,rfl⟩:∃k,n=k+1:=⟨n-1,by omega⟩
  rw[IK,dP,XV]
  rfl
 |cons x suf ih=>
  intro pre n hn hl
  obtain⟨n,rfl⟩:∃k,n=k+1:=⟨n-1,by omega⟩
  have ih':=ih (pre++[x]) n (by simp at hn;omega) (by simpa using hl)
  rw[IK]
  simp only[dZ,eW,Bool.and_self,XU,di,dX,cE hl,Bool.true_or,bn]
  rw[←cD]at ih'
  have hi:(decide (v1≥x.from_)&&decide (v1<x.to_))=inS x v1:=rfl
  rw[hi]
  cases hw:inS x v1
  ·rw[XV,ih']
   simp only[gX,List.any_cons,hw,Bool.false_or,List.findIdx_cons,XV,List.length_append,List.length_singleton]
   rw[show pre.length+1+suf.findIdx (fun s=>inS s v1)=pre.length+(suf.findIdx (fun s=>inS s v1)+1) by omega]
  ·simp[gX,hw,List.findIdx_cons]
theorem PA (l0:List (Span)) (P0 P1 P2 P3 v1 v6:Int) (hg:(decide (l0.length≤1048576)&&v6==0)=true):∃N d,MD N d N (IJ l0 P0 P1 P2 P3 v1 v6)=some (a7 Prod.mk [(!gX l0 v1, .exit 0,(Bj l0 P0 P1 P2 P3))] (.ret) (BS l0 (atIdx l0 v1))):=by
 simp only[XR,XT,beq_iff_eq]at hg
 obtain⟨h1,rfl⟩:=hg
 have:=U7 l0 P0 P1 P2 P3 v1 0 (l0.length+3) 0 l0 [] (l0.length+3) (by omega) (by simpa using h1)
 refine⟨l0.length+3,3,?_⟩
 simp only[List.nil_append,List.length_nil,Nat.zero_add]at this
 rw[show((0:Nat):Int)=0 from rfl]at this
 rw[this]
 cases h:gX l0 v1<;>simp[a7,h,atIdx]
theorem yA (a0:List Span) (a1:Int) (hg:bz a0 a1=true):∃F d,run R4 F d 42 Tryz.f42 kB (a0,a1,())=some (qt.enc (ja a0 a1)):=by
 refine⟨200,6,?_⟩
 rw[wu]
 simp only[bz,cR,XT]at hg
 simp only[eH,hg,decide_true,Bool.true_and,Bool.and_true,Bool.and_self,beq_self_eq_true,XU]
 cases h:gX a0 a1
 ·simp only[Bool.not_false,XU]
  simp only[ja,h,XV]
  rfl
 ·simp only[Bool.not_true,XV,(Ib a0 a1 h).1]
  rw[show ja a0 a1=((ja a0 a1).1,true) from Prod.ext rfl (Ib a0 a1 h).2]
  rfl
theorem uH (a0:Span) (a1:Span):∃F d,run Sf F d 103 Tryz.f103 iH (a0,a1,())=some (ni.enc (Co a0 a1)):=by
 refine⟨200,6,?_⟩
 rw[rE]
 have:Co a0 a1=cond (a0.prio != a1.prio) (decide (a0.prio>a1.prio)) (decide (a0.from_≥a1.from_)):=by
  rw[Bool.eq_iff_iff]
  by_cases h:a0.prio=a1.prio
  ·simp[Co,nj,h]
  ·have hb:(a0.prio != a1.prio)=true:=by simpa using h
   have hb2:(a0.prio==a1.prio)=false:=by simpa using h
   simp[Co,nj,hb,hb2]
   omega
 rw[this]
 cases (a0.prio != a1.prio)<;>rfl
theorem VL (l0:List (Span)) (v1 v5 v6:Int) (F d:Nat):∀(suf pre:List Span) (best:Int) (n:Nat),suf.length<n→(pre++suf).length≤1048576→ -1≤best→best<(pre.length:Int)→
  LU F (d+3) n (IQ (pre++suf) v1 best ((pre.length:Nat):Int))=some (.exit 0,(Gb (pre++suf) (wGo (pre++suf) v1 suf ((pre.length:Nat):Int) best))):=by
 intro suf
 induction suf with
 |nil=>
  intro pre best n hn hl h1 h2
  obtain⟨n,rfl⟩:∃k,n=k+1:=⟨n-1,by omega⟩
  rw[MP,dP,XV]
  rfl
 |cons x suf ih=>
  intro pre best n hn hl h1 h2
  obtain⟨n,rfl⟩:∃k,n=k+1:=⟨n-1,by omega⟩
  have ih':=fun b h1 h2=>ih (pre++[x]) b n (by simp at hn;omega) (by simpa using hl) h1 h2
  rw[MP]
  simp only[dZ,eW,Bool.and_self,XU,di,dX,cE hl,Bool.true_or,cC]
  rw[←cD]at ih'
  conv=>rhs;unfold wGo
  have hin:(decide (v1<x.from_)||decide (v1≥x.to_))= !inS x v1:=by
   rw[Bool.eq_iff_iff];simp[inS]<;>omega
  rw[hin]
  have e3:(((pre++[x]).length:Nat):Int)=((pre.length:Nat):Int)+1:=by simp
  cases hx:inS x v1
  ·simp only[Bool.not_false,XU,Bool.false_and,XV]
   rw[ih' best h1 (by rw[e3];omega),e3]
  ·simp only[Bool.not_true,XV,Bool.true_and]
   by_cases hb:best<0
   ·simp only[hb,decide_true,XU,Bool.true_or]
    rw[ih' _ (by omega) (by rw[e3];omega),e3]
   ·have i1:(decide (0≤best)&&decide (best<(((pre++x::suf).length:Nat):Int)))=true:=by simp;omega
    have i2:decide (0+Int.toNat best<(pre++x::suf).length)=true:=by simp;omega
    simp only[hb,decide_false,XV,i1,i2,XU,Bool.false_or,Co,zz]
    simp only[Nat.zero_add]
    cases (!nj x (List.getD (pre++x::suf) best.toNat cX))
    ·rw[XV,XV,ih' best h1 (by rw[e3];omega),e3]
    ·rw[XU,XU,ih' _ (by omega) (by rw[e3];omega),e3]
theorem TB (l0:List (Span)) (v1 v5 v6:Int) (hg:(decide (l0.length≤1048576)&&(v5== -1&&v6==0))=true):∃N d,LU N d N (IQ l0 v1 v5 v6)=some (a7 Prod.mk [] (.exit 0) (Gb l0 (az l0 v1))):=by
 simp only[XR,XT,beq_iff_eq]at hg
 obtain⟨h1,rfl,rfl⟩:=hg
 have:=VL l0 v1 (-1) 0 (l0.length+3) 0 l0 [] (-1) (l0.length+3) (by omega) (by simpa using h1) (by omega) (by simp)
 exact⟨l0.length+3,3,by simpa[a7,az]using this⟩
theorem mq (a0:List Span) (a1:Int) (hg:bz a0 a1=true):∃F d,run OM F d 76 Tryz.f76 dD (a0,a1,())=some (gU.enc (az a0 a1)):=by
 refine⟨200,6,?_⟩
 rw[lQ]
 simp only[bz,cR,XT]at hg
 simp only[eH,hg,decide_true,Bool.true_and,Bool.and_true,Bool.and_self,beq_self_eq_true,XU]
 rfl
theorem UT (l0:List (Span)) (v1 v6:Int) (v7:Bool) (v8:Int) (F d:Nat):∀(suf pre:List Span) (m:Int) (h:Bool) (n:Nat),suf.length<n→(pre++suf).length≤1048576→
  Cv F (d+3) n (Ax (pre++suf) v1 m h ((pre.length:Nat):Int))=some (.exit 0,(BC (pre++suf) (nGo v1 suf m h).1 (nGo v1 suf m h).2)):=by
 intro suf
 induction suf with
 |nil=>
  intro pre m h n hn hl
  obtain⟨n,rfl⟩:∃k,n=k+1:=⟨n-1,by omega⟩
  rw[I7,dP,XV]
  rfl
 |cons x suf ih=>
  intro pre m h n hn hl
  obtain⟨n,rfl⟩:∃k,n=k+1:=⟨n-1,by omega⟩
  have ih':=fun m h=>ih (pre++[x]) m h n (by simp at hn;omega) (by simpa using hl)
  rw[I7]
  simp only[dZ,eW,Bool.and_self,XU,di,dX,cE hl,Bool.true_or,cC,bn,XV]
  rw[←cD]at ih'
  have hgo:nGo v1 (x::suf) m h=nGo v1 suf (nP1 v1 x.to_ (nP1 v1 x.from_ m h) (nP2 v1 x.from_ m h)) (nP2 v1 x.to_ (nP1 v1 x.from_ m h) (nP2 v1 x.from_ m h)):=rfl
  rw[hgo,←ih']
  cases h1:(decide (x.from_>v1)&&(!h||decide (x.from_<m)))
  ·have p1:nP1 v1 x.from_ m h=m:=by simp only[nP1,h1,XV]
   have p2:nP2 v1 x.from_ m h=h:=by simp only[nP2,h1,XV]
   rw[p1,p2,XV]
   cases h2:(decide (x.to_>v1)&&(!h||decide (x.to_<m)))
   ·simp only[nP1,nP2,h2,XV]
   ·simp only[nP1,nP2,h2,XU]
  ·have p1:nP1 v1 x.from_ m h=x.from_:=by simp only[nP1,h1,XU]
   have p2:nP2 v1 x.from_ m h=true:=by simp only[nP2,h1,XU]
   rw[p1,p2,XU]
   cases h2:(decide (x.to_>v1)&&decide (x.to_<x.from_))
   ·simp only[nP1,nP2,Bool.not_true,Bool.false_or,h2,XV]
   ·simp only[nP1,nP2,Bool.not_true,Bool.false_or,h2,XU]
theorem Qr (l0:List (Span)) (v1 v6:Int) (v7:Bool) (v8:Int) (hg:(decide (l0.length≤1048576)&&(v6==0&&(v7==false&&v8==0)))=true):∃N d,Cv N d N (Ax l0 v1 v6 v7 v8)=some (a7 Prod.mk [] (.exit 0) (BC l0 (bp l0 v1).1 (bp l0 v1).2)):=by
 simp only[XR,XT,beq_iff_eq]at hg
 obtain⟨h1,rfl,rfl,rfl⟩:=hg
 have:=UT l0 v1 0 false 0 (l0.length+3) 0 l0 [] 0 false (l0.length+3) (by omega) (by simpa using h1)
 exact⟨l0.length+3,3,by simpa[a7,bp]using this⟩
theorem uR (a0:List Span) (a1:Int) (hg:bz a0 a1=true):∃F d,run Sp F d 75 Tryz.f75 hU (a0,a1,())=some (np.enc (bp a0 a1)):=by
 refine⟨200,6,?_⟩
 rw[se]
 simp only[bz,cR,XT]at hg
 simp only[eH,hg,decide_true,Bool.true_and,Bool.and_true,Bool.and_self,beq_self_eq_true,XU]
 rfl
theorem Vd (l0:List (Span)) (v3 v4:Int) (F d:Nat):∀(suf pre:List Span) (m:Int) (n:Nat),suf.length<n→(pre++suf).length≤1048576→
  JK F (d+3) n (E7 (pre++suf) m ((pre.length:Nat):Int))=some (.exit 0,(BF (pre++suf) (lGo suf m))):=by
 intro suf
 induction suf with
 |nil=>
  intro pre m n hn hl
  obtain⟨n,rfl⟩:∃k,n=k+1:=⟨n-1,by omega⟩
  rw[Jm,dP,XV]
  rfl
 |cons x suf ih=>
  intro pre m n hn hl
  obtain⟨n,rfl⟩:∃k,n=k+1:=⟨n-1,by omega⟩
  have ih':=fun m=>ih (pre++[x]) m n (by simp at hn;omega) (by simpa using hl)
  rw[Jm]
  simp only[dZ,eW,Bool.and_self,XU,di,dX,cE hl]
  rw[←cD]at ih'
  conv=>rhs;unfold lGo
  cases decide (x.from_<m)
  ·rw[XV,XV,ih']
  ·rw[XU,XU,ih']
theorem RB (l0:List (Span)) (v3 v4:Int) (hg:(decide (l0.length≤1048576)&&v4==0)=true):∃N d,JK N d N (E7 l0 v3 v4)=some (a7 Prod.mk [] (.exit 0) (BF l0 (lGo l0 v3))):=by
 simp only[XR,XT,beq_iff_eq]at hg
 obtain⟨h1,rfl⟩:=hg
 have:=Vd l0 v3 0 (l0.length+3) 0 l0 [] v3 (l0.length+3) (by omega) (by simpa using h1)
 exact⟨l0.length+3,3,by simpa[a7]using this⟩
theorem sZ (a0:List Span) (hg:Ff a0=true):∃F d,run Qg F d 74 Tryz.f74 gr (a0,())=some (mg.enc (dh a0)):=by
 refine⟨200,6,?_⟩
 rw[qN]
 simp only[Ff,cR,XR,XT]at hg
 have e1:decide ((0:Int)<((a0.length:Nat):Int))=true:=by simp;omega
 simp only[eH,hg.1,hg.2,e1,gt_iff_lt,decide_true,Bool.true_and,Bool.and_true,Bool.and_self,beq_self_eq_true,XU]
 rfl
theorem T3 (l0 l1:List (Span)) (v4 v5:Int) (v6:Bool) (F d:Nat) (hL:l0.length≤500):∀(k:List Int) (a:Int) (out:List Span) (n:Nat),PG l0 a≤k.length→k.length<n→out.length+k.length≤1048576→
  zN F (d+3) n (wL l0 out a (bp l0 a).1 (bp l0 a).2)=some (.exit 0,(x6 l0 (rp l0 k a (bp l0 a).1 (bp l0 a).2 out))):=by
 intro k
 induction k with
 |nil=>
  intro a out n hc hn ho
  obtain⟨n,rfl⟩:∃k,n=k+1:=⟨n-1,by omega⟩
  rw[zT,Ot (by simpa using hc),XV]
  rfl
 |cons y k ih=>
  intro a out n hc hn ho
  obtain⟨n,rfl⟩:∃k,n=k+1:=⟨n-1,by omega⟩
  conv=>rhs;unfold rp
  cases hm:(bp l0 a).2 with
  |false=>rw[zT,XV];rfl
  |true=>
   have hcn:=NV hm
   have hol1:out.length+(k.length+1)≤1048576:=by simpa using ho
   have ih2:=ih (bp l0 a).1 (eN l0 out a (bp l0 a).1) n (by simp at hc;omega) (by simp at hn;omega) (by have:=nE l0 out a (bp l0 a).1;omega)
   have hs:∀t,bz l0 t=true:=fun t=>by simp[bz,cR];omega
   have hol:Nat.ble out.length 1048576=true:=by simp;omega
   rw[zT,XU,XU,←ih2]
   simp only[eH,qh,hs,hol,Bool.and_true,Bool.true_and,Bool.and_self,XU,bn]
   obtain⟨w1,w2⟩:=vg l0 a
   cases hw:decide (az l0 a<0)with
   |true=>
    have hg:decide (az l0 a≥0)=false:=by simp at hw⊢;omega
    simp only[hg,Bool.false_and,Bool.not_false,Bool.or_true,XU,XV]
    rcases cU out with rfl|⟨q,p,rfl⟩
    ·rw[lI,hw];rfl
    ·rw[ke,hw];rfl
   |false=>
    have hw':¬az l0 a<0:=by simpa using hw
    have hg:decide (az l0 a≥0)=true:=by simp;omega
    have i1:decide (az l0 a<((l0.length:Nat):Int))=true:=by simp;omega
    have i2:decide (0+Int.toNat (az l0 a)<l0.length)=true:=by simp;omega
    simp only[hg,i1,Bool.and_self,i2,Bool.true_or,XU,Bool.true_and,zz]
    rcases cU out with rfl|⟨q,p,rfl⟩
    ·simp only[Ms,lI,hw,XV]
     simp
    ·simp only[Mt (show(q++[p]).length≤1048576 by omega),SB,Pf,Rc,Ut,Us,Bool.true_or,XU,Bool.true_and]
     simp only[ke,hw,XV,Nat.zero_add]
     cases hc:(p.to_==a&&p.mode==(l0.getD (az l0 a).toNat cX).mode)
     ·simp only[XV]
     ·simp only[XU,List.length_append,List.length_singleton,eH]
theorem Nc (l0 l1:List (Span)) (v4 v5:Int) (v6:Bool) (hg:(decide (l0.length≤500)&&(l1.length==0&&(v5==(bp l0 v4).1&&v6==(bp l0 v4).2)))=true):∃N d,zN N d N (wL l0 l1 v4 v5 v6)=some (a7 Prod.mk [] (.exit 0) (x6 l0 (rp l0 (aS l0) v4 v5 v6 []))):=by
 simp only[XR,XT,beq_iff_eq]at hg
 obtain⟨h1,h2,rfl,rfl⟩:=hg
 have h5:l1=[]:=List.length_eq_zero_iff.1 h2
 subst h5
 have:=T3 l0 [] 0 0 false (2*l0.length+4) 0 h1 (aS l0) v4 [] (2*l0.length+4) (Uk _ _) (by rw[fi];omega) (by rw[fi];simp;omega)
 exact⟨2*l0.length+4,3,by simpa[a7]using this⟩
theorem pt (a0:List Span) (hg:zx a0=true):∃F d,kd P6 F d 37 Tryz.f37 eV eP (a0,())=some (uB a0):=by
 refine⟨200,6,?_⟩
 rw[oz]
 simp only[zx,XT]at hg
 by_cases h0:a0.length=0
 ·have:a0=[]:=List.length_eq_zero_iff.1 h0
  subst this
  rfl
 ·have e1:((((a0.length:Nat):Int))==0)=false:=by simp;exact fun e=>h0 (by rw[e];rfl)
  have e2:decide (a0.length>0)=true:=by simp;omega
  have e3:Ff a0=true:=by simp[Ff,cR];omega
  have e4:∀t,bz a0 t=true:=fun t=>by simp[bz,cR];omega
  simp only[e1,e3,e4,eH,qh,hg,decide_true,Bool.true_and,Bool.and_true,Bool.and_self,beq_self_eq_true,XU,XV]
  simp only[uB,e2,XU]
end Go.Proofs.YtfhepbbkggdlcaaGreatDoor.Px.PxT


namespace Go.Proofs.YtfhepbbkggdlcaaGreatDoor.Px.PxT
open Go Go.Proofs
set_option maxRecDepth 10000
theorem OB {c:Config} {w:ag} {d:Int} (hc:af c=0) (hw:ak w=0) (hd:dw d=true):(qk c w d).is=(bw c w d).2.1∧((qk c w d).is=true→(qk c w d).s=(bw c w d).1):=by
 rcases Df c w d with⟨he,_⟩|⟨_,e⟩
 ·exfalso
  apply he
  unfold lh orE dF
  rw[hc,hw,hd]
  rfl
 ·rw[e]
  unfold qk
  cases (opens c w d).2.2
  ·exact⟨rfl,fun h=>by cases h⟩
  ·exact⟨rfl,fun _=>rfl⟩
theorem TN (l0:List (Int)) (l1:List (ag)) (l3:List (Span)) (Q0 Q1 Q2 Q4 Q5 Q6 Q7 Q8 Q9 Q10 Q11 Q12 Q13 Q14 Q15 Q16 Q17 Q18 Q19 Q20 Q21 Q22 Q23 Q24 Q25 Q26 Q27 Q28 Q29 Q30 Q31 Q32 Q33 Q34:Int) (Q35:Bool) (v2 v8 v9:Int) (F d:Nat) (C:Config) (hC:C=(⟨Q0,Q1,Q2,l0,⟨Q4,Q5,Q6,Q7,Q8,Q9,Q10⟩,Q11,Q12,⟨Q13,Q14,⟨Q15,Q16,Q17,Q18⟩,⟨Q19,Q20,Q21,Q22⟩⟩,⟨Q23,Q24,Q25,Q26,Q27,Q28,Q29,Q30,Q31,Q32,Q33,Q34⟩,Q35,l1⟩:Config)) (h1:l1.length≤1000) (hc:af C=0) (hd:dw v8=true):∀(suf pre:List ag) (out:List Span) (n:Nat),l1=pre++suf→suf.length<n→out.length+suf.length≤200000→
  CG F (d+3) n (zg l0 l1 out Q0 Q1 Q2 Q4 Q5 Q6 Q7 Q8 Q9 Q10 Q11 Q12 Q13 Q14 Q15 Q16 Q17 Q18 Q19 Q20 Q21 Q22 Q23 Q24 Q25 Q26 Q27 Q28 Q29 Q30 Q31 Q32 Q33 Q34 Q35 v2 v8 ((pre.length:Nat):Int))=some (.exit 2,(yl l0 l1 (out++bo C v8 suf) Q0 Q1 Q2 Q4 Q5 Q6 Q7 Q8 Q9 Q10 Q11 Q12 Q13 Q14 Q15 Q16 Q17 Q18 Q19 Q20 Q21 Q22 Q23 Q24 Q25 Q26 Q27 Q28 Q29 Q30 Q31 Q32 Q33 Q34 Q35 v2 v8)):=by
 have cg:∀w∈l1,ak w=0:=by
  intro w hw
  have:bl w=true:=List.all_eq_true.1 (Jw.1 (MR.1 hc).2.2.2.2.2).2 w (by rw[hC];exact hw)
  unfold ak dF
  rw[this]
  rfl
 intro suf
 induction suf with
 |nil=>
  intro pre out n hl hn ho
  obtain⟨n,rfl⟩:∃k,n=k+1:=⟨n-1,by omega⟩
  rw[ER,←hC]
  dsimp only
  rw[decide_eq_false (by rw[hl];simp:¬((pre.length:Nat):Int)<((l1.length:Nat):Int)),XV]
  simp[bo]
 |cons w suf ih=>
  intro pre out n hl hn ho
  obtain⟨n,rfl⟩:∃k,n=k+1:=⟨n-1,by omega⟩
  have ih':=fun o ho=>ih (pre++[w]) o n (by rw[hl];simp) (by simp at hn;omega) ho
  have hw0:=cg w (by rw[hl];simp)
  obtain⟨o1,o2⟩:=OB hc hw0 hd
  have f1:decide (((pre.length:Nat):Int)<((l1.length:Nat):Int))=true:=by rw[hl];exact dZ _ _ _
  have f3:decide (0+Int.toNat ((pre.length:Nat):Int)<l1.length)=true:=by rw[hl];exact di _ _ _
  have f4:∀z,List.getD l1 (0+Int.toNat ((pre.length:Nat):Int)) z=w:=by intro z;rw[hl];exact dX _ _ _ _
  have f5:IntKind.i64.wrap (((pre.length:Nat):Int)+1)=(((pre++[w]).length:Nat):Int):=cE (suf:=suf) (by rw[←hl];omega)
  have f6:Nat.ble out.length 1048576=true:=by simp at ho⊢;omega
  rw[ER,←hC]
  dsimp only
  rw[f1,eW,f3,f4,f5,show Bo C w v8=true from oY hc hw0 hd]
  simp only[eH,qh,f6,Bool.true_and,Bool.and_true,Bool.and_self,XU]
  rw[Qa,←o1]
  cases hw:(qk C w v8).is with
  |true=>
   simp only[XU]
   rw[o2 hw,ih' (out++[(bw C w v8).1]) (by simp at ho⊢;omega)]
   simp
  |false=>
   simp only[XV]
   exact ih' out (by simp at ho;omega)
theorem Oo (l0:List (Int)) (l1:List (ag)) (l3:List (Span)) (Q0 Q1 Q2 Q4 Q5 Q6 Q7 Q8 Q9 Q10 Q11 Q12 Q13 Q14 Q15 Q16 Q17 Q18 Q19 Q20 Q21 Q22 Q23 Q24 Q25 Q26 Q27 Q28 Q29 Q30 Q31 Q32 Q33 Q34:Int) (Q35:Bool) (v2 v8 v9:Int) (hg:(decide (l0.length≤1048576)&&(decide (l1.length≤1000)&&(decide (l3.length≤100000)&&(v9==0&&(af (⟨Q0,Q1,Q2,l0,⟨Q4,Q5,Q6,Q7,Q8,Q9,Q10⟩,Q11,Q12,⟨Q13,Q14,⟨Q15,Q16,Q17,Q18⟩,⟨Q19,Q20,Q21,Q22⟩⟩,⟨Q23,Q24,Q25,Q26,Q27,Q28,Q29,Q30,Q31,Q32,Q33,Q34⟩,Q35,l1⟩:Config)==0&&dw v8)))))=true):∃N d,CG N d N (zg l0 l1 l3 Q0 Q1 Q2 Q4 Q5 Q6 Q7 Q8 Q9 Q10 Q11 Q12 Q13 Q14 Q15 Q16 Q17 Q18 Q19 Q20 Q21 Q22 Q23 Q24 Q25 Q26 Q27 Q28 Q29 Q30 Q31 Q32 Q33 Q34 Q35 v2 v8 v9)=some (a7 Prod.mk [] (.exit 2) (yl l0 l1 (l3++bo (⟨Q0,Q1,Q2,l0,⟨Q4,Q5,Q6,Q7,Q8,Q9,Q10⟩,Q11,Q12,⟨Q13,Q14,⟨Q15,Q16,Q17,Q18⟩,⟨Q19,Q20,Q21,Q22⟩⟩,⟨Q23,Q24,Q25,Q26,Q27,Q28,Q29,Q30,Q31,Q32,Q33,Q34⟩,Q35,l1⟩:Config) v8 l1) Q0 Q1 Q2 Q4 Q5 Q6 Q7 Q8 Q9 Q10 Q11 Q12 Q13 Q14 Q15 Q16 Q17 Q18 Q19 Q20 Q21 Q22 Q23 Q24 Q25 Q26 Q27 Q28 Q29 Q30 Q31 Q32 Q33 Q34 Q35 v2 v8)):=by
 simp only[XR,beq_iff_eq,XT]at hg
 obtain⟨h0,h1,h2,rfl,h4,h5⟩:=hg
 exact⟨2000,3,TN l0 l1 l3 Q0 Q1 Q2 Q4 Q5 Q6 Q7 Q8 Q9 Q10 Q11 Q12 Q13 Q14 Q15 Q16 Q17 Q18 Q19 Q20 Q21 Q22 Q23 Q24 Q25 Q26 Q27 Q28 Q29 Q30 Q31 Q32 Q33 Q34 Q35 v2 v8 0 2000 0 _ rfl h1 h4 h5 l1 [] l3 2000 rfl (by omega) (by omega)⟩
theorem SW (l0:List (Int)) (l1:List (ag)) (l3:List (Span)) (Q0 Q1 Q2 Q4 Q5 Q6 Q7 Q8 Q9 Q10 Q11 Q12 Q13 Q14 Q15 Q16 Q17 Q18 Q19 Q20 Q21 Q22 Q23 Q24 Q25 Q26 Q27 Q28 Q29 Q30 Q31 Q32 Q33 Q34:Int) (Q35:Bool) (v2 v8:Int) (F d:Nat) (C:Config) (hC:C=(⟨Q0,Q1,Q2,l0,⟨Q4,Q5,Q6,Q7,Q8,Q9,Q10⟩,Q11,Q12,⟨Q13,Q14,⟨Q15,Q16,Q17,Q18⟩,⟨Q19,Q20,Q21,Q22⟩⟩,⟨Q23,Q24,Q25,Q26,Q27,Q28,Q29,Q30,Q31,Q32,Q33,Q34⟩,Q35,l1⟩:Config)) (h0:l0.length≤1048576) (h1:l1.length≤1000) (hc:af C=0) (hb:v2≤3651990):∀(k:Nat) (x:Int) (out:List Span) (n:Nat),(v2-x+1).toNat=k→402≤x→x≤3652100→out.length+k*1000≤100000→k<n→
  FH F (d+3) n (C5 l0 l1 out Q0 Q1 Q2 Q4 Q5 Q6 Q7 Q8 Q9 Q10 Q11 Q12 Q13 Q14 Q15 Q16 Q17 Q18 Q19 Q20 Q21 Q22 Q23 Q24 Q25 Q26 Q27 Q28 Q29 Q30 Q31 Q32 Q33 Q34 Q35 v2 x)=some (.exit 0,(xf l0 l1 (out++dH C k x) Q0 Q1 Q2 Q4 Q5 Q6 Q7 Q8 Q9 Q10 Q11 Q12 Q13 Q14 Q15 Q16 Q17 Q18 Q19 Q20 Q21 Q22 Q23 Q24 Q25 Q26 Q27 Q28 Q29 Q30 Q31 Q32 Q33 Q34 Q35)):=by
 intro k
 induction k with
 |zero=>
  intro x out n hk h2 h3 ho hn
  obtain⟨n,rfl⟩:∃k,n=k+1:=⟨n-1,by omega⟩
  rw[zy,←hC]
  dsimp only
  rw[decide_eq_false (by omega:¬x≤v2),XV]
  simp[dH]
 |succ k ih=>
  intro x out n hk h2 h3 ho hn
  obtain⟨n,rfl⟩:∃k,n=k+1:=⟨n-1,by omega⟩
  have hw:=qa C x l1
  have hcw:C.ae=l1:=by rw[hC]
  have g1:decide (l0.length≤1048576)=true:=decide_eq_true h0
  have g2:decide (l1.length≤1000)=true:=decide_eq_true h1
  have g3:decide (out.length≤100000)=true:=decide_eq_true (by omega)
  rw[zy,←hC]
  dsimp only
  rw[decide_eq_true (by omega:x≤v2),g1,g2,g3,wrI (n:=x+1) (by omega),hc,(iR x).2 (by omega)]
  simp only[eH,beq_self_eq_true,Bool.true_and,Bool.and_true,Bool.and_self,XU]
  rw[ih (x+1) (out++bo C x l1) n (by omega) (by omega) (by omega) (by rw[List.length_append];omega) (by omega)]
  simp only[dH,hcw,List.append_assoc]
theorem NP (l0:List (Int)) (l1:List (ag)) (l3:List (Span)) (Q0 Q1 Q2 Q4 Q5 Q6 Q7 Q8 Q9 Q10 Q11 Q12 Q13 Q14 Q15 Q16 Q17 Q18 Q19 Q20 Q21 Q22 Q23 Q24 Q25 Q26 Q27 Q28 Q29 Q30 Q31 Q32 Q33 Q34:Int) (Q35:Bool) (v2 v8:Int) (hg:(decide (l0.length≤1048576)&&(decide (l1.length≤1000)&&(l3.length==0&&(eu v8 v2&&af (⟨Q0,Q1,Q2,l0,⟨Q4,Q5,Q6,Q7,Q8,Q9,Q10⟩,Q11,Q12,⟨Q13,Q14,⟨Q15,Q16,Q17,Q18⟩,⟨Q19,Q20,Q21,Q22⟩⟩,⟨Q23,Q24,Q25,Q26,Q27,Q28,Q29,Q30,Q31,Q32,Q33,Q34⟩,Q35,l1⟩:Config)==0))))=true):∃N d,FH N d N (C5 l0 l1 l3 Q0 Q1 Q2 Q4 Q5 Q6 Q7 Q8 Q9 Q10 Q11 Q12 Q13 Q14 Q15 Q16 Q17 Q18 Q19 Q20 Q21 Q22 Q23 Q24 Q25 Q26 Q27 Q28 Q29 Q30 Q31 Q32 Q33 Q34 Q35 v2 v8)=some (a7 Prod.mk [] (.exit 0) (xf l0 l1 (dH (⟨Q0,Q1,Q2,l0,⟨Q4,Q5,Q6,Q7,Q8,Q9,Q10⟩,Q11,Q12,⟨Q13,Q14,⟨Q15,Q16,Q17,Q18⟩,⟨Q19,Q20,Q21,Q22⟩⟩,⟨Q23,Q24,Q25,Q26,Q27,Q28,Q29,Q30,Q31,Q32,Q33,Q34⟩,Q35,l1⟩:Config) (v2-v8+1).toNat v8) Q0 Q1 Q2 Q4 Q5 Q6 Q7 Q8 Q9 Q10 Q11 Q12 Q13 Q14 Q15 Q16 Q17 Q18 Q19 Q20 Q21 Q22 Q23 Q24 Q25 Q26 Q27 Q28 Q29 Q30 Q31 Q32 Q33 Q34 Q35)):=by
 simp only[XR,beq_iff_eq,XT,eu]at hg
 obtain⟨h0,h1,h2,⟨h3,h4,h5⟩,h6⟩:=hg
 have hl:l3=[]:=List.eq_nil_of_length_eq_zero h2
 subst hl
 refine⟨40,3,?_⟩
 by_cases hx:v8≤3652100
 ·have:=SW l0 l1 [] Q0 Q1 Q2 Q4 Q5 Q6 Q7 Q8 Q9 Q10 Q11 Q12 Q13 Q14 Q15 Q16 Q17 Q18 Q19 Q20 Q21 Q22 Q23 Q24 Q25 Q26 Q27 Q28 Q29 Q30 Q31 Q32 Q33 Q34 Q35 v2 v8 40 0 _ rfl h0 h1 h6 h4 (v2-v8+1).toNat v8 [] 40 rfl h3 hx (by simp only[List.length_nil];omega) (by omega)
  rw[List.nil_append]at this
  exact this
 ·have hz:(v2-v8+1).toNat=0:=by omega
  rw[hz]
  rw[zy]
  dsimp only
  rw[decide_eq_false (by omega:¬v8≤v2)]
  rfl
theorem sI (a0:Config) (a1:Int) (a2:Int) (hg:oL a0 a1 a2=true):∃F d,kd Pw F d 17 Tryz.f17 gG gJ (a0,a1,a2,())=some (cH a0 a1 a2):=by
 refine⟨200,6,?_⟩
 rw[qL]
 have hg':aX a0=true∧af a0=0∧eu a1 a2=true:=by simpa only[oL,XR,beq_iff_eq]using hg
 obtain⟨hs,hc,hf⟩:=hg'
 have hw:=GZ hc
 have hs':decide (a0.stops.length≤1048576)=true:=by
  simp only[aX,XR]at hs
  exact hs.1
 rw[hs',decide_eq_true (by omega:a0.ae.length≤1000),hf,hc]
 simp only[eH,beq_self_eq_true,Bool.and_self,Bool.true_and,Bool.and_true,XU]
 rfl
theorem Tr (l0 l1:List (Span)) (v5:Int) (F d:Nat):∀(suf sug pre:List Span) (n:Nat),suf.length<n→(pre++suf).length≤1048576→suf.length=sug.length→
  FQ F (d+3) n (Cy (pre++suf) (pre++sug) ((pre.length:Nat):Int))=cond (dB suf sug) (some (.exit 0,(xY (pre++suf) (pre++sug)))) (some (.ret,(xn (pre++suf) (pre++sug)))):=by
 intro suf
 induction suf with
 |nil=>
  intro sug pre n hn hl he
  obtain⟨n,rfl⟩:∃k,n=k+1:=⟨n-1,by omega⟩
  have:sug=[]:=List.length_eq_zero_iff.1 he.symm
  subst this
  rw[E2,dP,XV]
  rfl
 |cons x suf ih=>
  intro sug pre n hn hl he
  obtain⟨n,rfl⟩:∃k,n=k+1:=⟨n-1,by omega⟩
  obtain⟨y,sug,rfl⟩:∃y s,sug=y::s:=by
   cases sug with
   |nil=>simp at he
   |cons y s=>exact⟨y,s,rfl⟩
  have ih':=ih sug (pre++[x]) n (by simp at hn;omega) (by simpa using hl) (by simpa using he)
  rw[E2]
  simp only[dZ,eW,Bool.and_self,XU,di,dX,cE hl,Vi]
  rw[←cD,←cD]at ih'
  by_cases hxy:x=y
  ·subst hxy
   simp only[decide_true,Bool.not_true,XV]
   rw[ih']
   simp[dB]
  ·simp only[hxy,decide_false,Bool.not_false,XU]
   simp[dB,hxy]
theorem N9 (l0 l1:List (Span)) (v5:Int) (hg:(decide (l0.length≤1048576)&&(l0.length==l1.length&&v5==0))=true):∃N d,FQ N d N (Cy l0 l1 v5)=some (a7 Prod.mk [(dB l0 l1, .exit 0,(xY l0 l1))] (.ret) (xn l0 l1)):=by
 simp only[XR,XT,beq_iff_eq]at hg
 obtain⟨h1,h2,rfl⟩:=hg
 have:=Tr l0 l1 0 (l0.length+3) 0 l0 l1 [] (l0.length+3) (by omega) (by simpa using h1) h2
 refine⟨l0.length+3,3,?_⟩
 simp only[List.nil_append,List.length_nil]at this
 rw[show((0:Nat):Int)=0 from rfl]at this
 rw[this]
 cases h:dB l0 l1<;>simp[a7,h]
theorem u7 (a0:List Span) (a1:List Span) (hg:eY a0 a1=true):∃F d,run P7 F d 16 Tryz.f16 iU (a0,a1,())=some (iu.enc (dB a0 a1)):=by
 refine⟨200,6,?_⟩
 rw[ru]
 simp only[eY,XT]at hg
 simp only[iu,Res.bool,eH,qh,Bool.true_and,Bool.and_true,Bool.and_self,XU,XV,bn,cC,hg,decide_true]
 by_cases h:a0.length=a1.length
 ·simp[h,dB]
  by_cases e:a0=a1<;>simp[e]
 ·have:a0≠a1:=fun e=>h (by rw[e])
  have hb:(((a0.length:Nat):Int) != ((a1.length:Nat):Int))=true:=by simp;omega
  rw[hb]
  simp[dB,this]
theorem SL (l0 l1:List (Span)) (v1 v2 v8:Int) (F d:Nat):∀(suf pre out:List Span) (n:Nat),suf.length<n→(pre++suf).length≤1048576→out.length≤pre.length→
  mj F (d+3) n (kJ (pre++suf) out v1 v2 ((pre.length:Nat):Int))=some (.exit 0,(yu (pre++suf) (out++dY suf v1 v2))):=by
 intro suf
 induction suf with
 |nil=>
  intro pre out n hn hl ho
  obtain⟨n,rfl⟩:∃k,n=k+1:=⟨n-1,by omega⟩
  rw[Fh,dP,XV]
  simp[dY]
 |cons x suf ih=>
  intro pre out n hn hl ho
  obtain⟨n,rfl⟩:∃k,n=k+1:=⟨n-1,by omega⟩
  have ih':=fun o ho=>ih (pre++[x]) o n (by simp at hn;omega) (by simpa using hl) ho
  rw[Fh]
  have hol:Nat.ble out.length 1048576=true:=by simp at hl⊢;omega
  simp only[dZ,eW,Bool.and_self,XU,di,dX,cE hl,eH,hol,Bool.true_and,Bool.and_true]
  rw[←cD]at ih'
  conv=>rhs;unfold dY
  have e1:decide (x.from_<v1)=decide (v1>x.from_):=rfl
  have e2:decide (x.to_>v2)=decide (v2<x.to_):=rfl
  rw[e1]
  simp only[e2]
  have iht:=ih' (out++[fo x v1 v2]) (by simp;omega)
  have ihf:=ih' out (by simp;omega)
  simp only[fo]at iht⊢
  by_cases h1:v1>x.from_<;>by_cases h2:v2<x.to_<;>simp only[h1,h2,decide_true,decide_false,XU,XV]at iht⊢
  ·by_cases h3:v1<v2<;>simp only[h3,decide_true,decide_false,XU,XV]
   ·refine iht.trans ?_;simp
   ·exact ihf
  ·by_cases h3:v1<x.to_<;>simp only[h3,decide_true,decide_false,XU,XV]
   ·refine iht.trans ?_;simp
   ·exact ihf
  ·by_cases h3:x.from_<v2<;>simp only[h3,decide_true,decide_false,XU,XV]
   ·refine iht.trans ?_;simp
   ·exact ihf
  ·by_cases h3:x.from_<x.to_<;>simp only[h3,decide_true,decide_false,XU,XV]
   ·refine iht.trans ?_;simp
   ·exact ihf
theorem MY (l0 l1:List (Span)) (v1 v2 v8:Int) (hg:(decide (l0.length≤1048576)&&(v8==0&&l1.length==0))=true):∃N d,mj N d N (kJ l0 l1 v1 v2 v8)=some (a7 Prod.mk [] (.exit 0) (yu l0 (dY l0 v1 v2))):=by
 simp only[XR,XT,beq_iff_eq]at hg
 obtain⟨h1,rfl,h4⟩:=hg
 have h5:l1=[]:=List.length_eq_zero_iff.1 h4
 subst h5
 have:=SL l0 [] v1 v2 0 (l0.length+3) 0 l0 [] [] (l0.length+3) (by omega) (by simpa using h1) (by simp)
 exact⟨l0.length+3,3,by simpa[a7]using this⟩
theorem vX (a0:List Span) (a1:Int) (a2:Int) (hg:dS a0 a1 a2=true):∃F d,kd R8 F d 38 Tryz.f38 jy jo (a0,a1,a2,())=some (dY a0 a1 a2):=by
 refine⟨200,6,?_⟩
 rw[uL]
 simp only[dS,cR,XT]at hg
 simp only[eH,hg,decide_true,Bool.true_and,Bool.and_true,Bool.and_self,beq_self_eq_true,XU]
theorem uz (a0:Int) (a1:Int):∃F d,run PI F d 15 Tryz.f15 hZ (a0,a1,())=some (mI.enc (fG a0 a1)):=by
 refine⟨200,6,?_⟩
 rw[rI]
 have e:(bif bif bif decide (a0≥402)then decide (a1≤3651990)else false then decide (a0≤a1)else false then decide (IntKind.i64.wrap (a1-a0)≤30)else false)=fG a0 a1:=by
  unfold fG
  by_cases h1:402≤a0
  ·by_cases h2:a1≤3651990
   ·by_cases h3:a0≤a1
    ·rw[wrI (n:=a1-a0) (by omega)]
     simp[h1,h2,h3]
    ·simp[h1,h2,h3]
   ·simp[h1,h2]
  ·simp[h1]
 rw[e]
 rfl
theorem wi (a0:Config) (a1:Int) (hg:sw a0 a1=true):∃F d,kd PD F d 18 Tryz.f18 jE jB (a0,a1,())=some (iX a0 a1):=by
 refine⟨200,6,?_⟩
 rw[uo]
 have hg':aX a0=true∧af a0=0∧(411≤a1∧a1≤3651988):=by simpa only[sw,XR,beq_iff_eq,XT]using hg
 obtain⟨hs,hc,h1,h2⟩:=hg'
 have hz:=(cW hc).1
 obtain⟨r1,r2,r3,r4,_⟩:=FC hc h1 h2
 rw[wrI (n:=a1-9) (by omega),wrI (n:=a1+1) (by omega)]
 rw[show oL a0 (a1-9) (a1+1)=true by simp only[oL,hs,hc,eu,beq_self_eq_true,Bool.true_and,XR,XT];omega]
 rw[show zx (cH a0 (a1-9) (a1+1))=true by simp only[zx,XT];omega]
 rw[show dS (uB (cH a0 (a1-9) (a1+1))) (oJ a0.aK a1 0) (oJ a0.aK (a1+1) 0)=true by simp only[dS,cR,XT];omega]
 rw[show kH a0.aK a1 0=true by simp only[kH,hz,r3,beq_self_eq_true,Bool.and_self],show kH a0.aK (a1+1) 0=true by simp only[kH,hz,r4,beq_self_eq_true,Bool.and_self]]
 simp only[eH,qh,Bool.true_and,Bool.and_true,Bool.and_self,XU]
 rfl
end Go.Proofs.YtfhepbbkggdlcaaGreatDoor.Px.PxT


namespace Go.Proofs.YtfhepbbkggdlcaaGreatDoor.Px.PxT
open Go Go.Proofs
theorem zW (l:List Span):dB l l=true:=decide_eq_true rfl
theorem nI (a0:Config) (a1:Int) (a2:Int):∃F d,run S3 F d 3 Tryz.f3 cj (a0,a1,a2,())=some (AV.bool true):=by
 refine⟨200,6,?_⟩
 rw[mu]
 simp only[eH,qh,Bool.true_and,Bool.and_true,Bool.and_self,XU]
 cases hf:DC a0 with
 |false=>rfl
 |true=>
  have hs:=NX hf
  rw[hs,GJ,show tE a0 a1=true from hs,show tC a0 a1 a2=true from hs]
  simp only[Bool.not_true,XV,XU]
  cases hc:af a0 != 0 with
  |true=>
   rw[show aY a0 a1=([],af a0) by unfold aY;rw[hc];rfl,show bh a0 a1 a2=([],af a0) by unfold bh;rw[hc];rfl]
   simp only[XU,beq_self_eq_true,List.length_nil]
   rfl
  |false=>
   have hc0:af a0=0:=by simpa using hc
   have row:(decide (a1<411)||decide (a1>3651988))=false→sw a0 a1=true∧aY a0 a1=(iX a0 a1,0)∧(iX a0 a1).length≤1000:=by
    intro h
    simp only[Bool.or_eq_false_iff,decide_eq_false_iff_not]at h
    obtain⟨r1,r2,r3,r4,r5⟩:=FC hc0 (by omega:411≤a1) (by omega)
    exact⟨by simp only[sw,hs,hc0,beq_self_eq_true,Bool.true_and,XR,XT];omega,r5,Nat.le_trans (Ai _ _ _) r2⟩
   have far:(decide (a1<411)||decide (a1>3651988))=true→aY a0 a1=([],140):=by
    intro h
    unfold aY
    rw[hc,h]
    rfl
   have orc:∀a b:Bool,(bif a then true else b)=(a||b):=fun a b=>by cases a<;>rfl
   simp only[orc]
   cases hd:fG a1 a2 with
   |true=>
    have e:bh a0 a1 a2=(cH a0 a1 a2,0):=by unfold bh;rw[hc,hd];rfl
    have hl:=pG a0 a1 a2
    obtain⟨d1,d2,d3,d4⟩:=FZ hd
    rw[show oL a0 a1 a2=true by simp only[oL,hs,hc0,eu,beq_self_eq_true,Bool.true_and,XR,XT];omega]
    rw[e]at hl⊢
    rw[show eY (cH a0 a1 a2) (cH a0 a1 a2)=true by simp only[eY,XT];simp only at hl;omega,zW]
    cases hr:(decide (a1<411)||decide (a1>3651988))with
    |true=>rw[far hr];rfl
    |false=>
     obtain⟨q1,q2,q3⟩:=row hr
     rw[q1,q2,show eY (iX a0 a1) (iX a0 a1)=true by simp only[eY,XT];omega,zW]
     rfl
   |false=>
    have e:bh a0 a1 a2=([],140):=by unfold bh;rw[hc,hd];rfl
    rw[e]
    cases hr:(decide (a1<411)||decide (a1>3651988))with
    |true=>rw[far hr];rfl
    |false=>
     obtain⟨q1,q2,q3⟩:=row hr
     rw[q1,q2,show eY (iX a0 a1) (iX a0 a1)=true by simp only[eY,XT];omega,zW]
     rfl
end Go.Proofs.YtfhepbbkggdlcaaGreatDoor.Px.PxT
