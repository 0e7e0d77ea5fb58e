/- Spans: the functions and loops are what is said of them. -/
import Derived.Test.YtdadgkgkdgnihaaPxVSteps
import Derived.Test.YtdadgkgkdgnihaaPxSpecSpan2
set_option linter.unusedVariables false
set_option linter.unusedSimpArgs false
namespace Go.Proofs.Ytdadgkgkdgnihaa.Px.PxV
open Go Go.Proofs
theorem mO (a0:Span) (a1:Int):∃F d,run k0 F d 29 Try.f29 fS (a0,a1,())=some (jA.enc (inS a0 a1)):=by
 refine⟨200,6,?_⟩
 rw[lW,cu]
 rfl
theorem wJ (a0:Span) (a1:Span):∃F d,run k1 F d 33 Try.f33 qN (a0,a1,())=some (uR.enc (dA a0 a1)):=by
 refine⟨200,6,?_⟩
 rw[tv,cu,iO]
 rfl
theorem kd (a0:List Span) (hg:aE a0=true):∃F d,mQ k2 F d 11 Try.f11 dS dI (a0,())=some (Bm a0):=by
 refine⟨200,6,?_⟩
 rw[jt]
 simp only[aE,B3]at hg
 have:Nat.ble a0.length 1048576=true:=by simpa using hg
 simp only[eU,this,Bool.and_self,B4]
 rfl
theorem zo (l0 l1:List (Span)) (v5:Int) (F d:Nat):∀(suf sug pre:List Span) (n:Nat),suf.length<n→(pre++suf).length≤1048576→suf.length=sug.length→
  ql F (d+3) n (nV (pre++suf) (pre++sug) ((pre.length:Nat):Int))=cond (bK suf sug) (some (.exit 0,(kC (pre++suf) (pre++sug)))) (some (.ret,(kE (pre++suf) (pre++sug)))):=by
 intro suf
 induction suf with
 |nil=>
  intro sug pre n hn hl he
  obtain⟨n,rfl⟩:∃k,n=k+1:=⟨n-1,by omega⟩
  have:sug=[]:=List.length_eq_zero_iff.1 he.symm
  subst this
  rw[pS,bu,B5]
  rfl
 |cons x suf ih=>
  intro sug pre n hn hl he
  obtain⟨n,rfl⟩:∃k,n=k+1:=⟨n-1,by omega⟩
  obtain⟨y,sug,rfl⟩:∃y s,sug=y::s:=by
   cases sug with
   |nil=>simp at he
   |cons y s=>exact⟨y,s,rfl⟩
  have ih':=ih sug (pre++[x]) n (by simp at hn;omega) (by simpa using hl) (by simpa using he)
  rw[pS]
  simp only[bU,bX,Bool.and_self,B4,br,bT,bb hl,Aa]
  rw[←bq,←bq]at ih'
  by_cases hxy:x=y
  ·subst hxy
   simp only[decide_true,Bool.not_true,B5]
   rw[ih']
   simp[bK]
  ·simp only[hxy,decide_false,Bool.not_false,B4]
   simp[bK,hxy]
theorem vT (l0 l1:List (Span)) (v5:Int) (hg:(decide (l0.length≤1048576)&&(l0.length==l1.length&&v5==0))=true):∃N d,ql N d N (nV l0 l1 v5)=some (aQ Prod.mk [(bK l0 l1, .exit 0,(kC l0 l1))] (.ret) (kE l0 l1)):=by
 simp only[B1,B3,beq_iff_eq]at hg
 obtain⟨h1,h2,rfl⟩:=hg
 have:=zo l0 l1 0 (l0.length+3) 0 l0 l1 [] (l0.length+3) (by omega) (by simpa using h1) h2
 refine⟨l0.length+3,3,?_⟩
 simp only[List.nil_append,List.length_nil]at this
 rw[show((0:Nat):Int)=0 from rfl]at this
 rw[this]
 cases h:bK l0 l1<;>simp[aQ,h]
theorem jw (a0:List Span) (a1:List Span) (hg:eD a0 a1=true):∃F d,run k4 F d 13 Try.f13 dj (a0,a1,())=some (dp.enc (bK a0 a1)):=by
 refine⟨200,6,?_⟩
 rw[iB]
 simp only[eD,B3]at hg
 simp only[dp,Res.bool,eU,sx,Bool.true_and,Bool.and_true,Bool.and_self,B4,B5,cu,iO,hg,decide_true]
 by_cases h:a0.length=a1.length
 ·simp[h,bK]
  by_cases e:a0=a1<;>simp[e]
 ·have:a0≠a1:=fun e=>h (by rw[e])
  have hb:(((a0.length:Nat):Int) != ((a1.length:Nat):Int))=true:=by simp;omega
  rw[hb]
  simp[bK,this]
theorem vZ (l0:List (Span)) (v1 v5 v10 v11:Int) (F d:Nat):∀(suf pre:List Span) (best:Int) (n:Nat),suf.length<n→(pre++suf).length≤1048576→ -1≤best→best<(pre.length:Int)→
  im F (d+3) n (gi (pre++suf) v1 best (((pre++suf).length:Nat):Int) ((pre.length:Nat):Int))=some (.exit 0,(gu (pre++suf) (wGo (pre++suf) v1 suf ((pre.length:Nat):Int) best))):=by
 intro suf
 induction suf with
 |nil=>
  intro pre best n hn hl h1 h2
  obtain⟨n,rfl⟩:∃k,n=k+1:=⟨n-1,by omega⟩
  rw[mq,bu,B5]
  rfl
 |cons x suf ih=>
  intro pre best n hn hl h1 h2
  obtain⟨n,rfl⟩:∃k,n=k+1:=⟨n-1,by omega⟩
  have ih':=fun b h1 h2=>ih (pre++[x]) b n (by simp at hn;omega) (by simpa using hl) h1 h2
  rw[mq]
  simp only[bU,bX,Bool.and_self,B4,br,bT,bb hl]
  rw[←bq]at ih'
  have g1:(decide (0≤best)&&decide (best<(((pre++x::suf).length:Nat):Int))|| !(inS x v1&& !decide (best<0)))=true:=by
   by_cases h:best<0
   ·simp[h]
   ·have:0≤best∧best<(((pre++x::suf).length:Nat):Int):=⟨by omega,by simp;omega⟩
    simp only[this.1,this.2,decide_true,Bool.and_self,Bool.true_or]
  have g2:(decide (0+Int.toNat best<(pre++x::suf).length)|| !(inS x v1&& !decide (best<0)))=true:=by
   by_cases h:best<0
   ·simp[h]
   ·have:0+best.toNat<(pre++x::suf).length:=by simp;omega
    simp only[this,decide_true,Bool.true_or]
  rw[g1,B4,g2,B4]
  conv=>rhs;unfold wGo
  simp only[cu,iO,Nat.zero_add]
  have es:(⟨0,0,0,0⟩:Span)=bt:=rfl
  simp only[es]
  have e3:(((pre++[x]).length:Nat):Int)=((pre.length:Nat):Int)+1:=by simp
  cases (inS x v1&&(decide (best<0)|| !dA x (List.getD (pre++x::suf) best.toNat bt)))
  ·rw[B5,B5,ih' best h1 (by rw[e3];omega),e3]
  ·rw[B4,B4,ih' _ (by omega) (by rw[e3];omega),e3]
theorem sA (l0:List (Span)) (v1 v5 v10 v11:Int) (hg:(decide (l0.length≤1048576)&&(v10==(l0.length:Int)&&(v11==0&&v5== -1)))=true):∃N d,im N d N (gi l0 v1 v5 v10 v11)=some (aQ Prod.mk [] (.exit 0) (gu l0 (ag l0 v1))):=by
 simp only[B1,B3,beq_iff_eq]at hg
 obtain⟨h1,rfl,rfl,rfl⟩:=hg
 have:=vZ l0 v1 (-1) 0 0 (l0.length+3) 0 l0 [] (-1) (l0.length+3) (by omega) (by simpa using h1) (by omega) (by simp)
 exact⟨l0.length+3,3,by simpa[aQ,ag]using this⟩
theorem jy (a0:List Span) (a1:Int) (hg:aL a0 a1=true):∃F d,run k6 F d 23 Try.f23 dm (a0,a1,())=some (fC.enc (ag a0 a1)):=by
 refine⟨200,6,?_⟩
 rw[iR]
 simp only[aL,aE,B3]at hg
 simp only[eU,hg,decide_true,Bool.true_and,Bool.and_true,Bool.and_self,beq_self_eq_true,B4]
 rfl
theorem yY (l0:List (Span)) (P0 Q0 Q1 Q2 Q3 v7 v8:Int) (F d:Nat):∀(suf pre:List Span) (n:Nat),suf.length<n→(pre++suf).length≤1048576→
  qy F (d+3) n (nP (pre++suf) P0 Q0 Q1 Q2 Q3 (((pre++suf).length:Nat):Int) ((pre.length:Nat):Int))=cond (!c7 suf P0) (some (.exit 0,(ku (pre++suf) P0 Q0 Q1 Q2 Q3))) (some (.ret,(kS (pre++suf) P0 Q0 Q1 Q2 Q3 ((pre.length+suf.findIdx (fun s=>inS s P0):Nat):Int)))):=by
 intro suf
 induction suf with
 |nil=>
  intro pre n hn hl
  obtain⟨n,rfl⟩:∃k,n=k+1:=⟨n-1,by omega⟩
  rw[pH,bu,B5]
  rfl
 |cons x suf ih=>
  intro pre n hn hl
  obtain⟨n,rfl⟩:∃k,n=k+1:=⟨n-1,by omega⟩
  have ih':=ih (pre++[x]) n (by simp at hn;omega) (by simpa using hl)
  rw[pH]
  simp only[bU,bX,Bool.and_self,B4,br,bT,bb hl]
  rw[←bq]at ih'
  cases hw:inS x P0
  ·rw[B5,ih']
   simp only[c7,List.any_cons,hw,Bool.false_or,List.findIdx_cons,B5,List.length_append,List.length_singleton]
   rw[show pre.length+1+suf.findIdx (fun s=>inS s P0)=pre.length+(suf.findIdx (fun s=>inS s P0)+1) by omega]
  ·simp[c7,hw,List.findIdx_cons]
theorem wy (l0:List (Span)) (P0 Q0 Q1 Q2 Q3 v7 v8:Int) (hg:(decide (l0.length≤1048576)&&(v7==(l0.length:Int)&&v8==0))=true):∃N d,qy N d N (nP l0 P0 Q0 Q1 Q2 Q3 v7 v8)=some (aQ Prod.mk [(!c7 l0 P0, .exit 0,(ku l0 P0 Q0 Q1 Q2 Q3))] (.ret) (kS l0 P0 Q0 Q1 Q2 Q3 (atIdx l0 P0))):=by
 simp only[B1,B3,beq_iff_eq]at hg
 obtain⟨h1,rfl,rfl⟩:=hg
 have:=yY l0 P0 Q0 Q1 Q2 Q3 0 0 (l0.length+3) 0 l0 [] (l0.length+3) (by omega) (by simpa using h1)
 refine⟨l0.length+3,3,?_⟩
 simp only[List.nil_append,List.length_nil,Nat.zero_add]at this
 rw[show((0:Nat):Int)=0 from rfl]at this
 rw[this]
 cases h:c7 l0 P0<;>simp[aQ,h,atIdx]
theorem q7 (a0:List Span) (a1:Int) (h:c7 a0 a1=true):a0.getD (0+Int.toNat (atIdx a0 a1)) {from_:=0,to_:=0,mode:=0,prio:=0}=(fX a0 a1).1∧(fX a0 a1).2=true:=by
 simp[fX,h,bt]
theorem rk (a0:List Span) (a1:Int) (hg:aL a0 a1=true):∃F d,run k8 F d 15 Try.f15 l5 (a0,a1,())=some (pC.enc (fX a0 a1)):=by
 refine⟨200,6,?_⟩
 rw[pW]
 simp only[aL,aE,B3]at hg
 simp only[eU,hg,decide_true,Bool.true_and,Bool.and_true,Bool.and_self,beq_self_eq_true,B4]
 cases h:c7 a0 a1
 ·simp only[Bool.not_false,B4]
  simp only[fX,h,B5]
  rfl
 ·obtain⟨h1,h2⟩:=xm h
  have e2:0+(atIdx a0 a1).toNat<a0.length:=by omega
  simp only[Bool.not_true,B5,h2,e2,decide_true,B4,(q7 a0 a1 h).1]
  rw[show fX a0 a1=((fX a0 a1).1,true) from Prod.ext rfl (q7 a0 a1 h).2]
  rfl
theorem Af (l0:List (Span)) (P0 P1 P2 P3 v1 v6:Int) (F d:Nat):∀(suf pre:List Span) (n:Nat),suf.length<n→(pre++suf).length≤1048576→
  u6 F (d+3) n (rD (pre++suf) P0 P1 P2 P3 v1 ((pre.length:Nat):Int))=cond (!c7 suf v1) (some (.exit 0,(ny (pre++suf) P0 P1 P2 P3))) (some (.ret,(nu (pre++suf) ((pre.length+suf.findIdx (fun s=>inS s v1):Nat):Int)))):=by
 intro suf
 induction suf with
 |nil=>
  intro pre n hn hl
  obtain⟨n,rfl⟩:∃k,n=k+1:=⟨n-1,by omega⟩
  rw[sa,bu,B5]
  rfl
 |cons x suf ih=>
  intro pre n hn hl
  obtain⟨n,rfl⟩:∃k,n=k+1:=⟨n-1,by omega⟩
  have ih':=ih (pre++[x]) n (by simp at hn;omega) (by simpa using hl)
  rw[sa]
  simp only[bU,bX,Bool.and_self,B4,br,bT,bb hl,Bool.true_or,cu]
  rw[←bq]at ih'
  have hi:(decide (v1≥x.from_)&&decide (v1<x.to_))=inS x v1:=rfl
  rw[hi]
  cases hw:inS x v1
  ·rw[B5,ih']
   simp only[c7,List.any_cons,hw,Bool.false_or,List.findIdx_cons,B5,List.length_append,List.length_singleton]
   rw[show pre.length+1+suf.findIdx (fun s=>inS s v1)=pre.length+(suf.findIdx (fun s=>inS s v1)+1) by omega]
  ·simp[c7,hw,List.findIdx_cons]
theorem xF (l0:List (Span)) (P0 P1 P2 P3 v1 v6:Int) (hg:(decide (l0.length≤1048576)&&v6==0)=true):∃N d,u6 N d N (rD l0 P0 P1 P2 P3 v1 v6)=some (aQ Prod.mk [(!c7 l0 v1, .exit 0,(ny l0 P0 P1 P2 P3))] (.ret) (nu l0 (atIdx l0 v1))):=by
 simp only[B1,B3,beq_iff_eq]at hg
 obtain⟨h1,rfl⟩:=hg
 have:=Af l0 P0 P1 P2 P3 v1 0 (l0.length+3) 0 l0 [] (l0.length+3) (by omega) (by simpa using h1)
 refine⟨l0.length+3,3,?_⟩
 simp only[List.nil_append,List.length_nil,Nat.zero_add]at this
 rw[show((0:Nat):Int)=0 from rfl]at this
 rw[this]
 cases h:c7 l0 v1<;>simp[aQ,h,atIdx]
theorem kI (a0:List Span) (a1:Int) (hg:aL a0 a1=true):∃F d,run k10 F d 16 Try.f16 ez (a0,a1,())=some (gX.enc (fX a0 a1)):=by
 refine⟨200,6,?_⟩
 rw[jU]
 simp only[aL,aE,B3]at hg
 simp only[eU,hg,decide_true,Bool.true_and,Bool.and_true,Bool.and_self,beq_self_eq_true,B4]
 cases h:c7 a0 a1
 ·simp only[Bool.not_false,B4]
  simp only[fX,h,B5]
  rfl
 ·simp only[Bool.not_true,B5,(q7 a0 a1 h).1]
  rw[show fX a0 a1=((fX a0 a1).1,true) from Prod.ext rfl (q7 a0 a1 h).2]
  rfl
theorem Ak (l0 l1:List (Span)) (v1 v2 v11 v12:Int) (F d:Nat):∀(suf pre out:List Span) (n:Nat),suf.length<n→(pre++suf).length≤1048576→out.length≤pre.length→
  rP F (d+3) n (py (pre++suf) out v1 v2 (((pre++suf).length:Nat):Int) ((pre.length:Nat):Int))=some (.exit 0,(nC (pre++suf) (out++bP suf v1 v2))):=by
 intro suf
 induction suf with
 |nil=>
  intro pre out n hn hl ho
  obtain⟨n,rfl⟩:∃k,n=k+1:=⟨n-1,by omega⟩
  rw[si,bu,B5]
  simp[bP]
 |cons x suf ih=>
  intro pre out n hn hl ho
  obtain⟨n,rfl⟩:∃k,n=k+1:=⟨n-1,by omega⟩
  have ih':=fun o ho=>ih (pre++[x]) o n (by simp at hn;omega) (by simpa using hl) ho
  rw[si]
  have hol:Nat.ble out.length 1048576=true:=by simp at hl⊢;omega
  simp only[bU,bX,Bool.and_self,B4,br,bT,bb hl,eU,hol,Bool.true_and,Bool.and_true]
  rw[←bq]at ih'
  conv=>rhs;unfold bP
  have hc:(⟨bif decide (v1>x.from_)then v1 else x.from_,bif decide (v2<x.to_)then v2 else x.to_,x.mode,x.prio⟩:Span)=bO x v1 v2:=rfl
  have hd:(decide ((bif decide (v1>x.from_)then v1 else x.from_)<bif decide (v2<x.to_)then v2 else x.to_))=decide ((bO x v1 v2).from_<(bO x v1 v2).to_):=rfl
  rw[hc,hd]
  cases decide ((bO x v1 v2).from_<(bO x v1 v2).to_)
  ·rw[B5,B5,ih' out (by simp;omega)]
  ·rw[B4,B4,ih' (out++[bO x v1 v2]) (by simp;omega)]
   simp
theorem w6 (l0 l1:List (Span)) (v1 v2 v11 v12:Int) (hg:(decide (l0.length≤1048576)&&(v11==(l0.length:Int)&&(v12==0&&l1.length==0)))=true):∃N d,rP N d N (py l0 l1 v1 v2 v11 v12)=some (aQ Prod.mk [] (.exit 0) (nC l0 (bP l0 v1 v2))):=by
 simp only[B1,B3,beq_iff_eq]at hg
 obtain⟨h1,rfl,rfl,h4⟩:=hg
 have h5:l1=[]:=List.length_eq_zero_iff.1 h4
 subst h5
 have:=Ak l0 [] v1 v2 0 0 (l0.length+3) 0 l0 [] [] (l0.length+3) (by omega) (by simpa using h1) (by simp)
 exact⟨l0.length+3,3,by simpa[aQ]using this⟩
theorem pX (a0:List Span) (a1:Int) (a2:Int) (hg:cj a0 a1 a2=true):∃F d,mQ k12 F d 17 Try.f17 jP jQ (a0,a1,a2,())=some (bP a0 a1 a2):=by
 refine⟨200,6,?_⟩
 rw[o9]
 simp only[cj,aE,B3]at hg
 simp only[eU,hg,decide_true,Bool.true_and,Bool.and_true,Bool.and_self,beq_self_eq_true,B4]
theorem zB (l0 l1:List (Span)) (v1 v2 v8:Int) (F d:Nat):∀(suf pre out:List Span) (n:Nat),suf.length<n→(pre++suf).length≤1048576→out.length≤pre.length→
  eY F (d+3) n (ew (pre++suf) out v1 v2 ((pre.length:Nat):Int))=some (.exit 0,(ll (pre++suf) (out++bP suf v1 v2))):=by
 intro suf
 induction suf with
 |nil=>
  intro pre out n hn hl ho
  obtain⟨n,rfl⟩:∃k,n=k+1:=⟨n-1,by omega⟩
  rw[pK,bu,B5]
  simp[bP]
 |cons x suf ih=>
  intro pre out n hn hl ho
  obtain⟨n,rfl⟩:∃k,n=k+1:=⟨n-1,by omega⟩
  have ih':=fun o ho=>ih (pre++[x]) o n (by simp at hn;omega) (by simpa using hl) ho
  rw[pK]
  have hol:Nat.ble out.length 1048576=true:=by simp at hl⊢;omega
  simp only[bU,bX,Bool.and_self,B4,br,bT,bb hl,eU,hol,Bool.true_and,Bool.and_true]
  rw[←bq]at ih'
  conv=>rhs;unfold bP
  have e1:decide (x.from_<v1)=decide (v1>x.from_):=rfl
  have e2:decide (x.to_>v2)=decide (v2<x.to_):=rfl
  rw[e1]
  simp only[e2]
  have iht:=ih' (out++[bO x v1 v2]) (by simp;omega)
  have ihf:=ih' out (by simp;omega)
  simp only[bO]at iht⊢
  by_cases h1:v1>x.from_<;>by_cases h2:v2<x.to_<;>simp only[h1,h2,decide_true,decide_false,B4,B5]at iht⊢
  ·by_cases h3:v1<v2<;>simp only[h3,decide_true,decide_false,B4,B5]
   ·refine iht.trans ?_;simp
   ·exact ihf
  ·by_cases h3:v1<x.to_<;>simp only[h3,decide_true,decide_false,B4,B5]
   ·refine iht.trans ?_;simp
   ·exact ihf
  ·by_cases h3:x.from_<v2<;>simp only[h3,decide_true,decide_false,B4,B5]
   ·refine iht.trans ?_;simp
   ·exact ihf
  ·by_cases h3:x.from_<x.to_<;>simp only[h3,decide_true,decide_false,B4,B5]
   ·refine iht.trans ?_;simp
   ·exact ihf
theorem wj (l0 l1:List (Span)) (v1 v2 v8:Int) (hg:(decide (l0.length≤1048576)&&(v8==0&&l1.length==0))=true):∃N d,eY N d N (ew l0 l1 v1 v2 v8)=some (aQ Prod.mk [] (.exit 0) (ll l0 (bP l0 v1 v2))):=by
 simp only[B1,B3,beq_iff_eq]at hg
 obtain⟨h1,rfl,h4⟩:=hg
 have h5:l1=[]:=List.length_eq_zero_iff.1 h4
 subst h5
 have:=zB l0 [] v1 v2 0 (l0.length+3) 0 l0 [] [] (l0.length+3) (by omega) (by simpa using h1) (by simp)
 exact⟨l0.length+3,3,by simpa[aQ]using this⟩
theorem kf (a0:List Span) (a1:Int) (a2:Int) (hg:cj a0 a1 a2=true):∃F d,mQ k14 F d 18 Try.f18 dP dL (a0,a1,a2,())=some (bP a0 a1 a2):=by
 refine⟨200,6,?_⟩
 rw[js]
 simp only[cj,aE,B3]at hg
 simp only[eU,hg,decide_true,Bool.true_and,Bool.and_true,Bool.and_self,beq_self_eq_true,B4]
theorem xq (l0:List (Span)) (v7 v8:Int) (F d:Nat):∀(suf pre:List Span) (n:Nat),suf.length<n→(pre++suf).length≤1048576→
  mW F (d+3) n (ky (pre++suf) (((pre++suf).length:Nat):Int) ((pre.length:Nat):Int))=cond (suf.all fun s=> !dF s) (some (.exit 0,(jm (pre++suf)))) (some (.ret,(jq (pre++suf) ((pre.length+suf.findIdx dF:Nat):Int)))):=by
 intro suf
 induction suf with
 |nil=>
  intro pre n hn hl
  obtain⟨n,rfl⟩:∃k,n=k+1:=⟨n-1,by omega⟩
  rw[n6,bu,B5]
  rfl
 |cons x suf ih=>
  intro pre n hn hl
  obtain⟨n,rfl⟩:∃k,n=k+1:=⟨n-1,by omega⟩
  have ih':=ih (pre++[x]) n (by simp at hn;omega) (by simpa using hl)
  rw[n6]
  simp only[bU,bX,Bool.and_self,B4,br,bT,bb hl]
  rw[←bq]at ih'
  have hi:decide (x.from_≥x.to_)=dF x:=rfl
  rw[hi]
  cases hw:dF x
  ·rw[B5,ih']
   simp only[List.all_cons,hw,Bool.not_false,Bool.true_and,List.findIdx_cons,B5,List.length_append,List.length_singleton]
   rw[show pre.length+1+suf.findIdx dF=pre.length+(suf.findIdx dF+1) by omega]
  ·simp[hw,List.findIdx_cons]
theorem tS (l0:List (Span)) (v7 v8:Int) (hg:(decide (l0.length≤1048576)&&(v7==(l0.length:Int)&&v8==0))=true):∃N d,mW N d N (ky l0 v7 v8)=some (aQ Prod.mk [(l0.all fun s=> !dF s, .exit 0,(jm l0))] (.ret) (jq l0 (ud l0))):=by
 simp only[B1,B3,beq_iff_eq]at hg
 obtain⟨h1,rfl,rfl⟩:=hg
 have:=xq l0 0 0 (l0.length+3) 0 l0 [] (l0.length+3) (by omega) (by simpa using h1)
 refine⟨l0.length+3,3,?_⟩
 simp only[List.nil_append,List.length_nil,Nat.zero_add]at this
 rw[show((0:Nat):Int)=0 from rfl]at this
 rw[this]
 cases h:(l0.all fun s=> !dF s)<;>simp[aQ,h,ud]
theorem ze (l0:List (Span)) (l4:List (Int)) (v7 v8:Int) (F d:Nat):∀(suf pre:List Span) (out:List Int) (n:Nat),suf.length<n→(pre++suf).length≤1000→out.length≤2*pre.length→
  qb F (d+3) n (nK (pre++suf) out (((pre++suf).length:Nat):Int) ((pre.length:Nat):Int))=some (.exit 0,(kM (pre++suf) (out++ax suf))):=by
 intro suf
 induction suf with
 |nil=>
  intro pre out n hn hl ho
  obtain⟨n,rfl⟩:∃k,n=k+1:=⟨n-1,by omega⟩
  rw[pQ,bu,B5]
  simp[ax]
 |cons x suf ih=>
  intro pre out n hn hl ho
  obtain⟨n,rfl⟩:∃k,n=k+1:=⟨n-1,by omega⟩
  have ih':=ih (pre++[x]) (out++[x.from_,x.to_]) n (by simp at hn;omega) (by simpa using hl) (by simp;omega)
  rw[pQ]
  have hol:Nat.ble out.length 1048576=true:=by simp at hl⊢;omega
  simp only[bU,bX,Bool.and_self,B4,br,bT,bb (Nat.le_trans hl (by omega)),eU,hol,Bool.true_and,Bool.and_true]
  rw[←bq]at ih'
  rw[ih']
  simp[ax]
theorem vO (l0:List (Span)) (l4:List (Int)) (v7 v8:Int) (hg:(decide (l0.length≤1000)&&(v7==(l0.length:Int)&&(v8==0&&l4.length==0)))=true):∃N d,qb N d N (nK l0 l4 v7 v8)=some (aQ Prod.mk [] (.exit 0) (kM l0 (ax l0))):=by
 simp only[B1,B3,beq_iff_eq]at hg
 obtain⟨h1,rfl,rfl,h4⟩:=hg
 have h5:l4=[]:=List.length_eq_zero_iff.1 h4
 subst h5
 have:=ze l0 [] 0 0 (l0.length+3) 0 l0 [] [] (l0.length+3) (by omega) (by simpa using h1) (by simp)
 exact⟨l0.length+3,3,by simpa[aQ]using this⟩
end Go.Proofs.Ytdadgkgkdgnihaa.Px.PxV
