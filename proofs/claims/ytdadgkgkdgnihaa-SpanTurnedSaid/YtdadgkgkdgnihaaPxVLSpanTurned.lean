/- One span that is weightier than all is there, whole: the law. -/
import Derived.Test.YtdadgkgkdgnihaaPxVProofs2
import Derived.Test.YtdadgkgkdgnihaaPxSpecSpan5
set_option linter.unusedVariables false
set_option linter.unusedSimpArgs false
namespace Go.Proofs.Ytdadgkgkdgnihaa.Px.PxV
open Go Go.Proofs
theorem zW (l0:List (Span)) (P0 P1 P2 P3 v5 v6:Int) (F d:Nat):∀(suf pre:List Span) (t:Int) (n:Nat),suf.length<n→(pre++suf).length≤1048576→
  uS F (d+3) n (sH (pre++suf) P0 P1 P2 P3 t ((pre.length:Nat):Int))=some (.exit 0,(mX (pre++suf) P0 P1 P2 P3 (ig suf t))):=by
 intro suf
 induction suf with
 |nil=>
  intro pre t n hn hl
  obtain⟨n,rfl⟩:∃k,n=k+1:=⟨n-1,by omega⟩
  rw[rL,bu,B5]
  rfl
 |cons x suf ih=>
  intro pre t n hn hl
  obtain⟨n,rfl⟩:∃k,n=k+1:=⟨n-1,by omega⟩
  have ih':=fun t=>ih (pre++[x]) t n (by simp at hn;omega) (by simpa using hl)
  rw[rL]
  simp only[bU,bX,Bool.and_self,B4,br,bT,bb hl]
  rw[←bq]at ih'
  exact ih' _
theorem xj (l0:List (Span)) (P0 P1 P2 P3 v5 v6:Int) (hg:(decide (l0.length≤1048576)&&(v5==0&&v6==0))=true):∃N d,uS N d N (sH l0 P0 P1 P2 P3 v5 v6)=some (aQ Prod.mk [] (.exit 0) (mX l0 P0 P1 P2 P3 (ig l0 v5))):=by
 simp only[B1,B3,beq_iff_eq]at hg
 obtain⟨h1,rfl,rfl⟩:=hg
 have:=zW l0 P0 P1 P2 P3 0 0 (l0.length+3) 0 l0 [] 0 (l0.length+3) (by omega) (by simpa using h1)
 exact⟨l0.length+3,3,by simpa[aQ]using this⟩
theorem An (l0 l2 l3 l6 l7 l9 l10 l11 l12 l13 l15:List (Span)) (U0 U1 U2 U3 v3:Int) (F d:Nat):∀(suf out:List Span) (n:Nat),suf.length<n→(out++suf).length≤1048576→
  uC F (d+3) n (rQ l0 l2 l3 l6 l7 l9 l10 l11 l12 l13 (out++suf) U0 U1 U2 U3 ((out.length:Nat):Int))=some (.exit 0,(mT l0 l2 l3 l6 l7 l9 l10 l11 l12 l13 (out++aO suf) U0 U1 U2 U3)):=by
 intro suf
 induction suf with
 |nil=>
  intro out n hn hl
  obtain⟨n,rfl⟩:∃k,n=k+1:=⟨n-1,by omega⟩
  rw[sK,bu,B5]
  rfl
 |cons x suf ih=>
  intro out n hn hl
  obtain⟨n,rfl⟩:∃k,n=k+1:=⟨n-1,by omega⟩
  have ih':=ih (out++[⟨x.from_,x.to_,x.mode,0⟩]) n (by simp at hn;omega) (by simpa using hl)
  have hs:∀z:Span,List.set (out++x::suf) (0+Int.toNat ((out.length:Nat):Int)) z=(out++[z])++suf:=fun z=>by simp
  have hb:∀z:Span,Nat.beq (out++x::suf).length ((out++[z])++suf).length=true:=fun z=>by simp
  rw[sK]
  simp only[bU,bX,Bool.and_self,Bool.and_true,B4,br,bT,bb hl,hs,hb]
  have e:(((out++[x]).length:Nat):Int)=(((out++[(⟨x.from_,x.to_,x.mode,0⟩:Span)]).length:Nat):Int):=by simp
  rw[e]
  refine ih'.trans ?_
  simp[aO]
theorem yq (l0 l2 l3 l6 l7 l9 l10 l11 l12 l13 l15:List (Span)) (U0 U1 U2 U3 v3:Int) (hg:(decide (l15.length≤1048576)&&v3==0)=true):∃N d,uC N d N (rQ l0 l2 l3 l6 l7 l9 l10 l11 l12 l13 l15 U0 U1 U2 U3 v3)=some (aQ Prod.mk [] (.exit 0) (mT l0 l2 l3 l6 l7 l9 l10 l11 l12 l13 (aO l15) U0 U1 U2 U3)):=by
 simp only[B1,B3,beq_iff_eq]at hg
 obtain⟨h1,rfl⟩:=hg
 have:=An l0 l2 l3 l6 l7 l9 l10 l11 l12 l13 [] U0 U1 U2 U3 0 (l15.length+3) 0 l15 [] (l15.length+3) (by omega) (by simpa using h1)
 exact⟨l15.length+3,3,by simpa[aQ]using this⟩
theorem Ag (l0 l2 l3 l6 l7 l9 l10 l11 l12 l13 l15 l16 l18:List (Span)) (U0 U1 U2 U3 v3:Int) (F d:Nat):∀(suf out:List Span) (n:Nat),suf.length<n→(out++suf).length≤1048576→
  vv F (d+3) n (rZ l0 l2 l3 l6 l7 l9 l10 l11 l12 l13 l15 l16 (out++suf) U0 U1 U2 U3 ((out.length:Nat):Int))=some (.exit 0,(nG l0 l2 l3 l6 l7 l9 l10 l11 l12 l13 l15 l16 (out++aO suf) U0 U1 U2 U3)):=by
 intro suf
 induction suf with
 |nil=>
  intro out n hn hl
  obtain⟨n,rfl⟩:∃k,n=k+1:=⟨n-1,by omega⟩
  rw[sy,bu,B5]
  rfl
 |cons x suf ih=>
  intro out n hn hl
  obtain⟨n,rfl⟩:∃k,n=k+1:=⟨n-1,by omega⟩
  have ih':=ih (out++[⟨x.from_,x.to_,x.mode,0⟩]) n (by simp at hn;omega) (by simpa using hl)
  have hs:∀z:Span,List.set (out++x::suf) (0+Int.toNat ((out.length:Nat):Int)) z=(out++[z])++suf:=fun z=>by simp
  have hb:∀z:Span,Nat.beq (out++x::suf).length ((out++[z])++suf).length=true:=fun z=>by simp
  rw[sy]
  simp only[bU,bX,Bool.and_self,Bool.and_true,B4,br,bT,bb hl,hs,hb]
  have e:(((out++[x]).length:Nat):Int)=(((out++[(⟨x.from_,x.to_,x.mode,0⟩:Span)]).length:Nat):Int):=by simp
  rw[e]
  refine ih'.trans ?_
  simp[aO]
theorem yr (l0 l2 l3 l6 l7 l9 l10 l11 l12 l13 l15 l16 l18:List (Span)) (U0 U1 U2 U3 v3:Int) (hg:(decide (l18.length≤1048576)&&v3==0)=true):∃N d,vv N d N (rZ l0 l2 l3 l6 l7 l9 l10 l11 l12 l13 l15 l16 l18 U0 U1 U2 U3 v3)=some (aQ Prod.mk [] (.exit 0) (nG l0 l2 l3 l6 l7 l9 l10 l11 l12 l13 l15 l16 (aO l18) U0 U1 U2 U3)):=by
 simp only[B1,B3,beq_iff_eq]at hg
 obtain⟨h1,rfl⟩:=hg
 have:=Ag l0 l2 l3 l6 l7 l9 l10 l11 l12 l13 l15 l16 [] U0 U1 U2 U3 0 (l18.length+3) 0 l18 [] (l18.length+3) (by omega) (by simpa using h1)
 exact⟨l18.length+3,3,by simpa[aQ]using this⟩
theorem AM (l0 l2 l3 l6 l7 l9 l10 l11 l12 l13 l15:List (Span)) (S0 S1 S2 S3 v3:Int) (F d:Nat):∀(suf out:List Span) (n:Nat),suf.length<n→(out++suf).length≤1048576→
  uM F (d+3) n (rT l0 l2 l3 l6 l7 l9 l10 l11 l12 l13 (out++suf) S0 S1 S2 S3 ((out.length:Nat):Int))=some (.exit 0,(mY l0 l2 l3 l6 l7 l9 l10 l11 l12 l13 (out++aO suf) S0 S1 S2 S3)):=by
 intro suf
 induction suf with
 |nil=>
  intro out n hn hl
  obtain⟨n,rfl⟩:∃k,n=k+1:=⟨n-1,by omega⟩
  rw[rC,bu,B5]
  rfl
 |cons x suf ih=>
  intro out n hn hl
  obtain⟨n,rfl⟩:∃k,n=k+1:=⟨n-1,by omega⟩
  have ih':=ih (out++[⟨x.from_,x.to_,x.mode,0⟩]) n (by simp at hn;omega) (by simpa using hl)
  have hs:∀z:Span,List.set (out++x::suf) (0+Int.toNat ((out.length:Nat):Int)) z=(out++[z])++suf:=fun z=>by simp
  have hb:∀z:Span,Nat.beq (out++x::suf).length ((out++[z])++suf).length=true:=fun z=>by simp
  rw[rC]
  simp only[bU,bX,Bool.and_self,Bool.and_true,B4,br,bT,bb hl,hs,hb]
  have e:(((out++[x]).length:Nat):Int)=(((out++[(⟨x.from_,x.to_,x.mode,0⟩:Span)]).length:Nat):Int):=by simp
  rw[e]
  refine ih'.trans ?_
  simp[aO]
theorem x9 (l0 l2 l3 l6 l7 l9 l10 l11 l12 l13 l15:List (Span)) (S0 S1 S2 S3 v3:Int) (hg:(decide (l15.length≤1048576)&&v3==0)=true):∃N d,uM N d N (rT l0 l2 l3 l6 l7 l9 l10 l11 l12 l13 l15 S0 S1 S2 S3 v3)=some (aQ Prod.mk [] (.exit 0) (mY l0 l2 l3 l6 l7 l9 l10 l11 l12 l13 (aO l15) S0 S1 S2 S3)):=by
 simp only[B1,B3,beq_iff_eq]at hg
 obtain⟨h1,rfl⟩:=hg
 have:=AM l0 l2 l3 l6 l7 l9 l10 l11 l12 l13 [] S0 S1 S2 S3 0 (l15.length+3) 0 l15 [] (l15.length+3) (by omega) (by simpa using h1)
 exact⟨l15.length+3,3,by simpa[aQ]using this⟩
theorem AR (l0 l2 l3 l6 l7 l9 l10 l11 l12 l13 l15 l16 l18:List (Span)) (S0 S1 S2 S3 v3:Int) (F d:Nat):∀(suf out:List Span) (n:Nat),suf.length<n→(out++suf).length≤1048576→
  uY F (d+3) n (rI l0 l2 l3 l6 l7 l9 l10 l11 l12 l13 l15 l16 (out++suf) S0 S1 S2 S3 ((out.length:Nat):Int))=some (.exit 0,(nq l0 l2 l3 l6 l7 l9 l10 l11 l12 l13 l15 l16 (out++aO suf) S0 S1 S2 S3)):=by
 intro suf
 induction suf with
 |nil=>
  intro out n hn hl
  obtain⟨n,rfl⟩:∃k,n=k+1:=⟨n-1,by omega⟩
  rw[sG,bu,B5]
  rfl
 |cons x suf ih=>
  intro out n hn hl
  obtain⟨n,rfl⟩:∃k,n=k+1:=⟨n-1,by omega⟩
  have ih':=ih (out++[⟨x.from_,x.to_,x.mode,0⟩]) n (by simp at hn;omega) (by simpa using hl)
  have hs:∀z:Span,List.set (out++x::suf) (0+Int.toNat ((out.length:Nat):Int)) z=(out++[z])++suf:=fun z=>by simp
  have hb:∀z:Span,Nat.beq (out++x::suf).length ((out++[z])++suf).length=true:=fun z=>by simp
  rw[sG]
  simp only[bU,bX,Bool.and_self,Bool.and_true,B4,br,bT,bb hl,hs,hb]
  have e:(((out++[x]).length:Nat):Int)=(((out++[(⟨x.from_,x.to_,x.mode,0⟩:Span)]).length:Nat):Int):=by simp
  rw[e]
  refine ih'.trans ?_
  simp[aO]
theorem xL (l0 l2 l3 l6 l7 l9 l10 l11 l12 l13 l15 l16 l18:List (Span)) (S0 S1 S2 S3 v3:Int) (hg:(decide (l18.length≤1048576)&&v3==0)=true):∃N d,uY N d N (rI l0 l2 l3 l6 l7 l9 l10 l11 l12 l13 l15 l16 l18 S0 S1 S2 S3 v3)=some (aQ Prod.mk [] (.exit 0) (nq l0 l2 l3 l6 l7 l9 l10 l11 l12 l13 l15 l16 (aO l18) S0 S1 S2 S3)):=by
 simp only[B1,B3,beq_iff_eq]at hg
 obtain⟨h1,rfl⟩:=hg
 have:=AR l0 l2 l3 l6 l7 l9 l10 l11 l12 l13 l15 l16 [] S0 S1 S2 S3 0 (l18.length+3) 0 l18 [] (l18.length+3) (by omega) (by simpa using h1)
 exact⟨l18.length+3,3,by simpa[aQ]using this⟩
theorem zb {l:List Span} (h:∀y∈l,(aS.enc (self:=els) (El.span:El) y).all dM=true):∀s∈l,s.prio≤9223372036854775807:=by
 intro s hs
 have h1:(([.int .i64 s.from_, .int .i64 s.to_, .int .i64 s.mode, .int .i64 s.prio]:List AV).all dM)=true:=h s hs
 simp only[List.all_cons,List.all_nil,Bool.and_true,dM]at h1
 simp only[Lit.wf,B1,B3]at h1
 have e:IntKind.i64.max=9223372036854775807:=by decide
 omega
theorem fq (a0:List Span) (a1:Span) (hg:aJ.wf (a0,a1,())):∃F d,run k36 F d 8 Try.f8 aJ (a0,a1,())=some (AV.bool true):=by
 refine⟨200,6,?_⟩
 rw[eX]
 simp only[Av,eU,sx,Bool.true_and,Bool.and_true,Bool.and_self,Bool.or_false,B4]
 by_cases hl:a0.length≤60
 ·have h1:decide (((a0.length:Nat):Int)>60)=false:=by simp;omega
  have h2:aE a0=true:=by simp[aE];omega
  have h3:decide (a0.length≤1048576)=true:=by simp;omega
  have h4:Nat.ble a0.length 1048576=true:=by simp;omega
  rw[h1,h2,h3,h4]
  simp only[B4,B5]
  by_cases hz:(fm a0).2=0
  ·by_cases ht:ig a0 0=9223372036854775807
   ·rw[show(ig a0 0==9223372036854775807)=true by simp[ht]]
    cases (fm a0).2 != 0<;>rfl
   ·by_cases hm:a1.from_<a1.to_
    ·obtain⟨e1,e2,e3,e4,e5,e6,e7⟩:=sW hl (zb hg.1.2) hz ht hm
     have b1:((fm a0).2 != 0)=false:=by simp[hz]
     have b2:(ig a0 0==9223372036854775807)=false:=by simp[ht]
     have b3:decide (a1.from_≥a1.to_)=false:=by simp;omega
     have hlen:(a0++[dc a0 a1]).length=a0.length+1:=by simp
     have g1:aE (a0++[dc a0 a1])=true:=by simp[aE];omega
     have g2:aE ([dc a0 a1]++a0)=true:=by simp[aE];omega
     have g3:aE (aP a0 a1).1=true:=by simp[aE];omega
     have g4:aE (fm a0).1=true:=by simp[aE];omega
     have g5:∀t u,cj (aP a0 a1).1 t u=true:=fun _ _=>g3
     have g6:∀t u,cj (fm a0).1 t u=true:=fun _ _=>g4
     have g7:∀x,eD (aP a0 a1).1 x=true:=fun x=>g3
     have g8:decide ((gZ a0 a1).length≤1048576)=true:=by simp;omega
     have g9:∀x,eD (aO (gZ a0 a1)) x=true:=fun x=>by simp[eD,pe];omega
     have s1:∀x,bK x x=true:=fun x=>by simp[bK]
     have x1:(aP a0 a1).2=0:=by rw[e1]
     have x2:(cc a0 a1).2=0:=by rw[e2]
     have x3:(cc a0 a1).1=(aP a0 a1).1:=by rw[e1,e2]
     rw[←e4]
     simp only[b1,b2,b3,g1,g2,g3,g4,g5,g6,g7,g8,g9,s1,x1,x2,x3,e3,eU,sx,Bool.true_and,Bool.and_true,Bool.and_self,Bool.or_false,Bool.true_or,B4,B5,beq_self_eq_true]
     simp[s1,eU,sx]
    ·rw[show decide (a1.from_≥a1.to_)=true by simp;omega]
     cases (fm a0).2 != 0<;>cases ig a0 0==9223372036854775807<;>rfl
  ·rw[show((fm a0).2 != 0)=true by simpa using hz]
   rfl
 ·rw[show decide (((a0.length:Nat):Int)>60)=true by simp;omega]
  rfl
end Go.Proofs.Ytdadgkgkdgnihaa.Px.PxV
