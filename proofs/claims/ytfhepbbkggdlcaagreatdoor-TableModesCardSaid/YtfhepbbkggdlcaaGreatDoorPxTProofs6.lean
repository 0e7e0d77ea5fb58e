/- What is said of functions that other seats have, too. -/
import Derived.Test.YtfhepbbkggdlcaaGreatDoorPxTProofs4
import Derived.Test.YtfhepbbkggdlcaaGreatDoorPxSpecSpan
set_option linter.unusedVariables false
set_option linter.unusedSimpArgs false
namespace Go.Proofs.YtfhepbbkggdlcaaGreatDoor.Px.PxT
open Go Go.Proofs
theorem Ao (a0:Span) (a1:Int):∃F d,run k64 F d 50 Tryz.f50 nf (a0,a1,())=some (uN.enc (inS a0 a1)):=by
 refine⟨200,6,?_⟩
 rw[zC,br]
 rfl
theorem Nl (a0:Span) (a1:Span):∃F d,run k65 F d 112 Tryz.f112 Gv (a0,a1,())=some (Ld.enc (mH a0 a1)):=by
 refine⟨200,6,?_⟩
 rw[Kv,br,cM]
 rfl
theorem Nt (l0:List (Span)) (v1 v5 v10 v11:Int) (F d:Nat):∀(suf pre:List Span) (best:Int) (n:Nat),suf.length<n→(pre++suf).length≤1048576→ -1≤best→best<(pre.length:Int)→
  rL F (d+3) n (nM (pre++suf) v1 best (((pre++suf).length:Nat):Int) ((pre.length:Nat):Int))=some (.exit 0,(py (pre++suf) (wGo (pre++suf) v1 suf ((pre.length:Nat):Int) best))):=by
 intro suf
 induction suf with
 |nil=>
  intro pre best n hn hl h1 h2
  obtain⟨n,rfl⟩:∃k,n=k+1:=⟨n-1,by omega⟩
  rw[Ad,fh,W2]
  rfl
 |cons x suf ih=>
  intro pre best n hn hl h1 h2
  obtain⟨n,rfl⟩:∃k,n=k+1:=⟨n-1,by omega⟩
  have ih':=fun b h1 h2=>ih (pre++[x]) b n (by simp at hn;omega) (by simpa using hl) h1 h2
  rw[Ad]
  simp only[fI,gw,Bool.and_self,WZ,dB,fF,dc hl]
  rw[←dp]at ih'
  have g1:(decide (0≤best)&&decide (best<(((pre++x::suf).length:Nat):Int))|| !(inS x v1&& !decide (best<0)))=true:=by
   by_cases h:best<0
   ·simp[h]
   ·have:0≤best∧best<(((pre++x::suf).length:Nat):Int):=⟨by omega,by simp;omega⟩
    simp only[this.1,this.2,decide_true,Bool.and_self,Bool.true_or]
  have g2:(decide (0+Int.toNat best<(pre++x::suf).length)|| !(inS x v1&& !decide (best<0)))=true:=by
   by_cases h:best<0
   ·simp[h]
   ·have:0+best.toNat<(pre++x::suf).length:=by simp;omega
    simp only[this,decide_true,Bool.true_or]
  rw[g1,WZ,g2,WZ]
  conv=>rhs;unfold wGo
  simp only[br,cM,Nat.zero_add]
  have es:(⟨0,0,0,0⟩:Span)=cU:=rfl
  simp only[es]
  have e3:(((pre++[x]).length:Nat):Int)=((pre.length:Nat):Int)+1:=by simp
  cases (inS x v1&&(decide (best<0)|| !mH x (List.getD (pre++x::suf) best.toNat cU)))
  ·rw[W2,W2,ih' best h1 (by rw[e3];omega),e3]
  ·rw[WZ,WZ,ih' _ (by omega) (by rw[e3];omega),e3]
theorem IE (l0:List (Span)) (v1 v5 v10 v11:Int) (hg:(decide (l0.length≤1048576)&&(v10==(l0.length:Int)&&(v11==0&&v5== -1)))=true):∃N d,rL N d N (nM l0 v1 v5 v10 v11)=some (bb Prod.mk [] (.exit 0) (py l0 (az l0 v1))):=by
 simp only[WW,WY,beq_iff_eq]at hg
 obtain⟨h1,rfl,rfl,rfl⟩:=hg
 have:=Nt l0 v1 (-1) 0 0 (l0.length+3) 0 l0 [] (-1) (l0.length+3) (by omega) (by simpa using h1) (by omega) (by simp)
 exact⟨l0.length+3,3,by simpa[bb,az]using this⟩
theorem uo (a0:List Span) (a1:Int) (hg:bl a0 a1=true):∃F d,run k67 F d 97 Tryz.f97 iw (a0,a1,())=some (mP.enc (az a0 a1)):=by
 refine⟨200,6,?_⟩
 rw[rU]
 simp only[bl,dd,WY]at hg
 simp only[fm,hg,decide_true,Bool.true_and,Bool.and_true,Bool.and_self,beq_self_eq_true,WZ]
 rfl
theorem Sj (l0:List (Span)) (P0 Q0 Q1 Q2 Q3 v7 v8:Int) (F d:Nat):∀(suf pre:List Span) (n:Nat),suf.length<n→(pre++suf).length≤1048576→
  Gf F (d+3) n (C9 (pre++suf) P0 Q0 Q1 Q2 Q3 (((pre++suf).length:Nat):Int) ((pre.length:Nat):Int))=cond (!gR suf P0) (some (.exit 0,(x9 (pre++suf) P0 Q0 Q1 Q2 Q3))) (some (.ret,(x5 (pre++suf) P0 Q0 Q1 Q2 Q3 ((pre.length+suf.findIdx (fun s=>inS s P0):Nat):Int)))):=by
 intro suf
 induction suf with
 |nil=>
  intro pre n hn hl
  obtain⟨n,rfl⟩:∃k,n=k+1:=⟨n-1,by omega⟩
  rw[E0,fh,W2]
  rfl
 |cons x suf ih=>
  intro pre n hn hl
  obtain⟨n,rfl⟩:∃k,n=k+1:=⟨n-1,by omega⟩
  have ih':=ih (pre++[x]) n (by simp at hn;omega) (by simpa using hl)
  rw[E0]
  simp only[fI,gw,Bool.and_self,WZ,dB,fF,dc hl]
  rw[←dp]at ih'
  cases hw:inS x P0
  ·rw[W2,ih']
   simp only[gR,List.any_cons,hw,Bool.false_or,List.findIdx_cons,W2,List.length_append,List.length_singleton]
   rw[show pre.length+1+suf.findIdx (fun s=>inS s P0)=pre.length+(suf.findIdx (fun s=>inS s P0)+1) by omega]
  ·simp[gR,hw,List.findIdx_cons]
theorem ML (l0:List (Span)) (P0 Q0 Q1 Q2 Q3 v7 v8:Int) (hg:(decide (l0.length≤1048576)&&(v7==(l0.length:Int)&&v8==0))=true):∃N d,Gf N d N (C9 l0 P0 Q0 Q1 Q2 Q3 v7 v8)=some (bb Prod.mk [(!gR l0 P0, .exit 0,(x9 l0 P0 Q0 Q1 Q2 Q3))] (.ret) (x5 l0 P0 Q0 Q1 Q2 Q3 (atIdx l0 P0))):=by
 simp only[WW,WY,beq_iff_eq]at hg
 obtain⟨h1,rfl,rfl⟩:=hg
 have:=Sj l0 P0 Q0 Q1 Q2 Q3 0 0 (l0.length+3) 0 l0 [] (l0.length+3) (by omega) (by simpa using h1)
 refine⟨l0.length+3,3,?_⟩
 simp only[List.nil_append,List.length_nil,Nat.zero_add]at this
 rw[show((0:Nat):Int)=0 from rfl]at this
 rw[this]
 cases h:gR l0 P0<;>simp[bb,h,atIdx]
theorem Fy (a0:List Span) (a1:Int) (h:gR a0 a1=true):a0.getD (0+Int.toNat (atIdx a0 a1)) {from_:=0,to_:=0,mode:=0,prio:=0}=(eD a0 a1).1∧(eD a0 a1).2=true:=by
 simp[eD,h,cU]
theorem HU (a0:List Span) (a1:Int) (hg:bl a0 a1=true):∃F d,run k69 F d 23 Tryz.f23 yA (a0,a1,())=some (Eu.enc (eD a0 a1)):=by
 refine⟨200,6,?_⟩
 rw[Ha]
 simp only[bl,dd,WY]at hg
 simp only[fm,hg,decide_true,Bool.true_and,Bool.and_true,Bool.and_self,beq_self_eq_true,WZ]
 cases h:gR a0 a1
 ·simp only[Bool.not_false,WZ]
  simp only[eD,h,W2]
  rfl
 ·obtain⟨h1,h2⟩:=Og h
  have e2:0+(atIdx a0 a1).toNat<a0.length:=by omega
  simp only[Bool.not_true,W2,h2,e2,decide_true,WZ,(Fy a0 a1 h).1]
  rw[show eD a0 a1=((eD a0 a1).1,true) from Prod.ext rfl (Fy a0 a1 h).2]
  rfl
theorem UJ (l0 l1:List (Span)) (v1 v2 v11 v12:Int) (F d:Nat):∀(suf pre out:List Span) (n:Nat),suf.length<n→(pre++suf).length≤1048576→out.length≤pre.length→
  Ii F (d+3) n (EL (pre++suf) out v1 v2 (((pre++suf).length:Nat):Int) ((pre.length:Nat):Int))=some (.exit 0,(BI (pre++suf) (out++ou suf v1 v2))):=by
 intro suf
 induction suf with
 |nil=>
  intro pre out n hn hl ho
  obtain⟨n,rfl⟩:∃k,n=k+1:=⟨n-1,by omega⟩
  rw[IG,fh,W2]
  simp[ou]
 |cons x suf ih=>
  intro pre out n hn hl ho
  obtain⟨n,rfl⟩:∃k,n=k+1:=⟨n-1,by omega⟩
  have ih':=fun o ho=>ih (pre++[x]) o n (by simp at hn;omega) (by simpa using hl) ho
  rw[IG]
  have hol:Nat.ble out.length 1048576=true:=by simp at hl⊢;omega
  simp only[fI,gw,Bool.and_self,WZ,dB,fF,dc hl,fm,hol,Bool.true_and,Bool.and_true]
  rw[←dp]at ih'
  conv=>rhs;unfold ou
  have hc:(⟨bif decide (v1>x.from_)then v1 else x.from_,bif decide (v2<x.to_)then v2 else x.to_,x.mode,x.prio⟩:Span)=iQ x v1 v2:=rfl
  have hd:(decide ((bif decide (v1>x.from_)then v1 else x.from_)<bif decide (v2<x.to_)then v2 else x.to_))=decide ((iQ x v1 v2).from_<(iQ x v1 v2).to_):=rfl
  rw[hc,hd]
  cases decide ((iQ x v1 v2).from_<(iQ x v1 v2).to_)
  ·rw[W2,W2,ih' out (by simp;omega)]
  ·rw[WZ,WZ,ih' (out++[iQ x v1 v2]) (by simp;omega)]
   simp
theorem Oe (l0 l1:List (Span)) (v1 v2 v11 v12:Int) (hg:(decide (l0.length≤1048576)&&(v11==(l0.length:Int)&&(v12==0&&l1.length==0)))=true):∃N d,Ii N d N (EL l0 l1 v1 v2 v11 v12)=some (bb Prod.mk [] (.exit 0) (BI l0 (ou l0 v1 v2))):=by
 simp only[WW,WY,beq_iff_eq]at hg
 obtain⟨h1,rfl,rfl,h4⟩:=hg
 have h5:l1=[]:=List.length_eq_zero_iff.1 h4
 subst h5
 have:=UJ l0 [] v1 v2 0 0 (l0.length+3) 0 l0 [] [] (l0.length+3) (by omega) (by simpa using h1) (by simp)
 exact⟨l0.length+3,3,by simpa[bb]using this⟩
theorem Gu (a0:List Span) (a1:Int) (a2:Int) (hg:oh a0 a1 a2=true):∃F d,l6 k71 F d 29 Tryz.f29 vZ vS (a0,a1,a2,())=some (ou a0 a1 a2):=by
 refine⟨200,6,?_⟩
 rw[D5]
 simp only[oh,dd,WY]at hg
 simp only[fm,hg,decide_true,Bool.true_and,Bool.and_true,Bool.and_self,beq_self_eq_true,WZ]
theorem PE (l0:List (Span)) (v7 v8:Int) (F d:Nat):∀(suf pre:List Span) (n:Nat),suf.length<n→(pre++suf).length≤1048576→
  BA F (d+3) n (xa (pre++suf) (((pre++suf).length:Nat):Int) ((pre.length:Nat):Int))=cond (suf.all fun s=> !nD s) (some (.exit 0,(ta (pre++suf)))) (some (.ret,(tb (pre++suf) ((pre.length+suf.findIdx nD:Nat):Int)))):=by
 intro suf
 induction suf with
 |nil=>
  intro pre n hn hl
  obtain⟨n,rfl⟩:∃k,n=k+1:=⟨n-1,by omega⟩
  rw[CR,fh,W2]
  rfl
 |cons x suf ih=>
  intro pre n hn hl
  obtain⟨n,rfl⟩:∃k,n=k+1:=⟨n-1,by omega⟩
  have ih':=ih (pre++[x]) n (by simp at hn;omega) (by simpa using hl)
  rw[CR]
  simp only[fI,gw,Bool.and_self,WZ,dB,fF,dc hl]
  rw[←dp]at ih'
  have hi:decide (x.from_≥x.to_)=nD x:=rfl
  rw[hi]
  cases hw:nD x
  ·rw[W2,ih']
   simp only[List.all_cons,hw,Bool.not_false,Bool.true_and,List.findIdx_cons,W2,List.length_append,List.length_singleton]
   rw[show pre.length+1+suf.findIdx nD=pre.length+(suf.findIdx nD+1) by omega]
  ·simp[hw,List.findIdx_cons]
theorem KM (l0:List (Span)) (v7 v8:Int) (hg:(decide (l0.length≤1048576)&&(v7==(l0.length:Int)&&v8==0))=true):∃N d,BA N d N (xa l0 v7 v8)=some (bb Prod.mk [(l0.all fun s=> !nD s, .exit 0,(ta l0))] (.ret) (tb l0 (JB l0))):=by
 simp only[WW,WY,beq_iff_eq]at hg
 obtain⟨h1,rfl,rfl⟩:=hg
 have:=PE l0 0 0 (l0.length+3) 0 l0 [] (l0.length+3) (by omega) (by simpa using h1)
 refine⟨l0.length+3,3,?_⟩
 simp only[List.nil_append,List.length_nil,Nat.zero_add]at this
 rw[show((0:Nat):Int)=0 from rfl]at this
 rw[this]
 cases h:(l0.all fun s=> !nD s)<;>simp[bb,h,JB]
theorem Tq (l0:List (Span)) (l4:List (Int)) (v7 v8:Int) (F d:Nat):∀(suf pre:List Span) (out:List Int) (n:Nat),suf.length<n→(pre++suf).length≤1000→out.length≤2*pre.length→
  FB F (d+3) n (DB (pre++suf) out (((pre++suf).length:Nat):Int) ((pre.length:Nat):Int))=some (.exit 0,(wR (pre++suf) (out++aS suf))):=by
 intro suf
 induction suf with
 |nil=>
  intro pre out n hn hl ho
  obtain⟨n,rfl⟩:∃k,n=k+1:=⟨n-1,by omega⟩
  rw[EC,fh,W2]
  simp[aS]
 |cons x suf ih=>
  intro pre out n hn hl ho
  obtain⟨n,rfl⟩:∃k,n=k+1:=⟨n-1,by omega⟩
  have ih':=ih (pre++[x]) (out++[x.from_,x.to_]) n (by simp at hn;omega) (by simpa using hl) (by simp;omega)
  rw[EC]
  have hol:Nat.ble out.length 1048576=true:=by simp at hl⊢;omega
  simp only[fI,gw,Bool.and_self,WZ,dB,fF,dc (Nat.le_trans hl (by omega)),fm,hol,Bool.true_and,Bool.and_true]
  rw[←dp]at ih'
  rw[ih']
  simp[aS]
theorem Mi (l0:List (Span)) (l4:List (Int)) (v7 v8:Int) (hg:(decide (l0.length≤1000)&&(v7==(l0.length:Int)&&(v8==0&&l4.length==0)))=true):∃N d,FB N d N (DB l0 l4 v7 v8)=some (bb Prod.mk [] (.exit 0) (wR l0 (aS l0))):=by
 simp only[WW,WY,beq_iff_eq]at hg
 obtain⟨h1,rfl,rfl,h4⟩:=hg
 have h5:l4=[]:=List.length_eq_zero_iff.1 h4
 subst h5
 have:=Tq l0 [] 0 0 (l0.length+3) 0 l0 [] [] (l0.length+3) (by omega) (by simpa using h1) (by simp)
 exact⟨l0.length+3,3,by simpa[bb]using this⟩
theorem L9:IntKind.wrap IntKind.i64 (((([]:List Span).length:Nat):Int)-1)= -1:=by rfl
theorem Le {q:List Span} {p:Span} (h:(q++[p]).length≤1048576):IntKind.wrap IntKind.i64 ((((q++[p]).length:Nat):Int)-1)=((q.length:Nat):Int):=by
 rw[IntWalk.i64_in _ (by simp at h⊢;omega)];simp
theorem QO {q:List Span} {p z:Span}:List.getD (q++[p]) (0+Int.toNat ((q.length:Nat):Int)) z=p:=by simp
theorem PD {q:List Span} {p z:Span}:List.set (q++[p]) (0+Int.toNat ((q.length:Nat):Int)) z=q++[z]:=by simp
theorem Qa {q:List Span} {p:Span}:decide (((q.length:Nat):Int)<(((q++[p]).length:Nat):Int))=true:=by simp;omega
theorem TM {q:List Span} {p:Span}:decide (0+Int.toNat ((q.length:Nat):Int)<(q++[p]).length)=true:=by simp
theorem TD {q:List Span}:decide (((q.length:Nat):Int)≥0)=true:=by simp
theorem zz:(⟨0,0,0,0⟩:Span)=cU:=rfl
theorem TZ (l0:List (Span)) (l4:List (Int)) (l7:List (Span)) (v3:Int) (F d:Nat) (hL:l0.length≤1048576):∀(es pre:List Int) (a:Int) (out:List Span) (n:Nat),es.length<n→(pre++a::es).length≤1000→out.length≤pre.length→
  Ew F (d+3) n (Dw l0 (pre++a::es) out ((pre.length+1:Nat):Int))=some (.exit 0,(Bq l0 (pre++a::es) (fJ l0 (a::es) out))):=by
 intro es
 induction es with
 |nil=>
  intro pre a out n hn hl ho
  obtain⟨n,rfl⟩:∃k,n=k+1:=⟨n-1,by omega⟩
  have:decide (((pre.length+1:Nat):Int)<(((pre++[a]).length:Nat):Int))=false:=by simp
  rw[B2,this,W2]
  rfl
 |cons b es ih=>
  intro pre a out n hn hl ho
  obtain⟨n,rfl⟩:∃k,n=k+1:=⟨n-1,by omega⟩
  have hpl:pre.length+(es.length+1+1)≤1000:=by simpa using hl
  have ih':=fun o ho=>ih (pre++[a]) b o n (by simp at hn;omega) (by simpa using hl) ho
  have e0:IntKind.wrap .i64 (((pre.length+1:Nat):Int)-1)=((pre.length:Nat):Int):=by rw[IntWalk.i64_in _ (by omega)];simp
  have t1:decide (((pre.length+1:Nat):Int)<(((pre++a::b::es).length:Nat):Int))=true:=by simp<;>omega
  have t3:decide (0+Int.toNat ((pre.length+1:Nat):Int)<(pre++a::b::es).length)=true:=by simp
  have gb:List.getD (pre++a::b::es) (0+Int.toNat ((pre.length+1:Nat):Int)) 0=b:=by
   simp
  have e4:IntKind.wrap .i64 (((pre.length+1:Nat):Int)+1)=(((pre++[a]).length+1:Nat):Int):=by rw[IntWalk.i64_in _ (by omega)];simp
  rw[←dp]at ih'
  have hs:bl l0 a=true:=by simpa[bl,dd]using hL
  have hol:Nat.ble out.length 1048576=true:=by simp;omega
  rw[B2]
  simp only[t1,t3,e0,gb,e4,fI,gw,Bool.and_self,WZ,dB,fF,fm,qn,hs,hol,Bool.and_true,Bool.true_and]
  have hgo:fJ l0 (a::b::es) out=fJ l0 (b::es) (eM l0 out a b):=rfl
  rw[hgo]
  obtain⟨w1,w2⟩:=uQ l0 a
  have ih2:=ih' (eM l0 out a b) (by have:=nt l0 out a b;simp;omega)
  rw[←ih2]
  cases hw:decide (az l0 a<0)with
  |true=>
   rw[WZ]
   rcases cV out with rfl|⟨q,p,rfl⟩
   ·rw[lX,hw];rfl
   ·rw[jQ,hw];rfl
  |false=>
   simp only[decide_eq_false_iff_not]at hw
   have i1:(decide (0≤az l0 a)&&decide (az l0 a<((l0.length:Nat):Int)))=true:=by simp;omega
   have i2:decide (0+Int.toNat (az l0 a)<l0.length)=true:=by simp;omega
   have i3:decide (az l0 a<0)=false:=by simpa using hw
   rw[W2]
   simp only[i1,i2,Bool.true_or,WZ,br,zz]
   rcases cV out with rfl|⟨q,p,rfl⟩
   ·simp only[L9,lX,i3,W2]
    simp
   ·simp only[Le (Nat.le_trans ho (by omega)),QO,PD,Qa,TM,TD,Bool.true_or,WZ,Bool.true_and]
    simp only[jQ,i3,W2,Nat.zero_add]
    cases hc:(p.to_==a&&p.mode==(l0.getD (az l0 a).toNat cU).mode)
    ·simp only[W2]
    ·simp only[WZ,List.length_append,List.length_singleton,fm]
theorem P7 (l0:List (Span)) (l4:List (Int)) (l7:List (Span)) (v3:Int) (hg:(decide (l0.length≤1048576)&&(decide (l4.length≤1000)&&(v3==1&&l7.length==0)))=true):∃N d,Ew N d N (Dw l0 l4 l7 v3)=some (bb Prod.mk [] (.exit 0) (Bq l0 l4 (fJ l0 l4 []))):=by
 simp only[WW,WY,beq_iff_eq]at hg
 obtain⟨h1,h2,rfl,h4⟩:=hg
 have h5:l7=[]:=List.length_eq_zero_iff.1 h4
 subst h5
 cases l4 with
 |nil=>
  refine⟨1,3,?_⟩
  rw[B2]
  simp[bb,fJ]
 |cons a es=>
  have:=TZ l0 [] [] 0 ((a::es).length+3) 0 h1 es [] a [] ((a::es).length+3) (by simp;omega) (by simpa using h2) (by simp)
  exact⟨(a::es).length+3,3,by simpa[bb]using this⟩
theorem zB (a0:List Span) (hg:dd a0=true):∃F d,l6 k75 F d 64 Tryz.f64 lF lu (a0,())=some (bA a0):=by
 refine⟨200,6,?_⟩
 rw[xU]
 simp only[dd,WY]at hg
 have hfin:∀(hl:a0.length≤500),(Nat.ble (aS a0).length 1048576=true∧Nat.beq (aS a0).length (dh (aS a0)).length=true∧Nat.ble (dh (aS a0)).length 1048576=true∧decide ((fi (dh (aS a0))).length≤1000)=true∧decide (a0.length≤1000)=true):=by
  intro hl
  have:=fa a0
  have:=xY (aS a0)
  have:=lA a0
  unfold kI at this
  refine⟨by simp;omega,by simp;omega,by simp;omega,by simp;omega,by simp;omega⟩
 by_cases hl:a0.length≤500
 ·obtain⟨k1,k2,k3,k4,k5⟩:=hfin hl
  have e1:decide (((a0.length:Nat):Int)>500)=false:=by simp;omega
  simp only[e1,Bool.not_false,Bool.not_true,WZ,W2,fm,qn,hg,k1,k2,k3,k4,k5,decide_true,Bool.true_and,Bool.and_true,Bool.and_self,beq_self_eq_true]
  cases hc:(a0.all fun s=> !nD s)
  ·simp[bA,zi,hc]
  ·simp[bA,zi,hc,hl,eQ,kI]
 ·have e1:decide (((a0.length:Nat):Int)>500)=true:=by simp;omega
  simp only[e1,Bool.not_false,Bool.not_true,WZ,W2]
  simp[bA,zi,hl]
theorem B9 (a0:a8) (a1:Int):∃F d,run k62 F d 46 Tryz.f46 pe (a0,a1,())=some (pB.enc (jm a0 a1)):=by
 refine⟨200,6,?_⟩
 rw[Am]
 simp only[pB,Res.int,jm]
 cases ao a0 != 0<;>cases inB a1 576000 5258879999<;>rfl
theorem Qh {z:a8} {t:Int} (h:jm z t=0):ao z=0∧576000≤t∧t≤5258879999:=by
 unfold jm at h
 cases hz:ao z != 0 with
 |true=>rw[hz,WZ]at h;rw[h]at hz;cases hz
 |false=>
  rw[hz,W2]at h
  cases hb:inB t 576000 5258879999 with
  |false=>rw[hb]at h;simp at h
  |true=>exact⟨by simpa using hz,bF.1 hb⟩
theorem rz {z:a8} (t:Int) (hs:0≤z.shift∧z.shift≤120):0≤bD z t∧bD z t≤120:=by
 unfold bD
 cases z.shift==0
 ·cases J8 t (bU z z.on (cG z t)) (bU z z.off (cG z t))
  ·simp
  ·exact hs
 ·simp
theorem Du (a0:a8) (a1:Int):∃F d,run k63 F d 22 Tryz.f22 ow (a0,a1,())=some (xf.enc (dg a0 a1)):=by
 refine⟨200,6,?_⟩
 rw[Ax]
 unfold dg
 cases hc:jm a0 a1 != 0 with
 |true=>rfl
 |false=>
  obtain⟨hz,h1,h2⟩:=Qh (show jm a0 a1=0 by simpa using hc)
  obtain⟨hb,hs,ht,_⟩:=bx hz
  have hr:=rz (z:=a0) a1 hs
  rw[show cP a0 a1=true by simp only[cP,ht,mid,Bool.true_and,WW,WY];omega]
  rw[wrI (n:=a1+a0.base) (by omega),wrI (n:=a1+a0.base+bD a0 a1) (by omega),Int.tdiv_eq_ediv_of_nonneg (by omega),Int.tmod_eq_emod_of_nonneg (by omega),wrI (by omega)]
  rfl
theorem BZ {z:a8} {t:Int} (hz:ao z=0) (h1:576000≤t) (h2:t≤5258879999):dg z t=(w7 z t/1440,w7 z t%1440,0):=by
 unfold dg
 rw[show jm z t=0 by unfold jm;rw[hz,xW h1 h2];rfl]
 rfl
theorem Ob (l0:List (Int)) (l1:List (ag)) (Q0 Q1 Q2 Q4 Q5 Q6 Q7 Q8 Q9 Q10 Q11 Q12 Q13 Q14 Q15 Q16 Q17 Q18 Q19 Q20 Q21 Q22 Q23 Q24 Q25 Q26 Q27 Q28 Q29 Q30 Q31 Q32 Q33 Q34:Int) (Q35:Bool) (v7:Int) (F d:Nat):∀(suf pre:List ag) (n:Nat),suf.length<n→(pre++suf).length≤1048576→
  Bi F (d+3) n (wQ l0 (pre++suf) Q0 Q1 Q2 Q4 Q5 Q6 Q7 Q8 Q9 Q10 Q11 Q12 Q13 Q14 Q15 Q16 Q17 Q18 Q19 Q20 Q21 Q22 Q23 Q24 Q25 Q26 Q27 Q28 Q29 Q30 Q31 Q32 Q33 Q34 Q35 ((pre.length:Nat):Int))=cond (suf.all bj) (some (.exit 0,(tK l0 (pre++suf) Q0 Q1 Q2 Q4 Q5 Q6 Q7 Q8 Q9 Q10 Q11 Q12 Q13 Q14 Q15 Q16 Q17 Q18 Q19 Q20 Q21 Q22 Q23 Q24 Q25 Q26 Q27 Q28 Q29 Q30 Q31 Q32 Q33 Q34 Q35))) (some (.ret,(tp l0 (pre++suf) Q0 Q1 Q2 Q4 Q5 Q6 Q7 Q8 Q9 Q10 Q11 Q12 Q13 Q14 Q15 Q16 Q17 Q18 Q19 Q20 Q21 Q22 Q23 Q24 Q25 Q26 Q27 Q28 Q29 Q30 Q31 Q32 Q33 Q34 Q35))):=by
 intro suf
 induction suf with
 |nil=>
  intro pre n hn hl
  obtain⟨n,rfl⟩:∃k,n=k+1:=⟨n-1,by omega⟩
  rw[DP,fh,W2]
  rfl
 |cons x suf ih=>
  intro pre n hn hl
  obtain⟨n,rfl⟩:∃k,n=k+1:=⟨n-1,by omega⟩
  have ih':=ih (pre++[x]) n (by simp at hn;omega) (by simpa using hl)
  rw[DP]
  simp only[fI,gw,Bool.and_self,WZ,dB,fF,dc hl]
  rw[←dp]at ih'
  cases hw:bj x
  ·simp[hw]
  ·simp only[Bool.not_true,W2]
   rw[ih']
   simp only[List.all_cons,hw,Bool.true_and]
theorem Jt (l0:List (Int)) (l1:List (ag)) (Q0 Q1 Q2 Q4 Q5 Q6 Q7 Q8 Q9 Q10 Q11 Q12 Q13 Q14 Q15 Q16 Q17 Q18 Q19 Q20 Q21 Q22 Q23 Q24 Q25 Q26 Q27 Q28 Q29 Q30 Q31 Q32 Q33 Q34:Int) (Q35:Bool) (v7:Int) (hg:(decide (l1.length≤1048576)&&v7==0)=true):∃N d,Bi N d N (wQ l0 l1 Q0 Q1 Q2 Q4 Q5 Q6 Q7 Q8 Q9 Q10 Q11 Q12 Q13 Q14 Q15 Q16 Q17 Q18 Q19 Q20 Q21 Q22 Q23 Q24 Q25 Q26 Q27 Q28 Q29 Q30 Q31 Q32 Q33 Q34 Q35 v7)=some (bb Prod.mk [(l1.all bj, .exit 0,(tK l0 l1 Q0 Q1 Q2 Q4 Q5 Q6 Q7 Q8 Q9 Q10 Q11 Q12 Q13 Q14 Q15 Q16 Q17 Q18 Q19 Q20 Q21 Q22 Q23 Q24 Q25 Q26 Q27 Q28 Q29 Q30 Q31 Q32 Q33 Q34 Q35))] (.ret) (tp l0 l1 Q0 Q1 Q2 Q4 Q5 Q6 Q7 Q8 Q9 Q10 Q11 Q12 Q13 Q14 Q15 Q16 Q17 Q18 Q19 Q20 Q21 Q22 Q23 Q24 Q25 Q26 Q27 Q28 Q29 Q30 Q31 Q32 Q33 Q34 Q35)):=by
 simp only[WW,WY,beq_iff_eq]at hg
 obtain⟨h1,rfl⟩:=hg
 have:=Ob l0 l1 Q0 Q1 Q2 Q4 Q5 Q6 Q7 Q8 Q9 Q10 Q11 Q12 Q13 Q14 Q15 Q16 Q17 Q18 Q19 Q20 Q21 Q22 Q23 Q24 Q25 Q26 Q27 Q28 Q29 Q30 Q31 Q32 Q33 Q34 Q35 0 (l1.length+3) 0 l1 [] (l1.length+3) (by omega) (by simpa using h1)
 refine⟨l1.length+3,3,?_⟩
 simp only[List.nil_append,List.length_nil]at this
 rw[show((0:Nat):Int)=0 from rfl]at this
 rw[this]
 cases h:l1.all bj<;>simp[bb,h]
theorem qW (a0:ag):∃F d,run k83 F d 69 Tryz.f69 gi (a0,())=some (fX.enc (jX a0)):=by
 refine⟨200,6,?_⟩
 rw[qo]
 simp only[fX,Res.bool]
 refine congrArg (fun b=>some (AV.bool b)) ?_
 rw[Bool.eq_iff_iff]
 simp[jX,inB]
 try omega
theorem ua (a0:Int):∃F d,run k84 F d 67 Tryz.f67 hO (a0,())=some (iE.enc (lq a0)):=by
 refine⟨200,6,?_⟩
 rw[sC]
 simp only[iE,Res.bool]
 refine congrArg (fun b=>some (AV.bool b)) ?_
 rw[Bool.eq_iff_iff]
 simp[lq,inB]
 try omega
theorem tS (a0:oi):∃F d,run k85 F d 68 Tryz.f68 gY (a0,())=some (hP.enc (gL a0)):=by
 refine⟨200,6,?_⟩
 rw[rG]
 simp only[hP,Res.bool]
 refine congrArg (fun b=>some (AV.bool b)) ?_
 rw[Bool.eq_iff_iff]
 simp[gL,inB]
 try omega
theorem rk (a0:Config) (hg:aY a0=true):∃F d,run k91 F d 31 Tryz.f31 gx (a0,())=some (fY.enc (gP a0)):=by
 refine⟨200,6,?_⟩
 rw[qv]
 simp only[aY,WW,WY]at hg
 simp only[fm,qn,Bool.true_and,Bool.and_true,Bool.and_self,WZ,W2,br,cM,hg.1,decide_true,BEq.rfl]
 simp only[fY,Res.bool,gP]
 cases h:AG a0.bC none a0.stops<;>simp
 omega
theorem ql (a0:ag):∃F d,run k86 F d 35 Tryz.f35 fD (a0,())=some (fy.enc (bj a0)):=by
 refine⟨200,6,?_⟩
 rw[pn]
 simp only[fy,Res.bool,bj,jX,inB,br,cM,vk,dlt,dgt,dge,Bool.not_or,Bool.not_not]
 cases a0.kind==1<;>cases a0.kind==2<;>cases a0.kind==3<;>simp only[WZ,W2,vk,Bool.not_or,Bool.not_not,Bool.and_assoc,Bool.not_and,Bool.or_assoc]
theorem rO (a0:Config):∃F d,run k89 F d 32 Tryz.f32 gq (a0,())=some (gC.enc (u7 a0)):=by
 refine⟨200,6,?_⟩
 rw[qt]
 simp only[gC,Res.bool,u7,lq,inB,br,cM,vk,dlt,dgt,dge,Bool.not_or,Bool.not_not,Bool.and_assoc]
theorem sK (a0:Config) (hg:aY a0=true):∃F d,run k93 F d 14 Tryz.f14 gj (a0,())=some (fW.enc (iV a0)):=by
 refine⟨200,6,?_⟩
 rw[qH]
 have hg':=hg
 simp only[aY,WW,WY]at hg
 simp only[fm,qn,Bool.true_and,Bool.and_true,Bool.and_self,WZ,W2,br,cM,hg',hg.2,decide_true,BEq.rfl,Bool.true_or,Bool.or_true]
 simp only[fW,Res.int,iV,orE,nP,inB,dlt,dgt,dge,bne,dD,bg,Bool.not_not,Bool.not_and,Bool.not_or]
 have hS:∀a b c d e f:Bool,(!a|| !b|| !c|| !d|| !e||f)= !(a&&b&&(c&&d)&&(e&& !f)):=by decide
 rw[hS]
 generalize (decide (2≤a0.bC)&&decide (a0.bC≤64)&&(decide (1≤a0.pO)&&decide (a0.pO≤8))&&(decide (0≤a0.qy)&& !decide (a0.bC≤a0.qy)))=S
 have hW:(!decide (((a0.ae.length:Nat):Int)≤16))=decide (a0.ae.length>16):=by rw[Bool.eq_iff_iff];simp;omega
 rw[hW]
 simp only[bW,dD]
 cases S
 ·rfl
 cases gP a0
 ·rfl
 cases u7 a0
 ·rfl
 cases hz:(ao a0.aE==0)
 ·rfl
 cases hu:(ax a0.sun==0)
 ·rfl
 cases decide (a0.ae.length>16)
 ·cases a0.ae.all bj<;>rfl
 ·rfl
theorem rN (a0:a8):∃F d,run k87 F d 33 Tryz.f33 gB (a0,())=some (fZ.enc (ao a0)):=by
 refine⟨200,6,?_⟩
 rw[qG]
 simp only[fZ,Res.int,ao,ka,Jf,Cp]
 cases h1:inB a0.base (-720) 840
 ·rfl
 cases h2:inB a0.shift 0 120
 ·rfl
 cases h3:a0.shift==0
 ·cases g1:gL a0.on
  ·cases decide (IntKind.wrap IntKind.i64 (a0.on.month-a0.off.month)<0)<;>rfl
  cases g2:gL a0.off
  ·cases decide (IntKind.wrap IntKind.i64 (a0.on.month-a0.off.month)<0)<;>rfl
  have b1:inB a0.on.month 1 12=true:=by simp only[gL,WW]at g1;exact g1.1.1.1
  have b2:inB a0.off.month 1 12=true:=by simp only[gL,WW]at g2;exact g2.1.1.1
  rw[bu b2 b1 (by omega) (by omega)]
  have b1':=bF.1 b1
  have b2':=bF.1 b2
  unfold apart
  by_cases h:a0.on.month≤a0.off.month
  ·by_cases h':a0.on.month=a0.off.month
   ·simp[h',inB]
   ·rw[if_pos h,IntWalk.i64_in (0-(a0.on.month-a0.off.month)) (by omega),show decide (a0.on.month-a0.off.month<0)=true by simp;omega,show 0-(a0.on.month-a0.off.month)=a0.off.month-a0.on.month by omega]
    simp only[Bool.not_true,WZ,W2,Cp,Bool.true_and]
    cases inB (a0.off.month-a0.on.month) 2 10<;>rfl
  ·rw[if_neg h,show decide (a0.on.month-a0.off.month<0)=false by simp;omega]
   simp only[Bool.not_true,WZ,W2,Cp,Bool.true_and]
   cases inB (a0.on.month-a0.off.month) 2 10<;>rfl
 ·cases decide (a0.on=mD)<;>cases decide (a0.off=mD)<;>rfl
theorem rD (a0:Sun):∃F d,run k88 F d 34 Tryz.f34 gm (a0,())=some (gG.enc (ax a0)):=by
 refine⟨200,6,?_⟩
 rw[qz]
 simp only[gG,Res.int,ax,gH,List.all_cons,List.all_nil,G2,List.cons_append,List.nil_append,Cp,Vk,Vf]
 cases h0:inB a0.m0 900 1320
 ·rfl
 cases h1:inB a0.m1 900 1320
 ·rfl
 cases h2:inB a0.m2 900 1320
 ·rfl
 cases h3:inB a0.m3 900 1320
 ·rfl
 cases h4:inB a0.m4 900 1320
 ·rfl
 cases h5:inB a0.m5 900 1320
 ·rfl
 cases h6:inB a0.m6 900 1320
 ·rfl
 cases h7:inB a0.m7 900 1320
 ·rfl
 cases h8:inB a0.m8 900 1320
 ·rfl
 cases h9:inB a0.m9 900 1320
 ·rfl
 cases h10:inB a0.m10 900 1320
 ·rfl
 cases h11:inB a0.m11 900 1320
 ·rfl
 simp only[bu h0 h1 (by omega) (by omega),bu h1 h2 (by omega) (by omega),bu h2 h3 (by omega) (by omega),bu h3 h4 (by omega) (by omega),bu h4 h5 (by omega) (by omega),bu h5 h6 (by omega) (by omega),bu h6 h7 (by omega) (by omega),bu h7 h8 (by omega) (by omega),bu h8 h9 (by omega) (by omega),bu h9 h10 (by omega) (by omega),bu h10 h11 (by omega) (by omega),bu h11 h0 (by omega) (by omega),LN]
 cases inB (a0.m1-a0.m0) (-120) 120
 ·rfl
 cases inB (a0.m2-a0.m1) (-120) 120
 ·rfl
 cases inB (a0.m3-a0.m2) (-120) 120
 ·rfl
 cases inB (a0.m4-a0.m3) (-120) 120
 ·rfl
 cases inB (a0.m5-a0.m4) (-120) 120
 ·rfl
 cases inB (a0.m6-a0.m5) (-120) 120
 ·rfl
 cases inB (a0.m7-a0.m6) (-120) 120
 ·rfl
 cases inB (a0.m8-a0.m7) (-120) 120
 ·rfl
 cases inB (a0.m9-a0.m8) (-120) 120
 ·rfl
 cases inB (a0.m10-a0.m9) (-120) 120
 ·rfl
 cases inB (a0.m11-a0.m10) (-120) 120
 ·rfl
 cases inB (a0.m0-a0.m11) (-120) 120
 ·rfl
 rfl
theorem MZ (l0:List (Int)) (l1:List (ag)) (Q0 Q1 Q2 Q4 Q5 Q6 Q7 Q8 Q9 Q10 Q11 Q12 Q13 Q14 Q15 Q16 Q17 Q18 Q19 Q20 Q21 Q22 Q23 Q24 Q25 Q26 Q27 Q28 Q29 Q30 Q31 Q32 Q33 Q34:Int) (Q35:Bool) (v3:Int) (F d:Nat):∀(suf pre:List Int) (n:Nat),suf.length<n→(pre++suf).length≤1048576→
  xd F (d+3) n (sb (pre++suf) l1 Q0 Q1 Q2 Q4 Q5 Q6 Q7 Q8 Q9 Q10 Q11 Q12 Q13 Q14 Q15 Q16 Q17 Q18 Q19 Q20 Q21 Q22 Q23 Q24 Q25 Q26 Q27 Q28 Q29 Q30 Q31 Q32 Q33 Q34 Q35 ((pre.length:Nat):Int))=cond (AG Q0 pre.getLast? suf) (some (.exit 0,(oN (pre++suf) l1 Q0 Q1 Q2 Q4 Q5 Q6 Q7 Q8 Q9 Q10 Q11 Q12 Q13 Q14 Q15 Q16 Q17 Q18 Q19 Q20 Q21 Q22 Q23 Q24 Q25 Q26 Q27 Q28 Q29 Q30 Q31 Q32 Q33 Q34 Q35))) (some (.ret,(pd (pre++suf) l1 Q0 Q1 Q2 Q4 Q5 Q6 Q7 Q8 Q9 Q10 Q11 Q12 Q13 Q14 Q15 Q16 Q17 Q18 Q19 Q20 Q21 Q22 Q23 Q24 Q25 Q26 Q27 Q28 Q29 Q30 Q31 Q32 Q33 Q34 Q35))):=by
 intro suf
 induction suf with
 |nil=>
  intro pre n hn hl
  obtain⟨n,rfl⟩:∃k,n=k+1:=⟨n-1,by omega⟩
  rw[Ai,fh,W2]
  cases pre.getLast?<;>rfl
 |cons x suf ih=>
  intro pre n hn hl
  obtain⟨n,rfl⟩:∃k,n=k+1:=⟨n-1,by omega⟩
  have ih':=ih (pre++[x]) n (by simp at hn;omega) (by simpa using hl)
  have hpl:pre.length+(suf.length+1)≤1048576:=by simpa using hl
  rw[Ai]
  simp only[fI,gw,Bool.and_self,WZ,dB,fF,dc hl,Bool.true_or]
  rw[←dp]at ih'
  have hout:(bif decide (x<0)then true else decide (x≥Q0))= !(decide (0≤x)&&decide (x<Q0)):=by
   rw[Bool.eq_iff_iff];simp;try omega
  rw[hout]
  rcases cV pre with rfl|⟨q,p,rfl⟩
  ·simp only[List.length_nil,show decide (((0:Nat):Int)>0)=false from rfl,Bool.and_false,Bool.not_false,Bool.or_true,WZ,W2,cM,Bool.or_false,List.getLast?_nil]
   rw[show AG Q0 none (x::suf)=((decide (0≤x)&&decide (x<Q0))&&AG Q0 (some x) suf) from rfl]
   cases (decide (0≤x)&&decide (x<Q0))
   ·rfl
   ·simp only[Bool.not_true,Bool.true_and,W2]
    simpa using ih'
  ·have hw:IntKind.wrap IntKind.i64 ((((q++[p]).length:Nat):Int)-1)=(((q++[p]).length:Nat):Int)-1:=IntWalk.i64_in _ (by simp at hpl⊢;omega)
   have g1:(decide (0≤(((q++[p]).length:Nat):Int)-1)&&decide ((((q++[p]).length:Nat):Int)-1<(((q++[p]++x::suf).length:Nat):Int)))=true:=by simp;omega
   have g2:decide (0+Int.toNat ((((q++[p]).length:Nat):Int)-1)<(q++[p]++x::suf).length)=true:=by simp
   have g3:decide ((((q++[p]).length:Nat):Int)>0)=true:=by simp;try omega
   rw[hw]
   simp only[g1,g2,g3,IY,Bool.true_or,WZ]
   rw[show(q++[p]).getLast?=some p by simp,show AG Q0 (some p) (x::suf)=((decide (0≤x)&&decide (x<Q0))&&decide (p<x)&&AG Q0 (some x) suf) from rfl]
   cases (decide (0≤x)&&decide (x<Q0))
   ·rfl
   ·have hd:decide (x≤p)= !decide (p<x):=by rw[Bool.eq_iff_iff];simp
    rw[hd]
    cases decide (p<x)
    ·rfl
    ·simp only[Bool.not_true,Bool.true_and,W2,Bool.and_true]
     simpa using ih'
theorem I7 (l0:List (Int)) (l1:List (ag)) (Q0 Q1 Q2 Q4 Q5 Q6 Q7 Q8 Q9 Q10 Q11 Q12 Q13 Q14 Q15 Q16 Q17 Q18 Q19 Q20 Q21 Q22 Q23 Q24 Q25 Q26 Q27 Q28 Q29 Q30 Q31 Q32 Q33 Q34:Int) (Q35:Bool) (v3:Int) (hg:(decide (l0.length≤1048576)&&v3==0)=true):∃N d,xd N d N (sb l0 l1 Q0 Q1 Q2 Q4 Q5 Q6 Q7 Q8 Q9 Q10 Q11 Q12 Q13 Q14 Q15 Q16 Q17 Q18 Q19 Q20 Q21 Q22 Q23 Q24 Q25 Q26 Q27 Q28 Q29 Q30 Q31 Q32 Q33 Q34 Q35 v3)=some (bb Prod.mk [(AG Q0 none l0, .exit 0,(oN l0 l1 Q0 Q1 Q2 Q4 Q5 Q6 Q7 Q8 Q9 Q10 Q11 Q12 Q13 Q14 Q15 Q16 Q17 Q18 Q19 Q20 Q21 Q22 Q23 Q24 Q25 Q26 Q27 Q28 Q29 Q30 Q31 Q32 Q33 Q34 Q35))] (.ret) (pd l0 l1 Q0 Q1 Q2 Q4 Q5 Q6 Q7 Q8 Q9 Q10 Q11 Q12 Q13 Q14 Q15 Q16 Q17 Q18 Q19 Q20 Q21 Q22 Q23 Q24 Q25 Q26 Q27 Q28 Q29 Q30 Q31 Q32 Q33 Q34 Q35)):=by
 simp only[WW,WY,beq_iff_eq]at hg
 obtain⟨h1,rfl⟩:=hg
 have:=MZ l0 l1 Q0 Q1 Q2 Q4 Q5 Q6 Q7 Q8 Q9 Q10 Q11 Q12 Q13 Q14 Q15 Q16 Q17 Q18 Q19 Q20 Q21 Q22 Q23 Q24 Q25 Q26 Q27 Q28 Q29 Q30 Q31 Q32 Q33 Q34 Q35 0 (l0.length+3) 0 l0 [] (l0.length+3) (by omega) (by simpa using h1)
 refine⟨l0.length+3,3,?_⟩
 simp only[List.nil_append,List.length_nil,List.getLast?_nil]at this
 rw[show((0:Nat):Int)=0 from rfl]at this
 rw[this]
 cases h:AG Q0 none l0<;>simp[bb,h]
theorem wy {f g:Int→Bool} (h:∀x,f x=g x):∀(l:List Int) (p:Option Int),Cw f p l=Cw g p l
 | [],p=>by cases p<;>rfl
 |x::l,none=>by simp only[Cw,h,wy h l]
 |x::l,some p=>by simp only[Cw,h,wy h l]
theorem Ge (c:Config):iV c=af c:=by
 unfold iV af
 by_cases hf:2≤c.bC∧c.bC≤64
 ·have hw:IntKind.i64.wrap (c.bC-1)=c.bC-1:=IntWalk.i64_in _ (by omega)
  have h1:nP c=EB c:=by
   unfold nP EB
   rw[hw]
   congr 1
   rw[Bool.eq_iff_iff]
   simp[inB]
   omega
  have h2:gP c=GM c:=by
   unfold gP GM AG GZ
   rw[hw]
   congr 1
   refine wy (fun x=>?_) _ _
   rw[Bool.eq_iff_iff]
   simp[inB]
   omega
  rw[h1,h2]
  rfl
 ·have h0:inB c.bC 2 64=false:=by
   rw[Bool.eq_false_iff]
   intro h
   exact hf (bF.1 h)
  have h1:nP c=false:=by simp[nP,h0]
  have h2:EB c=false:=by simp[EB,h0]
  simp[cC,h1,h2,dD,orE]
end Go.Proofs.YtfhepbbkggdlcaaGreatDoor.Px.PxT
