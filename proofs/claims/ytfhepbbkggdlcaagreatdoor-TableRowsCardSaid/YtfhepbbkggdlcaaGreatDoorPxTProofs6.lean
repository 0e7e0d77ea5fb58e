/- What is said of functions that other seats have, too. -/
import Derived.Test.YtfhepbbkggdlcaaGreatDoorPxTProofs4
import Derived.Test.YtfhepbbkggdlcaaGreatDoorPxSpecSpan
set_option linter.unusedVariables false
set_option linter.unusedSimpArgs false
namespace Go.Proofs.YtfhepbbkggdlcaaGreatDoor.Px.PxT
open Go Go.Proofs
theorem AO (a0:Span) (a1:Int):∃F d,run k64 F d 50 Tryz.f50 nv (a0,a1,())=some (vr.enc (inS a0 a1)):=by
 refine⟨200,6,?_⟩
 rw[z8,bn]
 rfl
theorem Na (a0:Span) (a1:Span):∃F d,run k65 F d 112 Tryz.f112 Gk (a0,a1,())=some (Ma.enc (nj a0 a1)):=by
 refine⟨200,6,?_⟩
 rw[Ki,bn,cC]
 rfl
theorem NO (l0:List (Span)) (v1 v5 v10 v11:Int) (F d:Nat):∀(suf pre:List Span) (best:Int) (n:Nat),suf.length<n→(pre++suf).length≤1048576→ -1≤best→best<(pre.length:Int)→
  sS F (d+3) n (om (pre++suf) v1 best (((pre++suf).length:Nat):Int) ((pre.length:Nat):Int))=some (.exit 0,(pM (pre++suf) (wGo (pre++suf) v1 suf ((pre.length:Nat):Int) best))):=by
 intro suf
 induction suf with
 |nil=>
  intro pre best n hn hl h1 h2
  obtain⟨n,rfl⟩:∃k,n=k+1:=⟨n-1,by omega⟩
  rw[Az,dP,XV]
  rfl
 |cons x suf ih=>
  intro pre best n hn hl h1 h2
  obtain⟨n,rfl⟩:∃k,n=k+1:=⟨n-1,by omega⟩
  have ih':=fun b h1 h2=>ih (pre++[x]) b n (by simp at hn;omega) (by simpa using hl) h1 h2
  rw[Az]
  simp only[dZ,eW,Bool.and_self,XU,di,dX,cE hl]
  rw[←cD]at ih'
  have g1:(decide (0≤best)&&decide (best<(((pre++x::suf).length:Nat):Int))|| !(inS x v1&& !decide (best<0)))=true:=by
   by_cases h:best<0
   ·simp[h]
   ·have:0≤best∧best<(((pre++x::suf).length:Nat):Int):=⟨by omega,by simp;omega⟩
    simp only[this.1,this.2,decide_true,Bool.and_self,Bool.true_or]
  have g2:(decide (0+Int.toNat best<(pre++x::suf).length)|| !(inS x v1&& !decide (best<0)))=true:=by
   by_cases h:best<0
   ·simp[h]
   ·have:0+best.toNat<(pre++x::suf).length:=by simp;omega
    simp only[this,decide_true,Bool.true_or]
  rw[g1,XU,g2,XU]
  conv=>rhs;unfold wGo
  simp only[bn,cC,Nat.zero_add]
  have es:(⟨0,0,0,0⟩:Span)=cX:=rfl
  simp only[es]
  have e3:(((pre++[x]).length:Nat):Int)=((pre.length:Nat):Int)+1:=by simp
  cases (inS x v1&&(decide (best<0)|| !nj x (List.getD (pre++x::suf) best.toNat cX)))
  ·rw[XV,XV,ih' best h1 (by rw[e3];omega),e3]
  ·rw[XU,XU,ih' _ (by omega) (by rw[e3];omega),e3]
theorem Je (l0:List (Span)) (v1 v5 v10 v11:Int) (hg:(decide (l0.length≤1048576)&&(v10==(l0.length:Int)&&(v11==0&&v5== -1)))=true):∃N d,sS N d N (om l0 v1 v5 v10 v11)=some (a7 Prod.mk [] (.exit 0) (pM l0 (az l0 v1))):=by
 simp only[XR,XT,beq_iff_eq]at hg
 obtain⟨h1,rfl,rfl,rfl⟩:=hg
 have:=NO l0 v1 (-1) 0 0 (l0.length+3) 0 l0 [] (-1) (l0.length+3) (by omega) (by simpa using h1) (by omega) (by simp)
 exact⟨l0.length+3,3,by simpa[a7,az]using this⟩
theorem uW (a0:List Span) (a1:Int) (hg:bz a0 a1=true):∃F d,run k67 F d 97 Tryz.f97 iJ (a0,a1,())=some (mZ.enc (az a0 a1)):=by
 refine⟨200,6,?_⟩
 rw[sy]
 simp only[bz,cR,XT]at hg
 simp only[eH,hg,decide_true,Bool.true_and,Bool.and_true,Bool.and_self,beq_self_eq_true,XU]
 rfl
theorem Tc (l0:List (Span)) (P0 Q0 Q1 Q2 Q3 v7 v8:Int) (F d:Nat):∀(suf pre:List Span) (n:Nat),suf.length<n→(pre++suf).length≤1048576→
  Hx F (d+3) n (CH (pre++suf) P0 Q0 Q1 Q2 Q3 (((pre++suf).length:Nat):Int) ((pre.length:Nat):Int))=cond (!gX suf P0) (some (.exit 0,(yF (pre++suf) P0 Q0 Q1 Q2 Q3))) (some (.ret,(xd (pre++suf) P0 Q0 Q1 Q2 Q3 ((pre.length+suf.findIdx (fun s=>inS s P0):Nat):Int)))):=by
 intro suf
 induction suf with
 |nil=>
  intro pre n hn hl
  obtain⟨n,rfl⟩:∃k,n=k+1:=⟨n-1,by omega⟩
  rw[Fu,dP,XV]
  rfl
 |cons x suf ih=>
  intro pre n hn hl
  obtain⟨n,rfl⟩:∃k,n=k+1:=⟨n-1,by omega⟩
  have ih':=ih (pre++[x]) n (by simp at hn;omega) (by simpa using hl)
  rw[Fu]
  simp only[dZ,eW,Bool.and_self,XU,di,dX,cE hl]
  rw[←cD]at ih'
  cases hw:inS x P0
  ·rw[XV,ih']
   simp only[gX,List.any_cons,hw,Bool.false_or,List.findIdx_cons,XV,List.length_append,List.length_singleton]
   rw[show pre.length+1+suf.findIdx (fun s=>inS s P0)=pre.length+(suf.findIdx (fun s=>inS s P0)+1) by omega]
  ·simp[gX,hw,List.findIdx_cons]
theorem Nn (l0:List (Span)) (P0 Q0 Q1 Q2 Q3 v7 v8:Int) (hg:(decide (l0.length≤1048576)&&(v7==(l0.length:Int)&&v8==0))=true):∃N d,Hx N d N (CH l0 P0 Q0 Q1 Q2 Q3 v7 v8)=some (a7 Prod.mk [(!gX l0 P0, .exit 0,(yF l0 P0 Q0 Q1 Q2 Q3))] (.ret) (xd l0 P0 Q0 Q1 Q2 Q3 (atIdx l0 P0))):=by
 simp only[XR,XT,beq_iff_eq]at hg
 obtain⟨h1,rfl,rfl⟩:=hg
 have:=Tc l0 P0 Q0 Q1 Q2 Q3 0 0 (l0.length+3) 0 l0 [] (l0.length+3) (by omega) (by simpa using h1)
 refine⟨l0.length+3,3,?_⟩
 simp only[List.nil_append,List.length_nil,Nat.zero_add]at this
 rw[show((0:Nat):Int)=0 from rfl]at this
 rw[this]
 cases h:gX l0 P0<;>simp[a7,h,atIdx]
theorem Ib (a0:List Span) (a1:Int) (h:gX a0 a1=true):a0.getD (0+Int.toNat (atIdx a0 a1)) {from_:=0,to_:=0,mode:=0,prio:=0}=(ja a0 a1).1∧(ja a0 a1).2=true:=by
 simp[ja,h,cX]
theorem I9 (a0:List Span) (a1:Int) (hg:bz a0 a1=true):∃F d,run k69 F d 23 Tryz.f23 zZ (a0,a1,())=some (Fv.enc (ja a0 a1)):=by
 refine⟨200,6,?_⟩
 rw[HL]
 simp only[bz,cR,XT]at hg
 simp only[eH,hg,decide_true,Bool.true_and,Bool.and_true,Bool.and_self,beq_self_eq_true,XU]
 cases h:gX a0 a1
 ·simp only[Bool.not_false,XU]
  simp only[ja,h,XV]
  rfl
 ·obtain⟨h1,h2⟩:=R5 h
  have e2:0+(atIdx a0 a1).toNat<a0.length:=by omega
  simp only[Bool.not_true,XV,h2,e2,decide_true,XU,(Ib a0 a1 h).1]
  rw[show ja a0 a1=((ja a0 a1).1,true) from Prod.ext rfl (Ib a0 a1 h).2]
  rfl
theorem Vz (l0 l1:List (Span)) (v1 v2 v11 v12:Int) (F d:Nat):∀(suf pre out:List Span) (n:Nat),suf.length<n→(pre++suf).length≤1048576→out.length≤pre.length→
  Iq F (d+3) n (Fe (pre++suf) out v1 v2 (((pre++suf).length:Nat):Int) ((pre.length:Nat):Int))=some (.exit 0,(BA (pre++suf) (out++dY suf v1 v2))):=by
 intro suf
 induction suf with
 |nil=>
  intro pre out n hn hl ho
  obtain⟨n,rfl⟩:∃k,n=k+1:=⟨n-1,by omega⟩
  rw[Il,dP,XV]
  simp[dY]
 |cons x suf ih=>
  intro pre out n hn hl ho
  obtain⟨n,rfl⟩:∃k,n=k+1:=⟨n-1,by omega⟩
  have ih':=fun o ho=>ih (pre++[x]) o n (by simp at hn;omega) (by simpa using hl) ho
  rw[Il]
  have hol:Nat.ble out.length 1048576=true:=by simp at hl⊢;omega
  simp only[dZ,eW,Bool.and_self,XU,di,dX,cE hl,eH,hol,Bool.true_and,Bool.and_true]
  rw[←cD]at ih'
  conv=>rhs;unfold dY
  have hc:(⟨bif decide (v1>x.from_)then v1 else x.from_,bif decide (v2<x.to_)then v2 else x.to_,x.mode,x.prio⟩:Span)=fo x v1 v2:=rfl
  have hd:(decide ((bif decide (v1>x.from_)then v1 else x.from_)<bif decide (v2<x.to_)then v2 else x.to_))=decide ((fo x v1 v2).from_<(fo x v1 v2).to_):=rfl
  rw[hc,hd]
  cases decide ((fo x v1 v2).from_<(fo x v1 v2).to_)
  ·rw[XV,XV,ih' out (by simp;omega)]
  ·rw[XU,XU,ih' (out++[fo x v1 v2]) (by simp;omega)]
   simp
theorem PJ (l0 l1:List (Span)) (v1 v2 v11 v12:Int) (hg:(decide (l0.length≤1048576)&&(v11==(l0.length:Int)&&(v12==0&&l1.length==0)))=true):∃N d,Iq N d N (Fe l0 l1 v1 v2 v11 v12)=some (a7 Prod.mk [] (.exit 0) (BA l0 (dY l0 v1 v2))):=by
 simp only[XR,XT,beq_iff_eq]at hg
 obtain⟨h1,rfl,rfl,h4⟩:=hg
 have h5:l1=[]:=List.length_eq_zero_iff.1 h4
 subst h5
 have:=Vz l0 [] v1 v2 0 0 (l0.length+3) 0 l0 [] [] (l0.length+3) (by omega) (by simpa using h1) (by simp)
 exact⟨l0.length+3,3,by simpa[a7]using this⟩
theorem Ha (a0:List Span) (a1:Int) (a2:Int) (hg:dS a0 a1 a2=true):∃F d,kd k71 F d 29 Tryz.f29 vI wE (a0,a1,a2,())=some (dY a0 a1 a2):=by
 refine⟨200,6,?_⟩
 rw[Er]
 simp only[dS,cR,XT]at hg
 simp only[eH,hg,decide_true,Bool.true_and,Bool.and_true,Bool.and_self,beq_self_eq_true,XU]
theorem RW (l0:List (Span)) (v7 v8:Int) (F d:Nat):∀(suf pre:List Span) (n:Nat),suf.length<n→(pre++suf).length≤1048576→
  Bm F (d+3) n (ye (pre++suf) (((pre++suf).length:Nat):Int) ((pre.length:Nat):Int))=cond (suf.all fun s=> !nQ s) (some (.exit 0,(tw (pre++suf)))) (some (.ret,(tA (pre++suf) ((pre.length+suf.findIdx nQ:Nat):Int)))):=by
 intro suf
 induction suf with
 |nil=>
  intro pre n hn hl
  obtain⟨n,rfl⟩:∃k,n=k+1:=⟨n-1,by omega⟩
  rw[CD,dP,XV]
  rfl
 |cons x suf ih=>
  intro pre n hn hl
  obtain⟨n,rfl⟩:∃k,n=k+1:=⟨n-1,by omega⟩
  have ih':=ih (pre++[x]) n (by simp at hn;omega) (by simpa using hl)
  rw[CD]
  simp only[dZ,eW,Bool.and_self,XU,di,dX,cE hl]
  rw[←cD]at ih'
  have hi:decide (x.from_≥x.to_)=nQ x:=rfl
  rw[hi]
  cases hw:nQ x
  ·rw[XV,ih']
   simp only[List.all_cons,hw,Bool.not_false,Bool.true_and,List.findIdx_cons,XV,List.length_append,List.length_singleton]
   rw[show pre.length+1+suf.findIdx nQ=pre.length+(suf.findIdx nQ+1) by omega]
  ·simp[hw,List.findIdx_cons]
theorem LC (l0:List (Span)) (v7 v8:Int) (hg:(decide (l0.length≤1048576)&&(v7==(l0.length:Int)&&v8==0))=true):∃N d,Bm N d N (ye l0 v7 v8)=some (a7 Prod.mk [(l0.all fun s=> !nQ s, .exit 0,(tw l0))] (.ret) (tA l0 (KG l0))):=by
 simp only[XR,XT,beq_iff_eq]at hg
 obtain⟨h1,rfl,rfl⟩:=hg
 have:=RW l0 0 0 (l0.length+3) 0 l0 [] (l0.length+3) (by omega) (by simpa using h1)
 refine⟨l0.length+3,3,?_⟩
 simp only[List.nil_append,List.length_nil,Nat.zero_add]at this
 rw[show((0:Nat):Int)=0 from rfl]at this
 rw[this]
 cases h:(l0.all fun s=> !nQ s)<;>simp[a7,h,KG]
theorem SE (l0:List (Span)) (l4:List (Int)) (v7 v8:Int) (F d:Nat):∀(suf pre:List Span) (out:List Int) (n:Nat),suf.length<n→(pre++suf).length≤1000→out.length≤2*pre.length→
  Hm F (d+3) n (Dr (pre++suf) out (((pre++suf).length:Nat):Int) ((pre.length:Nat):Int))=some (.exit 0,(xi (pre++suf) (out++aS suf))):=by
 intro suf
 induction suf with
 |nil=>
  intro pre out n hn hl ho
  obtain⟨n,rfl⟩:∃k,n=k+1:=⟨n-1,by omega⟩
  rw[Fo,dP,XV]
  simp[aS]
 |cons x suf ih=>
  intro pre out n hn hl ho
  obtain⟨n,rfl⟩:∃k,n=k+1:=⟨n-1,by omega⟩
  have ih':=ih (pre++[x]) (out++[x.from_,x.to_]) n (by simp at hn;omega) (by simpa using hl) (by simp;omega)
  rw[Fo]
  have hol:Nat.ble out.length 1048576=true:=by simp at hl⊢;omega
  simp only[dZ,eW,Bool.and_self,XU,di,dX,cE (Nat.le_trans hl (by omega)),eH,hol,Bool.true_and,Bool.and_true]
  rw[←cD]at ih'
  rw[ih']
  simp[aS]
theorem NZ (l0:List (Span)) (l4:List (Int)) (v7 v8:Int) (hg:(decide (l0.length≤1000)&&(v7==(l0.length:Int)&&(v8==0&&l4.length==0)))=true):∃N d,Hm N d N (Dr l0 l4 v7 v8)=some (a7 Prod.mk [] (.exit 0) (xi l0 (aS l0))):=by
 simp only[XR,XT,beq_iff_eq]at hg
 obtain⟨h1,rfl,rfl,h4⟩:=hg
 have h5:l4=[]:=List.length_eq_zero_iff.1 h4
 subst h5
 have:=SE l0 [] 0 0 (l0.length+3) 0 l0 [] [] (l0.length+3) (by omega) (by simpa using h1) (by simp)
 exact⟨l0.length+3,3,by simpa[a7]using this⟩
theorem Ms:IntKind.wrap IntKind.i64 (((([]:List Span).length:Nat):Int)-1)= -1:=by rfl
theorem Mt {q:List Span} {p:Span} (h:(q++[p]).length≤1048576):IntKind.wrap IntKind.i64 ((((q++[p]).length:Nat):Int)-1)=((q.length:Nat):Int):=by
 rw[IntWalk.i64_in _ (by simp at h⊢;omega)];simp
theorem SB {q:List Span} {p z:Span}:List.getD (q++[p]) (0+Int.toNat ((q.length:Nat):Int)) z=p:=by simp
theorem Pf {q:List Span} {p z:Span}:List.set (q++[p]) (0+Int.toNat ((q.length:Nat):Int)) z=q++[z]:=by simp
theorem Rc {q:List Span} {p:Span}:decide (((q.length:Nat):Int)<(((q++[p]).length:Nat):Int))=true:=by simp;omega
theorem Ut {q:List Span} {p:Span}:decide (0+Int.toNat ((q.length:Nat):Int)<(q++[p]).length)=true:=by simp
theorem Us {q:List Span}:decide (((q.length:Nat):Int)≥0)=true:=by simp
theorem zz:(⟨0,0,0,0⟩:Span)=cX:=rfl
theorem U9 (l0:List (Span)) (l4:List (Int)) (l7:List (Span)) (v3:Int) (F d:Nat) (hL:l0.length≤1048576):∀(es pre:List Int) (a:Int) (out:List Span) (n:Nat),es.length<n→(pre++a::es).length≤1000→out.length≤pre.length→
  E0 F (d+3) n (Dw l0 (pre++a::es) out ((pre.length+1:Nat):Int))=some (.exit 0,(BO l0 (pre++a::es) (fS l0 (a::es) out))):=by
 intro es
 induction es with
 |nil=>
  intro pre a out n hn hl ho
  obtain⟨n,rfl⟩:∃k,n=k+1:=⟨n-1,by omega⟩
  have:decide (((pre.length+1:Nat):Int)<(((pre++[a]).length:Nat):Int))=false:=by simp
  rw[Cd,this,XV]
  rfl
 |cons b es ih=>
  intro pre a out n hn hl ho
  obtain⟨n,rfl⟩:∃k,n=k+1:=⟨n-1,by omega⟩
  have hpl:pre.length+(es.length+1+1)≤1000:=by simpa using hl
  have ih':=fun o ho=>ih (pre++[a]) b o n (by simp at hn;omega) (by simpa using hl) ho
  have e0:IntKind.wrap .i64 (((pre.length+1:Nat):Int)-1)=((pre.length:Nat):Int):=by rw[IntWalk.i64_in _ (by omega)];simp
  have t1:decide (((pre.length+1:Nat):Int)<(((pre++a::b::es).length:Nat):Int))=true:=by simp<;>omega
  have t3:decide (0+Int.toNat ((pre.length+1:Nat):Int)<(pre++a::b::es).length)=true:=by simp
  have gb:List.getD (pre++a::b::es) (0+Int.toNat ((pre.length+1:Nat):Int)) 0=b:=by
   simp
  have e4:IntKind.wrap .i64 (((pre.length+1:Nat):Int)+1)=(((pre++[a]).length+1:Nat):Int):=by rw[IntWalk.i64_in _ (by omega)];simp
  rw[←cD]at ih'
  have hs:bz l0 a=true:=by simpa[bz,cR]using hL
  have hol:Nat.ble out.length 1048576=true:=by simp;omega
  rw[Cd]
  simp only[t1,t3,e0,gb,e4,dZ,eW,Bool.and_self,XU,di,dX,eH,qh,hs,hol,Bool.and_true,Bool.true_and]
  have hgo:fS l0 (a::b::es) out=fS l0 (b::es) (eN l0 out a b):=rfl
  rw[hgo]
  obtain⟨w1,w2⟩:=vg l0 a
  have ih2:=ih' (eN l0 out a b) (by have:=nE l0 out a b;simp;omega)
  rw[←ih2]
  cases hw:decide (az l0 a<0)with
  |true=>
   rw[XU]
   rcases cU out with rfl|⟨q,p,rfl⟩
   ·rw[lI,hw];rfl
   ·rw[ke,hw];rfl
  |false=>
   simp only[decide_eq_false_iff_not]at hw
   have i1:(decide (0≤az l0 a)&&decide (az l0 a<((l0.length:Nat):Int)))=true:=by simp;omega
   have i2:decide (0+Int.toNat (az l0 a)<l0.length)=true:=by simp;omega
   have i3:decide (az l0 a<0)=false:=by simpa using hw
   rw[XV]
   simp only[i1,i2,Bool.true_or,XU,bn,zz]
   rcases cU out with rfl|⟨q,p,rfl⟩
   ·simp only[Ms,lI,i3,XV]
    simp
   ·simp only[Mt (Nat.le_trans ho (by omega)),SB,Pf,Rc,Ut,Us,Bool.true_or,XU,Bool.true_and]
    simp only[ke,i3,XV,Nat.zero_add]
    cases hc:(p.to_==a&&p.mode==(l0.getD (az l0 a).toNat cX).mode)
    ·simp only[XV]
    ·simp only[XU,List.length_append,List.length_singleton,eH]
theorem QE (l0:List (Span)) (l4:List (Int)) (l7:List (Span)) (v3:Int) (hg:(decide (l0.length≤1048576)&&(decide (l4.length≤1000)&&(v3==1&&l7.length==0)))=true):∃N d,E0 N d N (Dw l0 l4 l7 v3)=some (a7 Prod.mk [] (.exit 0) (BO l0 l4 (fS l0 l4 []))):=by
 simp only[XR,XT,beq_iff_eq]at hg
 obtain⟨h1,h2,rfl,h4⟩:=hg
 have h5:l7=[]:=List.length_eq_zero_iff.1 h4
 subst h5
 cases l4 with
 |nil=>
  refine⟨1,3,?_⟩
  rw[Cd]
  simp[a7,fS]
 |cons a es=>
  have:=U9 l0 [] [] 0 ((a::es).length+3) 0 h1 es [] a [] ((a::es).length+3) (by simp;omega) (by simpa using h2) (by simp)
  exact⟨(a::es).length+3,3,by simpa[a7]using this⟩
theorem ze (a0:List Span) (hg:cR a0=true):∃F d,kd k75 F d 64 Tryz.f64 lO mn (a0,())=some (bC a0):=by
 refine⟨200,6,?_⟩
 rw[yK]
 simp only[cR,XT]at hg
 have hfin:∀(hl:a0.length≤500),(Nat.ble (aS a0).length 1048576=true∧Nat.beq (aS a0).length (df (aS a0)).length=true∧Nat.ble (df (aS a0)).length 1048576=true∧decide ((fp (df (aS a0))).length≤1000)=true∧decide (a0.length≤1000)=true):=by
  intro hl
  have:=fi a0
  have:=xF (aS a0)
  have:=mh a0
  unfold lf at this
  refine⟨by simp;omega,by simp;omega,by simp;omega,by simp;omega,by simp;omega⟩
 by_cases hl:a0.length≤500
 ·obtain⟨k1,k2,k3,k4,k5⟩:=hfin hl
  have e1:decide (((a0.length:Nat):Int)>500)=false:=by simp;omega
  simp only[e1,Bool.not_false,Bool.not_true,XU,XV,eH,qh,hg,k1,k2,k3,k4,k5,decide_true,Bool.true_and,Bool.and_true,Bool.and_self,beq_self_eq_true]
  cases hc:(a0.all fun s=> !nQ s)
  ·simp[bC,xk,hc]
  ·simp[bC,xk,hc,hl,j7,lf]
 ·have e1:decide (((a0.length:Nat):Int)>500)=true:=by simp;omega
  simp only[e1,Bool.not_false,Bool.not_true,XU,XV]
  simp[bC,xk,hl]
theorem Di (a0:bc) (a1:Int):∃F d,run k62 F d 46 Tryz.f46 pP (a0,a1,())=some (pI.enc (jk a0 a1)):=by
 refine⟨200,6,?_⟩
 rw[A4]
 simp only[pI,Res.int,jk]
 cases ao a0 != 0<;>cases inB a1 576000 5258879999<;>rfl
theorem Sc {z:bc} {t:Int} (h:jk z t=0):ao z=0∧576000≤t∧t≤5258879999:=by
 unfold jk at h
 cases hz:ao z != 0 with
 |true=>rw[hz,XU]at h;rw[h]at hz;cases hz
 |false=>
  rw[hz,XV]at h
  cases hb:inB t 576000 5258879999 with
  |false=>rw[hb]at h;simp at h
  |true=>exact⟨by simpa using hz,bG.1 hb⟩
theorem AJ {z:bc} (t:Int) (hs:0≤z.shift∧z.shift≤120):0≤bK z t∧bK z t≤120:=by
 unfold bK
 cases z.shift==0
 ·cases Ke t (bW z z.on (cK z t)) (bW z z.off (cK z t))
  ·simp
  ·exact hs
 ·simp
theorem Ei (a0:bc) (a1:Int):∃F d,run k63 F d 22 Tryz.f22 pf (a0,a1,())=some (xr.enc (dr a0 a1)):=by
 refine⟨200,6,?_⟩
 rw[AX]
 unfold dr
 cases hc:jk a0 a1 != 0 with
 |true=>rfl
 |false=>
  obtain⟨hz,h1,h2⟩:=Sc (show jk a0 a1=0 by simpa using hc)
  obtain⟨hb,hs,ht,_⟩:=bR hz
  have hr:=AJ (z:=a0) a1 hs
  rw[show dj a0 a1=true by simp only[dj,ht,mid,Bool.true_and,XR,XT];omega]
  rw[wrI (n:=a1+a0.base) (by omega),wrI (n:=a1+a0.base+bK a0 a1) (by omega),Int.tdiv_eq_ediv_of_nonneg (by omega),Int.tmod_eq_emod_of_nonneg (by omega),wrI (by omega)]
  rfl
theorem J3 {z:bc} {t:Int} (hz:ao z=0) (h1:576000≤t) (h2:t≤5258879999):dr z t=(JF z t/1440,JF z t%1440,0):=by
 unfold dr
 rw[show jk z t=0 by unfold jk;rw[hz,yk h1 h2];rfl]
 rfl
theorem QI (l0:List (Int)) (l1:List (ag)) (Q0 Q1 Q2 Q4 Q5 Q6 Q7 Q8 Q9 Q10 Q11 Q12 Q13 Q14 Q15 Q16 Q17 Q18 Q19 Q20 Q21 Q22 Q23 Q24 Q25 Q26 Q27 Q28 Q29 Q30 Q31 Q32 Q33 Q34:Int) (Q35:Bool) (v7:Int) (F d:Nat):∀(suf pre:List ag) (n:Nat),suf.length<n→(pre++suf).length≤1048576→
  BB F (d+3) n (yL l0 (pre++suf) Q0 Q1 Q2 Q4 Q5 Q6 Q7 Q8 Q9 Q10 Q11 Q12 Q13 Q14 Q15 Q16 Q17 Q18 Q19 Q20 Q21 Q22 Q23 Q24 Q25 Q26 Q27 Q28 Q29 Q30 Q31 Q32 Q33 Q34 Q35 ((pre.length:Nat):Int))=cond (suf.all bl) (some (.exit 0,(tY l0 (pre++suf) Q0 Q1 Q2 Q4 Q5 Q6 Q7 Q8 Q9 Q10 Q11 Q12 Q13 Q14 Q15 Q16 Q17 Q18 Q19 Q20 Q21 Q22 Q23 Q24 Q25 Q26 Q27 Q28 Q29 Q30 Q31 Q32 Q33 Q34 Q35))) (some (.ret,(ue l0 (pre++suf) Q0 Q1 Q2 Q4 Q5 Q6 Q7 Q8 Q9 Q10 Q11 Q12 Q13 Q14 Q15 Q16 Q17 Q18 Q19 Q20 Q21 Q22 Q23 Q24 Q25 Q26 Q27 Q28 Q29 Q30 Q31 Q32 Q33 Q34 Q35))):=by
 intro suf
 induction suf with
 |nil=>
  intro pre n hn hl
  obtain⟨n,rfl⟩:∃k,n=k+1:=⟨n-1,by omega⟩
  rw[D5,dP,XV]
  rfl
 |cons x suf ih=>
  intro pre n hn hl
  obtain⟨n,rfl⟩:∃k,n=k+1:=⟨n-1,by omega⟩
  have ih':=ih (pre++[x]) n (by simp at hn;omega) (by simpa using hl)
  rw[D5]
  simp only[dZ,eW,Bool.and_self,XU,di,dX,cE hl]
  rw[←cD]at ih'
  cases hw:bl x
  ·simp[hw]
  ·simp only[Bool.not_true,XV]
   rw[ih']
   simp only[List.all_cons,hw,Bool.true_and]
theorem K0 (l0:List (Int)) (l1:List (ag)) (Q0 Q1 Q2 Q4 Q5 Q6 Q7 Q8 Q9 Q10 Q11 Q12 Q13 Q14 Q15 Q16 Q17 Q18 Q19 Q20 Q21 Q22 Q23 Q24 Q25 Q26 Q27 Q28 Q29 Q30 Q31 Q32 Q33 Q34:Int) (Q35:Bool) (v7:Int) (hg:(decide (l1.length≤1048576)&&v7==0)=true):∃N d,BB N d N (yL l0 l1 Q0 Q1 Q2 Q4 Q5 Q6 Q7 Q8 Q9 Q10 Q11 Q12 Q13 Q14 Q15 Q16 Q17 Q18 Q19 Q20 Q21 Q22 Q23 Q24 Q25 Q26 Q27 Q28 Q29 Q30 Q31 Q32 Q33 Q34 Q35 v7)=some (a7 Prod.mk [(l1.all bl, .exit 0,(tY l0 l1 Q0 Q1 Q2 Q4 Q5 Q6 Q7 Q8 Q9 Q10 Q11 Q12 Q13 Q14 Q15 Q16 Q17 Q18 Q19 Q20 Q21 Q22 Q23 Q24 Q25 Q26 Q27 Q28 Q29 Q30 Q31 Q32 Q33 Q34 Q35))] (.ret) (ue l0 l1 Q0 Q1 Q2 Q4 Q5 Q6 Q7 Q8 Q9 Q10 Q11 Q12 Q13 Q14 Q15 Q16 Q17 Q18 Q19 Q20 Q21 Q22 Q23 Q24 Q25 Q26 Q27 Q28 Q29 Q30 Q31 Q32 Q33 Q34 Q35)):=by
 simp only[XR,XT,beq_iff_eq]at hg
 obtain⟨h1,rfl⟩:=hg
 have:=QI l0 l1 Q0 Q1 Q2 Q4 Q5 Q6 Q7 Q8 Q9 Q10 Q11 Q12 Q13 Q14 Q15 Q16 Q17 Q18 Q19 Q20 Q21 Q22 Q23 Q24 Q25 Q26 Q27 Q28 Q29 Q30 Q31 Q32 Q33 Q34 Q35 0 (l1.length+3) 0 l1 [] (l1.length+3) (by omega) (by simpa using h1)
 refine⟨l1.length+3,3,?_⟩
 simp only[List.nil_append,List.length_nil]at this
 rw[show((0:Nat):Int)=0 from rfl]at this
 rw[this]
 cases h:l1.all bl<;>simp[a7,h]
theorem sg (a0:ag):∃F d,run k83 F d 69 Tryz.f69 gC (a0,())=some (ga.enc (kC a0)):=by
 refine⟨200,6,?_⟩
 rw[qJ]
 simp only[ga,Res.bool]
 refine congrArg (fun b=>some (AV.bool b)) ?_
 rw[Bool.eq_iff_iff]
 simp[kC,inB]
 try omega
theorem uN (a0:Int):∃F d,run k84 F d 67 Tryz.f67 iQ (a0,())=some (iC.enc (mc a0)):=by
 refine⟨200,6,?_⟩
 rw[rO]
 simp only[iC,Res.bool]
 refine congrArg (fun b=>some (AV.bool b)) ?_
 rw[Bool.eq_iff_iff]
 simp[mc,inB]
 try omega
theorem uw (a0:nU):∃F d,run k85 F d 68 Tryz.f68 iB (a0,())=some (iw.enc (gS a0)):=by
 refine⟨200,6,?_⟩
 rw[rZ]
 simp only[iw,Res.bool]
 refine congrArg (fun b=>some (AV.bool b)) ?_
 rw[Bool.eq_iff_iff]
 simp[gS,inB]
 try omega
theorem q9 (a0:Config) (hg:aX a0=true):∃F d,run k91 F d 31 Tryz.f31 gm (a0,())=some (gz.enc (gN a0)):=by
 refine⟨200,6,?_⟩
 rw[qP]
 simp only[aX,XR,XT]at hg
 simp only[eH,qh,Bool.true_and,Bool.and_true,Bool.and_self,XU,XV,bn,cC,hg.1,decide_true,BEq.rfl]
 simp only[gz,Res.bool,gN]
 cases h:Ba a0.bE none a0.stops<;>simp
 omega
theorem qZ (a0:ag):∃F d,run k86 F d 35 Tryz.f35 fE (a0,())=some (fI.enc (bl a0)):=by
 refine⟨200,6,?_⟩
 rw[pV]
 simp only[fI,Res.bool,bl,kC,inB,bn,cC,vC,dlt,dgt,dge,Bool.not_or,Bool.not_not]
 cases a0.kind==1<;>cases a0.kind==2<;>cases a0.kind==3<;>simp only[XU,XV,vC,Bool.not_or,Bool.not_not,Bool.and_assoc,Bool.not_and,Bool.or_assoc]
theorem sL (a0:Config):∃F d,run k89 F d 32 Tryz.f32 gy (a0,())=some (gI.enc (w6 a0)):=by
 refine⟨200,6,?_⟩
 rw[qG]
 simp only[gI,Res.bool,w6,mc,inB,bn,cC,vC,dlt,dgt,dge,Bool.not_or,Bool.not_not,Bool.and_assoc]
theorem rh (a0:Config) (hg:aX a0=true):∃F d,run k93 F d 14 Tryz.f14 gF (a0,())=some (gw.enc (gR a0)):=by
 refine⟨200,6,?_⟩
 rw[qS]
 have hg':=hg
 simp only[aX,XR,XT]at hg
 simp only[eH,qh,Bool.true_and,Bool.and_true,Bool.and_self,XU,XV,bn,cC,hg',hg.2,decide_true,BEq.rfl,Bool.true_or,Bool.or_true]
 simp only[gw,Res.int,gR,orE,n7,inB,dlt,dgt,dge,bne,dF,bj,Bool.not_not,Bool.not_and,Bool.not_or]
 have hS:∀a b c d e f:Bool,(!a|| !b|| !c|| !d|| !e||f)= !(a&&b&&(c&&d)&&(e&& !f)):=by decide
 rw[hS]
 generalize (decide (2≤a0.bE)&&decide (a0.bE≤64)&&(decide (1≤a0.pB)&&decide (a0.pB≤8))&&(decide (0≤a0.qQ)&& !decide (a0.bE≤a0.qQ)))=S
 have hW:(!decide (((a0.ae.length:Nat):Int)≤16))=decide (a0.ae.length>16):=by rw[Bool.eq_iff_iff];simp;omega
 rw[hW]
 simp only[bZ,dF]
 cases S
 ·rfl
 cases gN a0
 ·rfl
 cases w6 a0
 ·rfl
 cases hz:(ao a0.aK==0)
 ·rfl
 cases hu:(ax a0.sun==0)
 ·rfl
 cases decide (a0.ae.length>16)
 ·cases a0.ae.all bl<;>rfl
 ·rfl
theorem rU (a0:bc):∃F d,run k87 F d 33 Tryz.f33 gn (a0,())=some (gu.enc (ao a0)):=by
 refine⟨200,6,?_⟩
 rw[q7]
 simp only[gu,Res.int,ao,kA,Jd,DL]
 cases h1:inB a0.base (-720) 840
 ·rfl
 cases h2:inB a0.shift 0 120
 ·rfl
 cases h3:a0.shift==0
 ·cases g1:gS a0.on
  ·cases decide (IntKind.wrap IntKind.i64 (a0.on.month-a0.off.month)<0)<;>rfl
  cases g2:gS a0.off
  ·cases decide (IntKind.wrap IntKind.i64 (a0.on.month-a0.off.month)<0)<;>rfl
  have b1:inB a0.on.month 1 12=true:=by simp only[gS,XR]at g1;exact g1.1.1.1
  have b2:inB a0.off.month 1 12=true:=by simp only[gS,XR]at g2;exact g2.1.1.1
  rw[bx b2 b1 (by omega) (by omega)]
  have b1':=bG.1 b1
  have b2':=bG.1 b2
  unfold apart
  by_cases h:a0.on.month≤a0.off.month
  ·by_cases h':a0.on.month=a0.off.month
   ·simp[h',inB]
   ·rw[if_pos h,IntWalk.i64_in (0-(a0.on.month-a0.off.month)) (by omega),show decide (a0.on.month-a0.off.month<0)=true by simp;omega,show 0-(a0.on.month-a0.off.month)=a0.off.month-a0.on.month by omega]
    simp only[Bool.not_true,XU,XV,DL,Bool.true_and]
    cases inB (a0.off.month-a0.on.month) 2 10<;>rfl
  ·rw[if_neg h,show decide (a0.on.month-a0.off.month<0)=false by simp;omega]
   simp only[Bool.not_true,XU,XV,DL,Bool.true_and]
   cases inB (a0.on.month-a0.off.month) 2 10<;>rfl
 ·cases decide (a0.on=mO)<;>cases decide (a0.off=mO)<;>rfl
theorem sU (a0:Sun):∃F d,run k88 F d 34 Tryz.f34 gh (a0,())=some (gg.enc (ax a0)):=by
 refine⟨200,6,?_⟩
 rw[qF]
 simp only[gg,Res.int,ax,gH,List.all_cons,List.all_nil,HZ,List.cons_append,List.nil_append,DL,VN,Wg]
 cases h0:inB a0.m0 900 1320
 ·rfl
 cases h1:inB a0.m1 900 1320
 ·rfl
 cases h2:inB a0.m2 900 1320
 ·rfl
 cases h3:inB a0.m3 900 1320
 ·rfl
 cases h4:inB a0.m4 900 1320
 ·rfl
 cases h5:inB a0.m5 900 1320
 ·rfl
 cases h6:inB a0.m6 900 1320
 ·rfl
 cases h7:inB a0.m7 900 1320
 ·rfl
 cases h8:inB a0.m8 900 1320
 ·rfl
 cases h9:inB a0.m9 900 1320
 ·rfl
 cases h10:inB a0.m10 900 1320
 ·rfl
 cases h11:inB a0.m11 900 1320
 ·rfl
 simp only[bx h0 h1 (by omega) (by omega),bx h1 h2 (by omega) (by omega),bx h2 h3 (by omega) (by omega),bx h3 h4 (by omega) (by omega),bx h4 h5 (by omega) (by omega),bx h5 h6 (by omega) (by omega),bx h6 h7 (by omega) (by omega),bx h7 h8 (by omega) (by omega),bx h8 h9 (by omega) (by omega),bx h9 h10 (by omega) (by omega),bx h10 h11 (by omega) (by omega),bx h11 h0 (by omega) (by omega),LZ]
 cases inB (a0.m1-a0.m0) (-120) 120
 ·rfl
 cases inB (a0.m2-a0.m1) (-120) 120
 ·rfl
 cases inB (a0.m3-a0.m2) (-120) 120
 ·rfl
 cases inB (a0.m4-a0.m3) (-120) 120
 ·rfl
 cases inB (a0.m5-a0.m4) (-120) 120
 ·rfl
 cases inB (a0.m6-a0.m5) (-120) 120
 ·rfl
 cases inB (a0.m7-a0.m6) (-120) 120
 ·rfl
 cases inB (a0.m8-a0.m7) (-120) 120
 ·rfl
 cases inB (a0.m9-a0.m8) (-120) 120
 ·rfl
 cases inB (a0.m10-a0.m9) (-120) 120
 ·rfl
 cases inB (a0.m11-a0.m10) (-120) 120
 ·rfl
 cases inB (a0.m0-a0.m11) (-120) 120
 ·rfl
 rfl
theorem NW (l0:List (Int)) (l1:List (ag)) (Q0 Q1 Q2 Q4 Q5 Q6 Q7 Q8 Q9 Q10 Q11 Q12 Q13 Q14 Q15 Q16 Q17 Q18 Q19 Q20 Q21 Q22 Q23 Q24 Q25 Q26 Q27 Q28 Q29 Q30 Q31 Q32 Q33 Q34:Int) (Q35:Bool) (v3:Int) (F d:Nat):∀(suf pre:List Int) (n:Nat),suf.length<n→(pre++suf).length≤1048576→
  yn F (d+3) n (ta (pre++suf) l1 Q0 Q1 Q2 Q4 Q5 Q6 Q7 Q8 Q9 Q10 Q11 Q12 Q13 Q14 Q15 Q16 Q17 Q18 Q19 Q20 Q21 Q22 Q23 Q24 Q25 Q26 Q27 Q28 Q29 Q30 Q31 Q32 Q33 Q34 Q35 ((pre.length:Nat):Int))=cond (Ba Q0 pre.getLast? suf) (some (.exit 0,(qj (pre++suf) l1 Q0 Q1 Q2 Q4 Q5 Q6 Q7 Q8 Q9 Q10 Q11 Q12 Q13 Q14 Q15 Q16 Q17 Q18 Q19 Q20 Q21 Q22 Q23 Q24 Q25 Q26 Q27 Q28 Q29 Q30 Q31 Q32 Q33 Q34 Q35))) (some (.ret,(pL (pre++suf) l1 Q0 Q1 Q2 Q4 Q5 Q6 Q7 Q8 Q9 Q10 Q11 Q12 Q13 Q14 Q15 Q16 Q17 Q18 Q19 Q20 Q21 Q22 Q23 Q24 Q25 Q26 Q27 Q28 Q29 Q30 Q31 Q32 Q33 Q34 Q35))):=by
 intro suf
 induction suf with
 |nil=>
  intro pre n hn hl
  obtain⟨n,rfl⟩:∃k,n=k+1:=⟨n-1,by omega⟩
  rw[Aj,dP,XV]
  cases pre.getLast?<;>rfl
 |cons x suf ih=>
  intro pre n hn hl
  obtain⟨n,rfl⟩:∃k,n=k+1:=⟨n-1,by omega⟩
  have ih':=ih (pre++[x]) n (by simp at hn;omega) (by simpa using hl)
  have hpl:pre.length+(suf.length+1)≤1048576:=by simpa using hl
  rw[Aj]
  simp only[dZ,eW,Bool.and_self,XU,di,dX,cE hl,Bool.true_or]
  rw[←cD]at ih'
  have hout:(bif decide (x<0)then true else decide (x≥Q0))= !(decide (0≤x)&&decide (x<Q0)):=by
   rw[Bool.eq_iff_iff];simp;try omega
  rw[hout]
  rcases cU pre with rfl|⟨q,p,rfl⟩
  ·simp only[List.length_nil,show decide (((0:Nat):Int)>0)=false from rfl,Bool.and_false,Bool.not_false,Bool.or_true,XU,XV,cC,Bool.or_false,List.getLast?_nil]
   rw[show Ba Q0 none (x::suf)=((decide (0≤x)&&decide (x<Q0))&&Ba Q0 (some x) suf) from rfl]
   cases (decide (0≤x)&&decide (x<Q0))
   ·rfl
   ·simp only[Bool.not_true,Bool.true_and,XV]
    simpa using ih'
  ·have hw:IntKind.wrap IntKind.i64 ((((q++[p]).length:Nat):Int)-1)=(((q++[p]).length:Nat):Int)-1:=IntWalk.i64_in _ (by simp at hpl⊢;omega)
   have g1:(decide (0≤(((q++[p]).length:Nat):Int)-1)&&decide ((((q++[p]).length:Nat):Int)-1<(((q++[p]++x::suf).length:Nat):Int)))=true:=by simp;omega
   have g2:decide (0+Int.toNat ((((q++[p]).length:Nat):Int)-1)<(q++[p]++x::suf).length)=true:=by simp
   have g3:decide ((((q++[p]).length:Nat):Int)>0)=true:=by simp;try omega
   rw[hw]
   simp only[g1,g2,g3,Iv,Bool.true_or,XU]
   rw[show(q++[p]).getLast?=some p by simp,show Ba Q0 (some p) (x::suf)=((decide (0≤x)&&decide (x<Q0))&&decide (p<x)&&Ba Q0 (some x) suf) from rfl]
   cases (decide (0≤x)&&decide (x<Q0))
   ·rfl
   ·have hd:decide (x≤p)= !decide (p<x):=by rw[Bool.eq_iff_iff];simp
    rw[hd]
    cases decide (p<x)
    ·rfl
    ·simp only[Bool.not_true,Bool.true_and,XV,Bool.and_true]
     simpa using ih'
theorem JC (l0:List (Int)) (l1:List (ag)) (Q0 Q1 Q2 Q4 Q5 Q6 Q7 Q8 Q9 Q10 Q11 Q12 Q13 Q14 Q15 Q16 Q17 Q18 Q19 Q20 Q21 Q22 Q23 Q24 Q25 Q26 Q27 Q28 Q29 Q30 Q31 Q32 Q33 Q34:Int) (Q35:Bool) (v3:Int) (hg:(decide (l0.length≤1048576)&&v3==0)=true):∃N d,yn N d N (ta l0 l1 Q0 Q1 Q2 Q4 Q5 Q6 Q7 Q8 Q9 Q10 Q11 Q12 Q13 Q14 Q15 Q16 Q17 Q18 Q19 Q20 Q21 Q22 Q23 Q24 Q25 Q26 Q27 Q28 Q29 Q30 Q31 Q32 Q33 Q34 Q35 v3)=some (a7 Prod.mk [(Ba Q0 none l0, .exit 0,(qj l0 l1 Q0 Q1 Q2 Q4 Q5 Q6 Q7 Q8 Q9 Q10 Q11 Q12 Q13 Q14 Q15 Q16 Q17 Q18 Q19 Q20 Q21 Q22 Q23 Q24 Q25 Q26 Q27 Q28 Q29 Q30 Q31 Q32 Q33 Q34 Q35))] (.ret) (pL l0 l1 Q0 Q1 Q2 Q4 Q5 Q6 Q7 Q8 Q9 Q10 Q11 Q12 Q13 Q14 Q15 Q16 Q17 Q18 Q19 Q20 Q21 Q22 Q23 Q24 Q25 Q26 Q27 Q28 Q29 Q30 Q31 Q32 Q33 Q34 Q35)):=by
 simp only[XR,XT,beq_iff_eq]at hg
 obtain⟨h1,rfl⟩:=hg
 have:=NW l0 l1 Q0 Q1 Q2 Q4 Q5 Q6 Q7 Q8 Q9 Q10 Q11 Q12 Q13 Q14 Q15 Q16 Q17 Q18 Q19 Q20 Q21 Q22 Q23 Q24 Q25 Q26 Q27 Q28 Q29 Q30 Q31 Q32 Q33 Q34 Q35 0 (l0.length+3) 0 l0 [] (l0.length+3) (by omega) (by simpa using h1)
 refine⟨l0.length+3,3,?_⟩
 simp only[List.nil_append,List.length_nil,List.getLast?_nil]at this
 rw[show((0:Nat):Int)=0 from rfl]at this
 rw[this]
 cases h:Ba Q0 none l0<;>simp[a7,h]
theorem wh {f g:Int→Bool} (h:∀x,f x=g x):∀(l:List Int) (p:Option Int),Ed f p l=Ed g p l
 | [],p=>by cases p<;>rfl
 |x::l,none=>by simp only[Ed,h,wh h l]
 |x::l,some p=>by simp only[Ed,h,wh h l]
theorem GJ (c:Config):gR c=af c:=by
 unfold gR af
 by_cases hf:2≤c.bE∧c.bE≤64
 ·have hw:IntKind.i64.wrap (c.bE-1)=c.bE-1:=IntWalk.i64_in _ (by omega)
  have h1:n7 c=Fs c:=by
   unfold n7 Fs
   rw[hw]
   congr 1
   rw[Bool.eq_iff_iff]
   simp[inB]
   omega
  have h2:gN c=HG c:=by
   unfold gN HG Ba FY
   rw[hw]
   congr 1
   refine wh (fun x=>?_) _ _
   rw[Bool.eq_iff_iff]
   simp[inB]
   omega
  rw[h1,h2]
  rfl
 ·have h0:inB c.bE 2 64=false:=by
   rw[Bool.eq_false_iff]
   intro h
   exact hf (bG.1 h)
  have h1:n7 c=false:=by simp[n7,h0]
  have h2:Fs c=false:=by simp[Fs,h0]
  simp[cF,h1,h2,dF,orE]
end Go.Proofs.YtfhepbbkggdlcaaGreatDoor.Px.PxT
