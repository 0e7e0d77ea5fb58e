/- Spans: what they come to. -/
import Derived.Test.YtdadgkgkdgnihaaPxVProofs
set_option linter.unusedVariables false
set_option linter.unusedSimpArgs false
namespace Go.Proofs.Ytdadgkgkdgnihaa.Px.PxV
open Go Go.Proofs
theorem vf:IntKind.wrap IntKind.i64 (((([]:List Span).length:Nat):Int)-1)= -1:=by rfl
theorem uD {q:List Span} {p:Span} (h:(q++[p]).length≤1048576):IntKind.wrap IntKind.i64 ((((q++[p]).length:Nat):Int)-1)=((q.length:Nat):Int):=by
 rw[IntWalk.i64_in _ (by simp at h⊢;omega)];simp
theorem wX {q:List Span} {p z:Span}:List.getD (q++[p]) (0+Int.toNat ((q.length:Nat):Int)) z=p:=by simp
theorem x5 {q:List Span} {p z:Span}:List.set (q++[p]) (0+Int.toNat ((q.length:Nat):Int)) z=q++[z]:=by simp
theorem wY {q:List Span} {p:Span}:decide (((q.length:Nat):Int)<(((q++[p]).length:Nat):Int))=true:=by simp;omega
theorem zR {q:List Span} {p:Span}:decide (0+Int.toNat ((q.length:Nat):Int)<(q++[p]).length)=true:=by simp
theorem zN {q:List Span}:decide (((q.length:Nat):Int)≥0)=true:=by simp
theorem zz:(⟨0,0,0,0⟩:Span)=bt:=rfl
theorem AB (l0:List (Span)) (l4:List (Int)) (l7:List (Span)) (v3:Int) (F d:Nat) (hL:l0.length≤1048576):∀(es pre:List Int) (a:Int) (out:List Span) (n:Nat),es.length<n→(pre++a::es).length≤1000→out.length≤pre.length→
  pR F (d+3) n (ow l0 (pre++a::es) out ((pre.length+1:Nat):Int))=some (.exit 0,(nr l0 (pre++a::es) (c8 l0 (a::es) out))):=by
 intro es
 induction es with
 |nil=>
  intro pre a out n hn hl ho
  obtain⟨n,rfl⟩:∃k,n=k+1:=⟨n-1,by omega⟩
  have:decide (((pre.length+1:Nat):Int)<(((pre++[a]).length:Nat):Int))=false:=by simp
  rw[oa,this,B5]
  rfl
 |cons b es ih=>
  intro pre a out n hn hl ho
  obtain⟨n,rfl⟩:∃k,n=k+1:=⟨n-1,by omega⟩
  have hpl:pre.length+(es.length+1+1)≤1000:=by simpa using hl
  have ih':=fun o ho=>ih (pre++[a]) b o n (by simp at hn;omega) (by simpa using hl) ho
  have e0:IntKind.wrap .i64 (((pre.length+1:Nat):Int)-1)=((pre.length:Nat):Int):=by rw[IntWalk.i64_in _ (by omega)];simp
  have t1:decide (((pre.length+1:Nat):Int)<(((pre++a::b::es).length:Nat):Int))=true:=by simp<;>omega
  have t3:decide (0+Int.toNat ((pre.length+1:Nat):Int)<(pre++a::b::es).length)=true:=by simp
  have gb:List.getD (pre++a::b::es) (0+Int.toNat ((pre.length+1:Nat):Int)) 0=b:=by
   simp
  have e4:IntKind.wrap .i64 (((pre.length+1:Nat):Int)+1)=(((pre++[a]).length+1:Nat):Int):=by rw[IntWalk.i64_in _ (by omega)];simp
  rw[←bq]at ih'
  have hs:aL l0 a=true:=by simpa[aL,aE]using hL
  have hol:Nat.ble out.length 1048576=true:=by simp;omega
  rw[oa]
  simp only[t1,t3,e0,gb,e4,bU,bX,Bool.and_self,B4,br,bT,eU,sx,hs,hol,Bool.and_true,Bool.true_and]
  have hgo:c8 l0 (a::b::es) out=c8 l0 (b::es) (cL l0 out a b):=rfl
  rw[hgo]
  obtain⟨w1,w2⟩:=jD l0 a
  have ih2:=ih' (cL l0 out a b) (by have:=fP l0 out a b;simp;omega)
  rw[←ih2]
  cases hw:decide (ag l0 a<0)with
  |true=>
   rw[B4]
   rcases ee out with rfl|⟨q,p,rfl⟩
   ·rw[fj,hw];rfl
   ·rw[dZ,hw];rfl
  |false=>
   simp only[decide_eq_false_iff_not]at hw
   have i1:(decide (0≤ag l0 a)&&decide (ag l0 a<((l0.length:Nat):Int)))=true:=by simp;omega
   have i2:decide (0+Int.toNat (ag l0 a)<l0.length)=true:=by simp;omega
   have i3:decide (ag l0 a<0)=false:=by simpa using hw
   rw[B5]
   simp only[i1,i2,Bool.true_or,B4,cu,zz]
   rcases ee out with rfl|⟨q,p,rfl⟩
   ·simp only[vf,fj,i3,B5]
    simp
   ·simp only[uD (Nat.le_trans ho (by omega)),wX,x5,wY,zR,zN,Bool.true_or,B4,Bool.true_and]
    simp only[dZ,i3,B5,Nat.zero_add]
    cases hc:(p.to_==a&&p.mode==(l0.getD (ag l0 a).toNat bt).mode)
    ·simp only[B5]
    ·simp only[B4,List.length_append,List.length_singleton,eU]
theorem w9 (l0:List (Span)) (l4:List (Int)) (l7:List (Span)) (v3:Int) (hg:(decide (l0.length≤1048576)&&(decide (l4.length≤1000)&&(v3==1&&l7.length==0)))=true):∃N d,pR N d N (ow l0 l4 l7 v3)=some (aQ Prod.mk [] (.exit 0) (nr l0 l4 (c8 l0 l4 []))):=by
 simp only[B1,B3,beq_iff_eq]at hg
 obtain⟨h1,h2,rfl,h4⟩:=hg
 have h5:l7=[]:=List.length_eq_zero_iff.1 h4
 subst h5
 cases l4 with
 |nil=>
  refine⟨1,3,?_⟩
  rw[oa]
  simp[aQ,c8]
 |cons a es=>
  have:=AB l0 [] [] 0 ((a::es).length+3) 0 h1 es [] a [] ((a::es).length+3) (by simp;omega) (by simpa using h2) (by simp)
  exact⟨(a::es).length+3,3,by simpa[aQ]using this⟩
theorem lR (a0:List Span) (hg:aE a0=true):∃F d,mQ k18 F d 10 Try.f10 fg fh (a0,())=some (aM a0):=by
 refine⟨200,6,?_⟩
 rw[kJ]
 simp only[aE,B3]at hg
 have hfin:∀(hl:a0.length≤500),(Nat.ble (ax a0).length 1048576=true∧Nat.beq (ax a0).length (bn (ax a0)).length=true∧Nat.ble (bn (ax a0)).length 1048576=true∧decide ((cH (bn (ax a0))).length≤1000)=true∧decide (a0.length≤1000)=true):=by
  intro hl
  have:=df a0
  have:=kR (ax a0)
  have:=iF a0
  unfold eE at this
  refine⟨by simp;omega,by simp;omega,by simp;omega,by simp;omega,by simp;omega⟩
 by_cases hl:a0.length≤500
 ·obtain⟨k1,k2,k3,k4,k5⟩:=hfin hl
  have e1:decide (((a0.length:Nat):Int)>500)=false:=by simp;omega
  simp only[e1,Bool.not_false,Bool.not_true,B4,B5,eU,sx,hg,k1,k2,k3,k4,k5,decide_true,Bool.true_and,Bool.and_true,Bool.and_self,beq_self_eq_true]
  cases hc:(a0.all fun s=> !dF s)
  ·simp[aM,kK,hc]
  ·simp[aM,kK,hc,hl,aU,eE]
 ·have e1:decide (((a0.length:Nat):Int)>500)=true:=by simp;omega
  simp only[e1,Bool.not_false,Bool.not_true,B4,B5]
  simp[aM,kK,hl]
theorem zY (l0:List (Span)) (v3:Int) (F d:Nat):∀(suf pre:List Span) (n:Nat),suf.length<n→(pre++suf).length≤1048576→
  vc F (d+3) n (ry (pre++suf) ((pre.length:Nat):Int))=cond (suf.all fun s=> !dF s) (some (.exit 0,(nE (pre++suf)))) (some (.ret,(mZ (pre++suf)))):=by
 intro suf
 induction suf with
 |nil=>
  intro pre n hn hl
  obtain⟨n,rfl⟩:∃k,n=k+1:=⟨n-1,by omega⟩
  rw[sL,bu,B5]
  rfl
 |cons x suf ih=>
  intro pre n hn hl
  obtain⟨n,rfl⟩:∃k,n=k+1:=⟨n-1,by omega⟩
  have ih':=ih (pre++[x]) n (by simp at hn;omega) (by simpa using hl)
  rw[sL]
  simp only[bU,bX,Bool.and_self,B4,br,bT,bb hl]
  rw[←bq]at ih'
  have hi:decide (x.from_≥x.to_)=dF x:=rfl
  rw[hi]
  cases hw:dF x
  ·rw[B5,ih']
   simp only[List.all_cons,hw,Bool.not_false,Bool.true_and]
  ·simp[hw]
theorem yp (l0:List (Span)) (v3:Int) (hg:(decide (l0.length≤1048576)&&v3==0)=true):∃N d,vc N d N (ry l0 v3)=some (aQ Prod.mk [(l0.all fun s=> !dF s, .exit 0,(nE l0))] (.ret) (mZ l0)):=by
 simp only[B1,B3,beq_iff_eq]at hg
 obtain⟨h1,rfl⟩:=hg
 have:=zY l0 0 (l0.length+3) 0 l0 [] (l0.length+3) (by omega) (by simpa using h1)
 refine⟨l0.length+3,3,?_⟩
 simp only[List.nil_append,List.length_nil,Nat.zero_add]at this
 rw[show((0:Nat):Int)=0 from rfl]at this
 rw[this]
 cases h:(l0.all fun s=> !dF s)<;>simp[aQ,h]
theorem kq (a0:List Span) (hg:aE a0=true):∃F d,run k20 F d 12 Try.f12 dQ (a0,())=some (gj.enc (kK a0)):=by
 refine⟨200,6,?_⟩
 rw[jx]
 simp only[aE,B3]at hg
 simp only[eU,hg,decide_true,Bool.true_and,Bool.and_true,Bool.and_self,beq_self_eq_true,B4]
 have e:decide (((a0.length:Nat):Int)≤500)=decide (a0.length≤500):=by rw[Bool.eq_iff_iff];simp;omega
 cases h:(a0.all fun s=> !dF s)
 ·simp only[B5,kK,h,Bool.false_and]
  rfl
 ·simp only[B4,kK,h,Bool.true_and,e]
  rfl
theorem jv (a0:Span) (a1:Span):∃F d,run k21 F d 34 Try.f34 dh (a0,a1,())=some (fy.enc (oZ a0 a1)):=by
 refine⟨200,6,?_⟩
 rw[iA]
 have:oZ a0 a1=cond (a0.prio != a1.prio) (decide (a0.prio>a1.prio)) (decide (a0.from_≥a1.from_)):=by
  rw[Bool.eq_iff_iff]
  by_cases h:a0.prio=a1.prio
  ·simp[oZ,dA,h]
  ·have hb:(a0.prio != a1.prio)=true:=by simpa using h
   have hb2:(a0.prio==a1.prio)=false:=by simpa using h
   simp[oZ,dA,hb,hb2]
   omega
 rw[this]
 cases (a0.prio != a1.prio)<;>rfl
theorem Be (l0:List (Span)) (v1 v5 v6:Int) (F d:Nat):∀(suf pre:List Span) (best:Int) (n:Nat),suf.length<n→(pre++suf).length≤1048576→ -1≤best→best<(pre.length:Int)→
  sQ F (d+3) n (rX (pre++suf) v1 best ((pre.length:Nat):Int))=some (.exit 0,(qj (pre++suf) (wGo (pre++suf) v1 suf ((pre.length:Nat):Int) best))):=by
 intro suf
 induction suf with
 |nil=>
  intro pre best n hn hl h1 h2
  obtain⟨n,rfl⟩:∃k,n=k+1:=⟨n-1,by omega⟩
  rw[uO,bu,B5]
  rfl
 |cons x suf ih=>
  intro pre best n hn hl h1 h2
  obtain⟨n,rfl⟩:∃k,n=k+1:=⟨n-1,by omega⟩
  have ih':=fun b h1 h2=>ih (pre++[x]) b n (by simp at hn;omega) (by simpa using hl) h1 h2
  rw[uO]
  simp only[bU,bX,Bool.and_self,B4,br,bT,bb hl,Bool.true_or,iO]
  rw[←bq]at ih'
  conv=>rhs;unfold wGo
  have hin:(decide (v1<x.from_)||decide (v1≥x.to_))= !inS x v1:=by
   rw[Bool.eq_iff_iff];simp[inS]<;>omega
  rw[hin]
  have e3:(((pre++[x]).length:Nat):Int)=((pre.length:Nat):Int)+1:=by simp
  cases hx:inS x v1
  ·simp only[Bool.not_false,B4,Bool.false_and,B5]
   rw[ih' best h1 (by rw[e3];omega),e3]
  ·simp only[Bool.not_true,B5,Bool.true_and]
   by_cases hb:best<0
   ·simp only[hb,decide_true,B4,Bool.true_or]
    rw[ih' _ (by omega) (by rw[e3];omega),e3]
   ·have i1:(decide (0≤best)&&decide (best<(((pre++x::suf).length:Nat):Int)))=true:=by simp;omega
    have i2:decide (0+Int.toNat best<(pre++x::suf).length)=true:=by simp;omega
    simp only[hb,decide_false,B5,i1,i2,B4,Bool.false_or,oZ,zz]
    simp only[Nat.zero_add]
    cases (!dA x (List.getD (pre++x::suf) best.toNat bt))
    ·rw[B5,B5,ih' best h1 (by rw[e3];omega),e3]
    ·rw[B4,B4,ih' _ (by omega) (by rw[e3];omega),e3]
theorem yQ (l0:List (Span)) (v1 v5 v6:Int) (hg:(decide (l0.length≤1048576)&&(v5== -1&&v6==0))=true):∃N d,sQ N d N (rX l0 v1 v5 v6)=some (aQ Prod.mk [] (.exit 0) (qj l0 (ag l0 v1))):=by
 simp only[B1,B3,beq_iff_eq]at hg
 obtain⟨h1,rfl,rfl⟩:=hg
 have:=Be l0 v1 (-1) 0 (l0.length+3) 0 l0 [] (-1) (l0.length+3) (by omega) (by simpa using h1) (by omega) (by simp)
 exact⟨l0.length+3,3,by simpa[aQ,ag]using this⟩
theorem fp (a0:List Span) (a1:Int) (hg:aL a0 a1=true):∃F d,run k23 F d 26 Try.f26 bG (a0,a1,())=some (c9.enc (ag a0 a1)):=by
 refine⟨200,6,?_⟩
 rw[fc]
 simp only[aL,aE,B3]at hg
 simp only[eU,hg,decide_true,Bool.true_and,Bool.and_true,Bool.and_self,beq_self_eq_true,B4]
 rfl
theorem Aq (l0:List (Span)) (v1 v6:Int) (v7:Bool) (v8:Int) (F d:Nat):∀(suf pre:List Span) (m:Int) (h:Bool) (n:Nat),suf.length<n→(pre++suf).length≤1048576→
  oS F (d+3) n (mo (pre++suf) v1 m h ((pre.length:Nat):Int))=some (.exit 0,(nd (pre++suf) (nGo v1 suf m h).1 (nGo v1 suf m h).2)):=by
 intro suf
 induction suf with
 |nil=>
  intro pre m h n hn hl
  obtain⟨n,rfl⟩:∃k,n=k+1:=⟨n-1,by omega⟩
  rw[rU,bu,B5]
  rfl
 |cons x suf ih=>
  intro pre m h n hn hl
  obtain⟨n,rfl⟩:∃k,n=k+1:=⟨n-1,by omega⟩
  have ih':=fun m h=>ih (pre++[x]) m h n (by simp at hn;omega) (by simpa using hl)
  rw[rU]
  simp only[bU,bX,Bool.and_self,B4,br,bT,bb hl,Bool.true_or,iO,cu,B5]
  rw[←bq]at ih'
  have hgo:nGo v1 (x::suf) m h=nGo v1 suf (nP1 v1 x.to_ (nP1 v1 x.from_ m h) (nP2 v1 x.from_ m h)) (nP2 v1 x.to_ (nP1 v1 x.from_ m h) (nP2 v1 x.from_ m h)):=rfl
  rw[hgo,←ih']
  cases h1:(decide (x.from_>v1)&&(!h||decide (x.from_<m)))
  ·have p1:nP1 v1 x.from_ m h=m:=by simp only[nP1,h1,B5]
   have p2:nP2 v1 x.from_ m h=h:=by simp only[nP2,h1,B5]
   rw[p1,p2,B5]
   cases h2:(decide (x.to_>v1)&&(!h||decide (x.to_<m)))
   ·simp only[nP1,nP2,h2,B5]
   ·simp only[nP1,nP2,h2,B4]
  ·have p1:nP1 v1 x.from_ m h=x.from_:=by simp only[nP1,h1,B4]
   have p2:nP2 v1 x.from_ m h=true:=by simp only[nP2,h1,B4]
   rw[p1,p2,B4]
   cases h2:(decide (x.to_>v1)&&decide (x.to_<x.from_))
   ·simp only[nP1,nP2,Bool.not_true,Bool.false_or,h2,B5]
   ·simp only[nP1,nP2,Bool.not_true,Bool.false_or,h2,B4]
theorem xf (l0:List (Span)) (v1 v6:Int) (v7:Bool) (v8:Int) (hg:(decide (l0.length≤1048576)&&(v6==0&&(v7==false&&v8==0)))=true):∃N d,oS N d N (mo l0 v1 v6 v7 v8)=some (aQ Prod.mk [] (.exit 0) (nd l0 (aI l0 v1).1 (aI l0 v1).2)):=by
 simp only[B1,B3,beq_iff_eq]at hg
 obtain⟨h1,rfl,rfl,rfl⟩:=hg
 have:=Aq l0 v1 0 false 0 (l0.length+3) 0 l0 [] 0 false (l0.length+3) (by omega) (by simpa using h1)
 exact⟨l0.length+3,3,by simpa[aQ,aI]using this⟩
theorem ju (a0:List Span) (a1:Int) (hg:aL a0 a1=true):∃F d,run k25 F d 25 Try.f25 dB (a0,a1,())=some (fE.enc (aI a0 a1)):=by
 refine⟨200,6,?_⟩
 rw[hP]
 simp only[aL,aE,B3]at hg
 simp only[eU,hg,decide_true,Bool.true_and,Bool.and_true,Bool.and_self,beq_self_eq_true,B4]
 rfl
theorem Ax (l0:List (Span)) (v3 v4:Int) (F d:Nat):∀(suf pre:List Span) (m:Int) (n:Nat),suf.length<n→(pre++suf).length≤1048576→
  sO F (d+3) n (pT (pre++suf) m ((pre.length:Nat):Int))=some (.exit 0,(nb (pre++suf) (lGo suf m))):=by
 intro suf
 induction suf with
 |nil=>
  intro pre m n hn hl
  obtain⟨n,rfl⟩:∃k,n=k+1:=⟨n-1,by omega⟩
  rw[ru,bu,B5]
  rfl
 |cons x suf ih=>
  intro pre m n hn hl
  obtain⟨n,rfl⟩:∃k,n=k+1:=⟨n-1,by omega⟩
  have ih':=fun m=>ih (pre++[x]) m n (by simp at hn;omega) (by simpa using hl)
  rw[ru]
  simp only[bU,bX,Bool.and_self,B4,br,bT,bb hl]
  rw[←bq]at ih'
  conv=>rhs;unfold lGo
  cases decide (x.from_<m)
  ·rw[B5,B5,ih']
  ·rw[B4,B4,ih']
theorem wU (l0:List (Span)) (v3 v4:Int) (hg:(decide (l0.length≤1048576)&&v4==0)=true):∃N d,sO N d N (pT l0 v3 v4)=some (aQ Prod.mk [] (.exit 0) (nb l0 (lGo l0 v3))):=by
 simp only[B1,B3,beq_iff_eq]at hg
 obtain⟨h1,rfl⟩:=hg
 have:=Ax l0 v3 0 (l0.length+3) 0 l0 [] v3 (l0.length+3) (by omega) (by simpa using h1)
 exact⟨l0.length+3,3,by simpa[aQ]using this⟩
theorem ij (a0:List Span) (hg:pM a0=true):∃F d,run k27 F d 24 Try.f24 cX (a0,())=some (fi.enc (bJ a0)):=by
 refine⟨200,6,?_⟩
 rw[hM]
 simp only[pM,aE,B1,B3]at hg
 have e1:decide ((0:Int)<((a0.length:Nat):Int))=true:=by simp;omega
 simp only[eU,hg.1,hg.2,e1,gt_iff_lt,decide_true,Bool.true_and,Bool.and_true,Bool.and_self,beq_self_eq_true,B4]
 rfl
theorem zg (l0 l1:List (Span)) (v4 v5:Int) (v6:Bool) (F d:Nat) (hL:l0.length≤500):∀(k:List Int) (a:Int) (out:List Span) (n:Nat),yf l0 a≤k.length→k.length<n→out.length+k.length≤1048576→
  lV F (d+3) n (j7 l0 out a (aI l0 a).1 (aI l0 a).2)=some (.exit 0,(kB l0 (kF l0 k a (aI l0 a).1 (aI l0 a).2 out))):=by
 intro k
 induction k with
 |nil=>
  intro a out n hc hn ho
  obtain⟨n,rfl⟩:∃k,n=k+1:=⟨n-1,by omega⟩
  rw[me,wa (by simpa using hc),B5]
  rfl
 |cons y k ih=>
  intro a out n hc hn ho
  obtain⟨n,rfl⟩:∃k,n=k+1:=⟨n-1,by omega⟩
  conv=>rhs;unfold kF
  cases hm:(aI l0 a).2 with
  |false=>rw[me,B5];rfl
  |true=>
   have hcn:=vR hm
   have hol1:out.length+(k.length+1)≤1048576:=by simpa using ho
   have ih2:=ih (aI l0 a).1 (cL l0 out a (aI l0 a).1) n (by simp at hc;omega) (by simp at hn;omega) (by have:=fP l0 out a (aI l0 a).1;omega)
   have hs:∀t,aL l0 t=true:=fun t=>by simp[aL,aE];omega
   have hol:Nat.ble out.length 1048576=true:=by simp;omega
   rw[me,B4,B4,←ih2]
   simp only[eU,sx,hs,hol,Bool.and_true,Bool.true_and,Bool.and_self,B4,cu]
   obtain⟨w1,w2⟩:=jD l0 a
   cases hw:decide (ag l0 a<0)with
   |true=>
    have hg:decide (ag l0 a≥0)=false:=by simp at hw⊢;omega
    simp only[hg,Bool.false_and,Bool.not_false,Bool.or_true,B4,B5]
    rcases ee out with rfl|⟨q,p,rfl⟩
    ·rw[fj,hw];rfl
    ·rw[dZ,hw];rfl
   |false=>
    have hw':¬ag l0 a<0:=by simpa using hw
    have hg:decide (ag l0 a≥0)=true:=by simp;omega
    have i1:decide (ag l0 a<((l0.length:Nat):Int))=true:=by simp;omega
    have i2:decide (0+Int.toNat (ag l0 a)<l0.length)=true:=by simp;omega
    simp only[hg,i1,Bool.and_self,i2,Bool.true_or,B4,Bool.true_and,zz]
    rcases ee out with rfl|⟨q,p,rfl⟩
    ·simp only[vf,fj,hw,B5]
     simp
    ·simp only[uD (show(q++[p]).length≤1048576 by omega),wX,x5,wY,zR,zN,Bool.true_or,B4,Bool.true_and]
     simp only[dZ,hw,B5,Nat.zero_add]
     cases hc:(p.to_==a&&p.mode==(l0.getD (ag l0 a).toNat bt).mode)
     ·simp only[B5]
     ·simp only[B4,List.length_append,List.length_singleton,eU]
theorem wg (l0 l1:List (Span)) (v4 v5:Int) (v6:Bool) (hg:(decide (l0.length≤500)&&(l1.length==0&&(v5==(aI l0 v4).1&&v6==(aI l0 v4).2)))=true):∃N d,lV N d N (j7 l0 l1 v4 v5 v6)=some (aQ Prod.mk [] (.exit 0) (kB l0 (kF l0 (ax l0) v4 v5 v6 []))):=by
 simp only[B1,B3,beq_iff_eq]at hg
 obtain⟨h1,h2,rfl,rfl⟩:=hg
 have h5:l1=[]:=List.length_eq_zero_iff.1 h2
 subst h5
 have:=zg l0 [] 0 0 false (2*l0.length+4) 0 h1 (ax l0) v4 [] (2*l0.length+4) (y0 _ _) (by rw[df];omega) (by rw[df];simp;omega)
 exact⟨2*l0.length+4,3,by simpa[aQ]using this⟩
theorem gq (a0:List Span) (hg:ub a0=true):∃F d,mQ k29 F d 14 Try.f14 ck ct (a0,())=some (Aw a0):=by
 refine⟨200,6,?_⟩
 rw[fY]
 simp only[ub,B3]at hg
 by_cases h0:a0.length=0
 ·have:a0=[]:=List.length_eq_zero_iff.1 h0
  subst this
  rfl
 ·have e1:((((a0.length:Nat):Int))==0)=false:=by simp;exact fun e=>h0 (by rw[e];rfl)
  have e2:decide (a0.length>0)=true:=by simp;omega
  have e3:pM a0=true:=by simp[pM,aE];omega
  have e4:∀t,aL a0 t=true:=fun t=>by simp[aL,aE];omega
  simp only[e1,e3,e4,eU,sx,hg,decide_true,Bool.true_and,Bool.and_true,Bool.and_self,beq_self_eq_true,B4,B5]
  simp only[Aw,e2,B4]
end Go.Proofs.Ytdadgkgkdgnihaa.Px.PxV
