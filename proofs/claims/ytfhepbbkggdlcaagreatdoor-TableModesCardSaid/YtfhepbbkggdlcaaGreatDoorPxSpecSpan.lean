/- Spans, as plain functions. -/
import Derived.Test.YtfhepbbkggdlcaaGreatDoorPxApi0
import Derived.Test.YtfhepbbkggdlcaaGreatDoorPxSpecSort
import Derived.Test.YtfhepbbkggdlcaaGreatDoorPxIdx
import Derived.Test.YtfhepbbkggdlcaaGreatDoorPxSpecFeast
set_option linter.unusedVariables false
set_option linter.unusedSimpArgs false
namespace Go.Proofs.YtfhepbbkggdlcaaGreatDoor.Px
open Go
def cU:Span:=⟨0,0,0,0⟩
def inS (s:Span) (t:Int):Bool:=decide (s.from_≤t)&&decide (t<s.to_)
def mH (a b:Span):Bool:=decide (a.prio<b.prio)||(a.prio==b.prio&&decide (a.from_<b.from_))
def dd (l:List Span):Bool:=decide (l.length≤1048576)
def gR (l:List Span) (t:Int):Bool:=l.any fun s=>inS s t
def atIdx (l:List Span) (t:Int):Int:=(l.findIdx fun s=>inS s t:Nat)
def eD (l:List Span) (t:Int):Span×Bool:=cond (gR l t) (l.getD (atIdx l t).toNat cU,true) (cU,false)
def bl (l:List Span) (_:Int):Bool:=dd l
def iQ (s:Span) (a b:Int):Span:=⟨cond (decide (a>s.from_)) a s.from_,cond (decide (b<s.to_)) b s.to_,s.mode,s.prio⟩
def ou:List Span→Int→Int→List Span
 | [],_,_=>[]
 |s::l,a,b=>cond (decide ((iQ s a b).from_<(iQ s a b).to_)) (iQ s a b::ou l a b) (ou l a b)
def oh (l:List Span) (_ _:Int):Bool:=dd l
def nD (s:Span):Bool:=decide (s.from_≥s.to_)
def JB (l:List Span):Int:=(l.findIdx nD:Nat)
def zi (l:List Span):Bool:=l.all (fun s=> !nD s)&&decide (l.length≤500)
def wGo (L:List Span) (t:Int):List Span→Int→Int→Int
 | [],_,best=>best
 |s::l,i,best=>wGo L t l (i+1) (cond (inS s t&&(decide (best<0)|| !mH s (L.getD best.toNat cU))) i best)
def az (l:List Span) (t:Int):Int:=wGo l t l 0 (-1)
def aS:List Span→List Int
 | []=>[]
 |s::l=>s.from_::s.to_::aS l
def kI (l:List Span):List Int:=fi (dh (aS l))
def eM (l out:List Span) (a b:Int):List Span:=
 cond (decide (az l a<0)) out
  (cond (decide (out.length>0)&&((out.getD (out.length-1) cU).to_==a&&(out.getD (out.length-1) cU).mode==(l.getD (az l a).toNat cU).mode))
   (out.set (out.length-1) ⟨(out.getD (out.length-1) cU).from_,b,(out.getD (out.length-1) cU).mode,(out.getD (out.length-1) cU).prio⟩)
   (out++[⟨a,b,(l.getD (az l a).toNat cU).mode,0⟩]))
def fJ (l:List Span):List Int→List Span→List Span
 |a::b::es,out=>fJ l (b::es) (eM l out a b)
 |_,out=>out
def eQ (l:List Span):List Span:=fJ l (kI l) []
def bA (l:List Span):List Span×Int:=cond (zi l) (eQ l,0) ([],130)
def CS (a b:Span):Bool:= !mH a b
def nP1 (t e n:Int) (h:Bool):Int:=cond (decide (e>t)&&(!h||decide (e<n))) e n
def nP2 (t e n:Int) (h:Bool):Bool:=cond (decide (e>t)&&(!h||decide (e<n))) true h
def nGo (t:Int):List Span→Int→Bool→Int×Bool
 | [],n,h=>(n,h)
 |s::l,n,h=>nGo t l (nP1 t s.to_ (nP1 t s.from_ n h) (nP2 t s.from_ n h)) (nP2 t s.to_ (nP1 t s.from_ n h) (nP2 t s.from_ n h))
def bm (l:List Span) (t:Int):Int×Bool:=nGo t l 0 false
def lGo:List Span→Int→Int
 | [],n=>n
 |s::l,n=>lGo l (cond (decide (s.from_<n)) s.from_ n)
def df (l:List Span):Int:=lGo l (l.getD 0 cU).from_
def EF (l:List Span):Bool:=dd l&&decide (l.length>0)
def rV (l:List Span):List Int→Int→Int→Bool→List Span→List Span
 | [],_,_,_,out=>out
 |_::k,a,b,m,out=>cond m (rV l k b (bm l b).1 (bm l b).2 (eM l out a b)) out
def zg (l:List Span):List Span:=cond (decide (l.length>0)) (rV l (aS l) (df l) (bm l (df l)).1 (bm l (df l)).2 []) []
def yP (l:List Span):Bool:=decide (l.length≤500)
def Pk (l:List Span):List Span:=l.map fun s=>{s with prio:=0}
end Go.Proofs.YtfhepbbkggdlcaaGreatDoor.Px


namespace Go.Proofs.YtfhepbbkggdlcaaGreatDoor.Px
open Go
theorem zb (L:List Span) (t:Int):∀(l:List Span) (i:Nat) (best:Int),-1≤best→best<i→ -1≤wGo L t l i best∧wGo L t l i best<((i+l.length:Nat):Int)
 | [],i,best,h1,h2=>by simp[wGo];omega
 |s::l,i,best,h1,h2=>by
  unfold wGo
  have e:(i:Int)+1=((i+1:Nat):Int):=by simp
  rw[e]
  cases hc:(inS s t&&(decide (best<0)|| !mH s (L.getD best.toNat cU)))
  ·have:=zb L t l (i+1) best h1 (by omega)
   simp only[W2,List.length_cons]
   refine⟨this.1,?_⟩
   have:=this.2
   omega
  ·have:=zb L t l (i+1) i (by omega) (by omega)
   simp only[WZ,List.length_cons]
   refine⟨this.1,?_⟩
   have:=this.2
   omega
theorem uQ (l:List Span) (t:Int): -1≤az l t∧az l t<(l.length:Int):=by
 have:=zb l t l 0 (-1) (by omega) (by omega)
 simpa[az]using this
theorem fa:∀l:List Span,(aS l).length=2*l.length
 | []=>rfl
 |s::l=>by simp[aS,fa l];omega
theorem xY (l:List Int):(dh l).length=l.length:=(lP l).length_eq
theorem nk:∀(l:List Int) (o:Option Int),(di o l).length≤l.length
 | [],o=>by cases o<;>simp[di]
 |x::l,none=>by simp[di,nk l]
 |x::l,some p=>by
  unfold di
  have:=nk l (some x)
  cases x==p<;>simp<;>omega
theorem lA (l:List Span):(kI l).length≤2*l.length:=by
 have:=nk (dh (aS l)) none
 rw[xY,fa]at this
 exact this
theorem nt (l out:List Span) (a b:Int):(eM l out a b).length≤out.length+1:=by
 unfold eM
 cases decide (az l a<0)
 ·simp only[W2]
  cases (decide (out.length>0)&&((out.getD (out.length-1) cU).to_==a&&(out.getD (out.length-1) cU).mode==(l.getD (az l a).toNat cU).mode))<;>simp
 ·simp
theorem xj (l:List Span):∀(es:List Int) (out:List Span),(fJ l es out).length≤out.length+es.length
 | [],out=>by simp[fJ]
 | [a],out=>by simp[fJ]
 |a::b::es,out=>by
  have:=xj l (b::es) (eM l out a b)
  have:=nt l out a b
  simp only[fJ,List.length_cons]at*
  omega
theorem qa (l:List Span):(eQ l).length≤2*l.length:=by
 have:=xj l (kI l) []
 have:=lA l
 simp[eQ]at*
 omega
theorem Og {l:List Span} {t:Int} (h:gR l t=true):0≤atIdx l t∧atIdx l t<(l.length:Int):=by
 unfold gR at h
 unfold atIdx
 rw[List.any_eq_true]at h
 have:=List.findIdx_lt_length_of_exists (p:=fun s=>inS s t) (by simpa using h)
 omega
theorem LX (t e n:Int) (h:Bool) (hn:h=true→n>t):(nP2 t e n h=true↔h=true∨e>t)∧(nP2 t e n h=true→nP1 t e n h>t∧(nP1 t e n h=e∨(nP1 t e n h=n∧h=true))∧(h=true→nP1 t e n h≤n)∧(e>t→nP1 t e n h≤e)):=by
 unfold nP1 nP2
 by_cases h1:e>t<;>cases h<;>by_cases h2:e<n<;>simp[h1,h2]<;>(try have:=hn rfl)<;>omega
theorem B0 (t:Int):∀(l:List Span) (n:Int) (h:Bool),(h=true→n>t)→((nGo t l n h).2=true↔h=true∨∃e∈aS l,e>t)∧
  ((nGo t l n h).2=true→(nGo t l n h).1>t∧((nGo t l n h).1∈aS l∨((nGo t l n h).1=n∧h=true))∧(h=true→(nGo t l n h).1≤n)∧∀e∈aS l,e>t→(nGo t l n h).1≤e)
 | [],n,h,hn=>by simp[nGo,aS];exact fun e=>⟨hn e,e⟩
 |s::l,n,h,hn=>by
  obtain⟨p1,p2⟩:=LX t s.from_ n h hn
  obtain⟨q1,q2⟩:=LX t s.to_ (nP1 t s.from_ n h) (nP2 t s.from_ n h) (fun e=>(p2 e).1)
  obtain⟨r1,r2⟩:=B0 t l (nP1 t s.to_ (nP1 t s.from_ n h) (nP2 t s.from_ n h)) (nP2 t s.to_ (nP1 t s.from_ n h) (nP2 t s.from_ n h)) (fun e=>(q2 e).1)
  simp only[nGo,aS,List.mem_cons]
  generalize nGo t l (nP1 t s.to_ (nP1 t s.from_ n h) (nP2 t s.from_ n h)) (nP2 t s.to_ (nP1 t s.from_ n h) (nP2 t s.from_ n h))=r at*
  generalize nP2 t s.to_ (nP1 t s.from_ n h) (nP2 t s.from_ n h)=h2 at*
  generalize nP1 t s.to_ (nP1 t s.from_ n h) (nP2 t s.from_ n h)=n2 at*
  generalize nP2 t s.from_ n h=h1 at*
  generalize nP1 t s.from_ n h=n1 at*
  constructor
  ·rw[r1,q1,p1]
   constructor
   ·rintro (((h|h)|h)|⟨e,he,h⟩)
    ·exact .inl h
    ·exact .inr ⟨_, .inl rfl,h⟩
    ·exact .inr ⟨_, .inr (.inl rfl),h⟩
    ·exact .inr ⟨e, .inr (.inr he),h⟩
   ·rintro (h|⟨e,rfl|rfl|he,h⟩)
    ·exact .inl (.inl (.inl h))
    ·exact .inl (.inl (.inr h))
    ·exact .inl (.inr h)
    ·exact .inr ⟨e,he,h⟩
  ·intro hr
   obtain⟨a1,a2,a3,a4⟩:=r2 hr
   refine⟨a1,?_,fun hh=>?_,?_⟩
   ·rcases a2 with a2|⟨a2,a2'⟩
    ·exact .inl (.inr (.inr a2))
    ·obtain⟨b1,b2,b3,b4⟩:=q2 a2'
     rcases b2 with b2|⟨b2,b2'⟩
     ·exact .inl (.inr (.inl (by rw[a2,b2])))
     ·obtain⟨c1,c2,c3,c4⟩:=p2 b2'
      rcases c2 with c2|⟨c2,c2'⟩
      ·exact .inl (.inl (by rw[a2,b2,c2]))
      ·exact .inr ⟨by rw[a2,b2,c2],c2'⟩
   ·have e1:h1=true:=p1.2 (.inl hh)
    have e2:h2=true:=q1.2 (.inl e1)
    have:=(p2 e1).2.2.1 hh
    have:=(q2 e2).2.2.1 e1
    have:=a3 e2
    omega
   ·rintro e (rfl|rfl|he) hgt
    ·have e1:h1=true:=p1.2 (.inr hgt)
     have e2:h2=true:=q1.2 (.inl e1)
     have:=(p2 e1).2.2.2 hgt
     have:=(q2 e2).2.2.1 e1
     have:=a3 e2
     omega
    ·have e2:h2=true:=q1.2 (.inr hgt)
     have:=(q2 e2).2.2.2 hgt
     have:=a3 e2
     omega
    ·exact a4 e he hgt
theorem zm (l:List Span) (t:Int):(bm l t).2=true↔∃e∈aS l,e>t:=by
 have:=(B0 t l 0 false (fun e=>by cases e)).1
 simpa[bm]using this
theorem Cv {l:List Span} {t:Int} (h:(bm l t).2=true):(bm l t).1>t∧(bm l t).1∈aS l∧∀e∈aS l,e>t→(bm l t).1≤e:=by
 obtain⟨a,b,_,d⟩:=(B0 t l 0 false (fun e=>by cases e)).2 h
 refine⟨a,?_,d⟩
 rcases b with b|⟨_,b⟩
 ·exact b
 ·cases b
def Qz (l:List Span) (a:Int):Nat:=((aS l).filter fun e=>decide (e>a)).length
theorem Sv (l:List Span) (a:Int):Qz l a≤(aS l).length:=List.length_filter_le _ _
theorem M6 {l:List Span} {a:Int} (h:Qz l a=0):(bm l a).2=false:=by
 rw[Bool.eq_false_iff]
 intro h'
 obtain⟨e,h1,h2⟩:=(zm l a).1 h'
 have:=List.length_eq_zero_iff.1 h
 rw[List.filter_eq_nil_iff]at this
 exact this e h1 (by simpa using h2)
theorem filter_le {α:Type} {p q:α→Bool} (hpq:∀y,q y=true→p y=true):∀l:List α,(l.filter q).length≤(l.filter p).length
 | []=>by simp
 |z::l=>by
  have ih:=filter_le hpq l
  cases h1:q z
  ·cases h2:p z<;>simp[List.filter_cons,h1,h2]<;>omega
  ·simp[List.filter_cons,h1,hpq z h1,ih]
theorem filter_lt {α:Type} {p q:α→Bool} (hpq:∀y,q y=true→p y=true):∀{l:List α} {x:α},x∈l→p x=true→q x=false→(l.filter q).length<(l.filter p).length
 | [],x,hx,_,_=>by cases hx
 |y::l,x,hx,hp,hq=>by
  rcases List.mem_cons.1 hx with rfl|hx
  ·have:=filter_le hpq l
   simp[List.filter_cons,hp,hq]
   omega
  ·have ih:=filter_lt hpq hx hp hq
   cases h1:q y
   ·cases h2:p y<;>simp[List.filter_cons,h1,h2]<;>omega
   ·simp[List.filter_cons,h1,hpq y h1,ih]
theorem MC {l:List Span} {a:Int} (h:(bm l a).2=true):Qz l (bm l a).1<Qz l a:=by
 obtain⟨h1,h2,h3⟩:=Cv h
 exact filter_lt (fun y hy=>by simp at hy⊢;omega) h2 (by simpa using h1) (by simp)
theorem za:∀(l:List Span) (n:Int),(lGo l n=n∨∃s∈l,lGo l n=s.from_)∧lGo l n≤n∧∀s∈l,lGo l n≤s.from_
 | [],n=>by simp[lGo]
 |s::l,n=>by
  unfold lGo
  by_cases h:s.from_<n
  ·simp only[h,decide_true,WZ]
   obtain⟨a,b,c⟩:=za l s.from_
   refine⟨.inr ?_,by omega,fun x hx=>?_⟩
   ·rcases a with a|⟨x,hx,a⟩
    ·exact⟨s,by simp,a⟩
    ·exact⟨x,by simp[hx],a⟩
   ·rcases List.mem_cons.1 hx with rfl|hx
    ·exact b
    ·exact c x hx
  ·simp only[h,decide_false,W2]
   obtain⟨a,b,c⟩:=za l n
   refine⟨?_,b,fun x hx=>?_⟩
   ·rcases a with a|⟨x,hx,a⟩
    ·exact .inl a
    ·exact .inr ⟨x,by simp[hx],a⟩
   ·rcases List.mem_cons.1 hx with rfl|hx
    ·omega
    ·exact c x hx
theorem lX (l:List Span) (a b:Int):eM l [] a b=cond (decide (az l a<0)) [] [⟨a,b,(l.getD (az l a).toNat cU).mode,0⟩]:=by
 simp[eM]
theorem jQ (l q:List Span) (p:Span) (a b:Int):eM l (q++[p]) a b=cond (decide (az l a<0)) (q++[p])
  (cond (p.to_==a&&p.mode==(l.getD (az l a).toNat cU).mode) (q++[⟨p.from_,b,p.mode,p.prio⟩]) (q++[p]++[⟨a,b,(l.getD (az l a).toNat cU).mode,0⟩])):=by
 simp[eM]
end Go.Proofs.YtfhepbbkggdlcaaGreatDoor.Px


namespace Go.Proofs.YtfhepbbkggdlcaaGreatDoor.Px
open Go
def cv:List Span→Int→Option Int
 | [],_=>none
 |s::l,t=>cond (inS s t) (some s.mode) (cv l t)
def Beh (a b:Span):Prop:=a.to_≤b.from_∧(a.to_=b.from_→a.mode≠b.mode)
structure Norm (l:List Span):Prop where
 one:∀s∈l,s.from_<s.to_∧s.prio=0
 two:l.Pairwise Beh
theorem gV {s:Span} {t:Int}:inS s t=true↔s.from_≤t∧t<s.to_:=by simp[inS]
theorem mM {s:Span} {t:Int}:inS s t=false↔¬(s.from_≤t∧t<s.to_):=by rw[←gV];simp
theorem jR {l:List Span} {t:Int} (h:∀s∈l,inS s t=false):cv l t=none:=by
 induction l with
 |nil=>rfl
 |cons s l ih=>simp only[cv,h s (by simp),W2];exact ih fun x hx=>h x (by simp[hx])
theorem IH {l:List Span} {t m:Int} (h:cv l t=some m):∃s∈l,inS s t=true∧s.mode=m:=by
 induction l with
 |nil=>cases h
 |cons s l ih=>
  unfold cv at h
  cases hs:inS s t
  ·rw[hs,W2]at h
   obtain⟨x,hx,h1,h2⟩:=ih h
   exact⟨x,by simp[hx],h1,h2⟩
  ·rw[hs,WZ]at h
   exact⟨s,by simp,hs,by simpa using h⟩
theorem jy (l r:List Span) (t:Int):cv (l++r) t=(cv l t).or (cv r t):=by
 induction l with
 |nil=>simp[cv]
 |cons s l ih=>
  simp only[List.cons_append,cv,ih]
  cases inS s t<;>simp
theorem Norm.tail {s:Span} {l:List Span} (h:Norm (s::l)):Norm l:=⟨fun x hx=>h.one x (List.mem_cons_of_mem _ hx),(List.pairwise_cons.1 h.two).2⟩
theorem Norm.nil:Norm []:=⟨fun _ h=>(by cases h),List.Pairwise.nil⟩
theorem Norm.beh {s:Span} {l:List Span} (h:Norm (s::l)):∀x∈l,Beh s x:=(List.pairwise_cons.1 h.two).1
theorem Norm.uniq:∀{l r:List Span},Norm l→Norm r→(∀t,cv l t=cv r t)→l=r
 | [],[],_,_,_=>rfl
 | [],s::r,_,hr,h=>by
  have h1:=(hr.one s (by simp)).1
  have:=h s.from_
  have hi:inS s s.from_=true:=gV.2 ⟨Int.le_refl _,h1⟩
  simp[cv,hi]at this
 |s::l,[],hl,_,h=>by
  have h1:=(hl.one s (by simp)).1
  have:=h s.from_
  have hi:inS s s.from_=true:=gV.2 ⟨Int.le_refl _,h1⟩
  simp[cv,hi]at this
 |s::l,u::r,hl,hr,h=>by
  have hs:=hl.one s (by simp)
  have hu:=hr.one u (by simp)
  have early:∀{s:Span} {l:List Span},Norm (s::l)→∀t,t<s.from_→cv (s::l) t=none:=by
   intro s l hn t ht
   refine jR fun x hx=>mM.2 fun hx'=>?_
   rcases List.mem_cons.1 hx with rfl|hx
   ·omega
   ·have:=(hn.beh x hx).1
    have:=(hn.one s (by simp)).1
    omega
  have head:∀{s:Span} {l:List Span} {t:Int},s.from_≤t→t<s.to_→cv (s::l) t=some s.mode:=by
   intro s l t h1 h2
   simp[cv,gV.2 ⟨h1,h2⟩]
  have e1:s.from_=u.from_:=by
   rcases Int.lt_trichotomy s.from_ u.from_ with e|e|e
   ·have:=h s.from_
    rw[early hr _ e,head (Int.le_refl _) hs.1]at this
    cases this
   ·exact e
   ·have:=h u.from_
    rw[early hl _ e,head (Int.le_refl _) hu.1]at this
    cases this
  have e2:s.mode=u.mode:=by
   have:=h s.from_
   rw[head (Int.le_refl _) hs.1,head (by omega) (by omega)]at this
   simpa using this
  have ends:∀{s u:Span} {l r:List Span},Norm (s::l)→Norm (u::r)→s.from_=u.from_→s.mode=u.mode→(∀t,cv (s::l) t=cv (u::r) t)→¬s.to_<u.to_:=by
   intro s u l r hl hr e1 e2 h hlt
   have h1:=(hl.one s (by simp)).1
   have:=h s.to_
   rw[head (s:=u) (by omega) hlt]at this
   obtain⟨x,hx,i1,i2⟩:=IH this
   rw[gV]at i1
   rcases List.mem_cons.1 hx with rfl|hx
   ·omega
   ·obtain⟨b1,b2⟩:=hl.beh x hx
    exact b2 (by omega) (by rw[e2,i2])
  have e3:s.to_=u.to_:=by
   have a:=ends hl hr e1 e2 h
   have b:=ends hr hl e1.symm e2.symm (fun t=>(h t).symm)
   omega
  have e4:s=u:=by
   obtain⟨a,b,c,d⟩:=s
   obtain⟨a',b',c',d'⟩:=u
   simp only at*
   rw[e1,e2,e3,hs.2,hu.2]
  subst e4
  congr 1
  refine Norm.uniq hl.tail hr.tail fun t=>?_
  by_cases ht:t<s.to_
  ·rw[jR fun x hx=>mM.2 fun h=>by have:=(hl.beh x hx).1;omega,jR fun x hx=>mM.2 fun h=>by have:=(hr.beh x hx).1;omega]
  ·have:=h t
   have hi:inS s t=false:=mM.2 fun h=>by omega
   simpa[cv,hi]using this
def rq (t:Int):List Span→Option Span→Option Span
 | [],b=>b
 |s::l,b=>rq t l (cond (inS s t&&(match b with
  |none=>true
  |some x=> !mH s x)) (some s) b)
def fS (l:List Span) (t:Int):Option Int:=(rq t l none).map (·.mode)
def HZ (L:List Span) (i:Int):Option Span:=cond (decide (i<0)) none (some (L.getD i.toNat cU))
theorem FF (t:Int):∀(suf pre:List Span) (best:Int),-1≤best→best<(pre.length:Int)→HZ (pre++suf) (wGo (pre++suf) t suf (pre.length:Int) best)=rq t suf (HZ (pre++suf) best)
 | [],pre,best,_,_=>by simp[wGo,rq]
 |s::suf,pre,best,h1,h2=>by
  unfold wGo rq
  have e:((pre.length:Nat):Int)+1=(((pre++[s]).length:Nat):Int):=by simp
  have ha:pre++s::suf=(pre++[s])++suf:=by simp
  have hm:(match HZ (pre++s::suf) best with
   |none=>true
   |some x=> !mH s x)=(decide (best<0)|| !mH s ((pre++s::suf).getD best.toNat cU)):=by
   unfold HZ
   cases decide (best<0)<;>simp
  rw[hm,e]
  cases (inS s t&&(decide (best<0)|| !mH s ((pre++s::suf).getD best.toNat cU)))
  ·rw[W2,W2]
   have:=FF t suf (pre++[s]) best h1 (by simp;omega)
   rw[←ha]at this
   exact this
  ·rw[WZ,WZ]
   have:=FF t suf (pre++[s]) ((pre.length:Nat):Int) (by omega) (by simp;omega)
   rw[←ha]at this
   rw[this]
   congr 1
   have hd:decide (((pre.length:Nat):Int)<0)=false:=by simp
   unfold HZ
   rw[hd]
   simp
theorem HC (l:List Span) (t:Int):HZ l (az l t)=rq t l none:=by
 have:=FF t l [] (-1) (by omega) (by simp)
 have h2:HZ l (-1)=none:=rfl
 rw[List.nil_append,h2]at this
 exact this
theorem Mq (l:List Span) (t:Int):fS l t=cond (decide (az l t<0)) none (some (l.getD (az l t).toNat cU).mode):=by
 unfold fS
 rw[←HC]
 unfold HZ
 cases decide (az l t<0)<;>rfl
theorem Ds {t:Int}:∀{l:List Span} (b:Option Span),(∀s∈l,inS s t=false)→rq t l b=b
 | [],_,_=>rfl
 |s::l,b,h=>by
  unfold rq
  rw[h s (by simp),Bool.false_and,W2]
  exact Ds b fun x hx=>h x (by simp[hx])
theorem Ae {t u:Int}:∀{l:List Span} (b:Option Span),(∀s∈l,inS s t=inS s u)→rq t l b=rq u l b
 | [],_,_=>rfl
 |s::l,b,h=>by
  unfold rq
  rw[h s (by simp)]
  exact Ae _ fun x hx=>h x (by simp[hx])
theorem Norm.apart {l:List Span} (h:Norm l):l.Pairwise fun a b=>a.to_≤b.from_:=h.two.imp fun h=>h.1
theorem ID:∀(l:List Int) (p:Int),l.Pairwise (· ≤ ·)→(∀y∈l,p≤y)→(∀x,x∈di (some p) l↔x∈l∧x≠p)∧(di (some p) l).Pairwise (· < ·)∧∀x∈di (some p) l,p<x
 | [],p,_,_=>by simp[di]
 |x::l,p,h1,h2=>by
  rw[List.pairwise_cons]at h1
  obtain⟨a,b,c⟩:=ID l x h1.2 h1.1
  have hpx:=h2 x (by simp)
  unfold di
  by_cases e:x=p
  ·subst e
   simp only[beq_self_eq_true,WZ]
   refine⟨fun z=>?_,b,c⟩
   rw[a,List.mem_cons]
   constructor
   ·rintro ⟨h,h'⟩;exact⟨.inr h,h'⟩
   ·rintro ⟨h|h,h'⟩
    ·exact absurd h h'
    ·exact⟨h,h'⟩
  ·have:(x==p)=false:=by simpa using e
   rw[this,W2]
   refine⟨fun z=>?_,List.pairwise_cons.2 ⟨c,b⟩,fun z hz=>?_⟩
   ·rw[List.mem_cons,List.mem_cons,a]
    constructor
    ·rintro (rfl|⟨h,h'⟩)
     ·exact⟨.inl rfl,e⟩
     ·have:=h1.1 z h
      exact⟨.inr h,by omega⟩
    ·rintro ⟨rfl|h,h'⟩
     ·exact .inl rfl
     ·by_cases hz:z=x
      ·exact .inl hz
      ·exact .inr ⟨h,hz⟩
   ·rcases List.mem_cons.1 hz with rfl|hz
    ·omega
    ·have:=c z hz
     omega
theorem FO (l:List Span):(∀x,x∈kI l↔x∈aS l)∧(kI l).Pairwise (· < ·):=by
 have hs:=oK (aS l)
 have hm:∀x,x∈dh (aS l)↔x∈aS l:=fun x=>(lP _).mem_iff
 unfold kI fi
 cases h:dh (aS l)with
 |nil=>
  rw[h]at hm
  exact⟨fun x=>by rw[←hm];simp[di],List.Pairwise.nil⟩
 |cons y r=>
  rw[h]at hs hm
  rw[List.pairwise_cons]at hs
  obtain⟨a,b,c⟩:=ID r y hs.2 hs.1
  refine⟨fun x=>?_,List.pairwise_cons.2 ⟨c,b⟩⟩
  rw[←hm]
  show x∈y::di (some y) r↔_
  rw[List.mem_cons,List.mem_cons,a]
  constructor
  ·rintro (h|⟨h,_⟩)
   ·exact .inl h
   ·exact .inr h
  ·rintro (h|h)
   ·exact .inl h
   ·by_cases e:x=y
    ·exact .inl e
    ·exact .inr ⟨h,e⟩
theorem re {l:List Span} {e:Int}:e∈aS l↔∃s∈l,e=s.from_∨e=s.to_:=by
 induction l with
 |nil=>simp[aS]
 |cons s l ih=>
  simp only[aS,List.mem_cons,ih]
  constructor
  ·rintro (h|h|⟨x,hx,h⟩)
   ·exact⟨s, .inl rfl, .inl h⟩
   ·exact⟨s, .inl rfl, .inr h⟩
   ·exact⟨x, .inr hx,h⟩
  ·rintro ⟨x,rfl|hx,h⟩
   ·rcases h with h|h
    ·exact .inl h
    ·exact .inr (.inl h)
   ·exact .inr (.inr ⟨x,hx,h⟩)
theorem OO {l:List Span} {a t:Int} (h:∀e∈aS l,¬(a<e∧e≤t)) (hat:a≤t):∀s∈l,inS s t=inS s a:=by
 intro s hs
 have h1:=h s.from_ (re.2 ⟨s,hs, .inl rfl⟩)
 have h2:=h s.to_ (re.2 ⟨s,hs, .inr rfl⟩)
 rw[Bool.eq_iff_iff,gV,gV]
 omega
theorem Hl {l:List Span} {a t:Int} (h:∀e∈aS l,¬(a<e∧e≤t)) (hat:a≤t):fS l t=fS l a:=by
 unfold fS
 rw[Ae none (OO h hat)]
structure Dm (l out:List Span) (a:Int):Prop where
 norm:Norm out
 le:∀s∈out,s.to_≤a
 HV:∀t,t<a→cv out t=fS l t
theorem vv (s:Span) (t:Int):cv [s] t=cond (inS s t) (some s.mode) none:=rfl
theorem Dm.next {l out:List Span} {a b:Int} (h:Dm l out a) (hab:a<b) (hb:∀e∈aS l,a<e→b≤e):Dm l (eM l out a b) b:=by
 have same:∀t,a≤t→t<b→fS l t=fS l a:=fun t h1 h2=>Hl (fun e he hh=>by have:=hb e he hh.1;omega) h1
 have none':∀t,a≤t→cv out t=none:=fun t ht=>jR fun s hs=>mM.2 fun hh=>by have:=h.le s hs;omega
 have hw:=Mq l a
 cases hd:decide (az l a<0)with
 |true=>
  rw[hd,WZ]at hw
  have e:eM l out a b=out:=by unfold eM;rw[hd];rfl
  rw[e]
  refine⟨h.norm,fun s hs=>by have:=h.le s hs;omega,fun t ht=>?_⟩
  by_cases hta:t<a
  ·exact h.HV t hta
  ·rw[none' t (by omega),same t (by omega) ht,hw]
 |false=>
  rw[hd,W2]at hw
  generalize hm:(l.getD (az l a).toNat cU).mode=m at hw
  have app:(∀s∈out,s.to_=a→s.mode≠m)→Dm l (out++[⟨a,b,m,0⟩]) b:=by
   intro hno
   refine⟨⟨fun s hs=>?_,?_⟩,fun s hs=>?_,fun t ht=>?_⟩
   ·rcases List.mem_append.1 hs with hs|hs
    ·exact h.norm.one s hs
    ·rw[List.mem_singleton]at hs
     subst hs
     exact⟨hab,rfl⟩
   ·rw[List.pairwise_append]
    refine⟨h.norm.two,List.pairwise_singleton _ _,fun x hx y hy=>?_⟩
    rw[List.mem_singleton]at hy
    subst hy
    exact⟨h.le x hx,fun e=>hno x hx e⟩
   ·rcases List.mem_append.1 hs with hs|hs
    ·have:=h.le s hs;omega
    ·rw[List.mem_singleton]at hs
     subst hs
     exact Int.le_refl _
   ·rw[jy,vv]
    by_cases hta:t<a
    ·have:inS ⟨a,b,m,0⟩ t=false:=mM.2 fun hh=>by simp only at hh;omega
     rw[this,W2,h.HV t hta]
     cases fS l t<;>rfl
    ·have:inS ⟨a,b,m,0⟩ t=true:=gV.2 ⟨by simp only;omega,ht⟩
     rw[this,WZ,none' t (by omega),same t (by omega) ht,hw]
     rfl
  rcases cV out with rfl|⟨q,p,rfl⟩
  ·rw[lX,hd,W2,hm]
   exact app (fun s hs=>by cases hs)
  ·rw[jQ,hd,W2,hm]
   have hp:=h.norm.one p (by simp)
   have hpa:=h.le p (by simp)
   have hq:=List.pairwise_append.1 h.norm.two
   cases hc:(p.to_==a&&p.mode==m)with
   |true=>
    simp only[WW,beq_iff_eq]at hc
    rw[WZ]
    refine⟨⟨fun s hs=>?_,?_⟩,fun s hs=>?_,fun t ht=>?_⟩
    ·rcases List.mem_append.1 hs with hs|hs
     ·exact h.norm.one s (by simp[hs])
     ·rw[List.mem_singleton]at hs
      subst hs
      exact⟨by simp only;omega,hp.2⟩
    ·rw[List.pairwise_append]
     refine⟨hq.1,List.pairwise_singleton _ _,fun x hx y hy=>?_⟩
     rw[List.mem_singleton]at hy
     subst hy
     exact hq.2.2 x hx p (by simp)
    ·rcases List.mem_append.1 hs with hs|hs
     ·have:=h.le s (by simp[hs]);omega
     ·rw[List.mem_singleton]at hs
      subst hs
      exact Int.le_refl _
    ·rw[jy,vv]
     by_cases hta:t<a
     ·have h1:=h.HV t hta
      rw[jy,vv]at h1
      rw[←h1]
      have:inS ⟨p.from_,b,p.mode,p.prio⟩ t=inS p t:=by
       rw[Bool.eq_iff_iff,gV,gV]
       simp only
       omega
      rw[this]
     ·have:inS ⟨p.from_,b,p.mode,p.prio⟩ t=true:=gV.2 ⟨by simp only;omega,ht⟩
      have hn:=none' t (by omega)
      rw[jy]at hn
      have hn1:cv q t=none:=by
       cases hh:cv q t with
       |none=>rfl
       |some x=>rw[hh]at hn;simp at hn
      rw[this,hn1,WZ,same t (by omega) ht,hw,hc.2]
      rfl
   |false=>
    rw[W2]
    refine app (fun s hs e=>?_)
    rcases List.mem_append.1 hs with hs|hs
    ·have:=(hq.2.2 s hs p (by simp)).1
     omega
    ·rw[List.mem_singleton]at hs
     subst hs
     intro e2
     simp[e,e2]at hc
theorem Hw {l:List Span} {t:Int} (h:∀s∈l,inS s t=false):fS l t=none:=by
 unfold fS
 rw[Ds none h]
 rfl
theorem Dm.all {l:List Span}:∀(rest:List Int) (a:Int) (out:List Span),(a::rest).Pairwise (· < ·)→(∀e∈aS l,a<e→e∈rest)→Dm l out a→Norm (fJ l (a::rest) out)∧∀t,cv (fJ l (a::rest) out) t=fS l t
 | [],a,out,_,hm,h=>by
  refine⟨h.norm,fun t=>?_⟩
  by_cases ht:t<a
  ·exact h.HV t ht
  ·show cv out t=_
   rw[jR fun s hs=>mM.2 fun hh=>by have:=h.le s hs;omega,Hw]
   intro s hs
   refine mM.2 fun hh=>?_
   have:=hm s.to_ (re.2 ⟨s,hs, .inr rfl⟩) (by omega)
   cases this
 |b::rest,a,out,hp,hm,h=>by
  rw[List.pairwise_cons]at hp
  have hab:=hp.1 b (by simp)
  have hp2:=List.pairwise_cons.1 hp.2
  refine Dm.all rest b (eM l out a b) hp.2 (fun e he hbe=>?_) (h.next hab fun e he hae=>?_)
  ·have:=hm e he (by omega)
   rcases List.mem_cons.1 this with rfl|h
   ·omega
   ·exact h
  ·have:=hm e he hae
   rcases List.mem_cons.1 this with rfl|h
   ·exact Int.le_refl _
   ·have:=hp2.1 e h;omega
theorem IV {l:List Span}:∀(rest k:List Int) (a:Int) (out:List Span),(a::rest).Pairwise (· < ·)→(∀e,e∈rest↔(e∈aS l∧a<e))→rest.length≤k.length→
  rV l k a (bm l a).1 (bm l a).2 out=fJ l (a::rest) out
 | [],k,a,out,_,hm,_=>by
  have:(bm l a).2=false:=by
   rw[Bool.eq_false_iff]
   intro h
   obtain⟨e,h1,h2⟩:=(zm l a).1 h
   have:=(hm e).2 ⟨h1,h2⟩
   cases this
  rw[this]
  cases k<;>rfl
 |b::rest,k,a,out,hp,hm,hk=>by
  cases k with
  |nil=>simp at hk
  |cons y k=>
   rw[List.pairwise_cons]at hp
   have hp2:=List.pairwise_cons.1 hp.2
   have hb:=(hm b).1 (by simp)
   have h2:(bm l a).2=true:=(zm l a).2 ⟨b,hb.1,hb.2⟩
   obtain⟨n1,n2,n3⟩:=Cv h2
   have h1:(bm l a).1=b:=by
    have:=n3 b hb.1 hb.2
    have:=(hm _).2 ⟨n2,n1⟩
    rcases List.mem_cons.1 this with e|e
    ·exact e
    ·have:=hp2.1 _ e;omega
   unfold rV
   rw[h2,h1,WZ]
   refine IV rest k b (eM l out a b) hp.2 (fun e=>?_) (by simpa using hk)
   constructor
   ·intro he
    have:=(hm e).1 (by simp[he])
    exact⟨this.1,hp2.1 e he⟩
   ·rintro ⟨h3,h4⟩
    have:=(hm e).2 ⟨h3,by omega⟩
    rcases List.mem_cons.1 this with rfl|h
    ·omega
    ·exact h
theorem SY {l:List Span} (h:zi l=true):zg l=eQ l:=by
 unfold zi at h
 simp only[WW,List.all_eq_true]at h
 obtain⟨hm,hp⟩:=FO l
 unfold zg eQ
 cases l with
 |nil=>rfl
 |cons s r=>
  simp only[List.length_cons,gt_iff_lt,Nat.zero_lt_succ,decide_true,WZ]
  cases hc:kI (s::r)with
  |nil=>
   rw[hc]at hm
   have:=(hm s.from_).2 (by simp[aS])
   cases this
  |cons a rest=>
   rw[hc]at hm hp
   obtain⟨g1,g2,g3⟩:=za (s::r) ((s::r).getD 0 cU).from_
   have hmem:∃x∈s::r,df (s::r)=x.from_:=by
    rcases g1 with g|g
    ·exact⟨s,by simp,by unfold df;rw[g];rfl⟩
    ·exact g
   obtain⟨x,hx,hxe⟩:=hmem
   have ha:df (s::r)=a:=by
    have h1:=(hm x.from_).2 (re.2 ⟨x,hx, .inl rfl⟩)
    rw[←hxe]at h1
    have h2:=(hm a).1 (by simp)
    obtain⟨y,hy,hya⟩:=re.1 h2
    have h3:=g3 y hy
    have h4:=h.1 y hy
    have h5:y.from_<y.to_:=by simpa[nD]using h4
    have h6:df (s::r)≤a:=by
     show lGo (s::r) ((s::r).getD 0 cU).from_≤a
     rcases hya with e|e<;>omega
    rcases List.mem_cons.1 h1 with e|e
    ·exact e
    ·have:=(List.pairwise_cons.1 hp).1 _ e;omega
   rw[ha]
   refine IV rest (aS (s::r)) a [] hp (fun e=>?_) ?_
   ·constructor
    ·intro he
     exact⟨(hm e).1 (by simp[he]),(List.pairwise_cons.1 hp).1 e he⟩
    ·rintro ⟨h1,h2⟩
     rcases List.mem_cons.1 ((hm e).2 h1)with rfl|h
     ·omega
     ·exact h
   ·have:=lA (s::r)
    rw[hc]at this
    rw[fa]
    simp only[List.length_cons]at*
    omega
end Go.Proofs.YtfhepbbkggdlcaaGreatDoor.Px


namespace Go.Proofs.YtfhepbbkggdlcaaGreatDoor.Px
open Go
theorem Norm.may {l:List Span} (h:Norm l) (hl:l.length≤500):zi l=true:=by
 unfold zi
 simp only[WW,List.all_eq_true,WY]
 refine⟨fun s hs=>?_,hl⟩
 have:=(h.one s hs).1
 simp[nD]
 omega
theorem wx (s:Span) (a b:Int):(iQ s a b).from_=max s.from_ a:=by
 unfold iQ
 by_cases h:a>s.from_
 ·simp only[h,decide_true,WZ];omega
 ·simp only[h,decide_false,W2];omega
theorem BQ (s:Span) (a b:Int):(iQ s a b).to_=min s.to_ b:=by
 unfold iQ
 by_cases h:b<s.to_
 ·simp only[h,decide_true,WZ];omega
 ·simp only[h,decide_false,W2];omega
theorem Ib {l:List Span} {a b:Int} {x:Span} (h:x∈ou l a b):∃s∈l,x=iQ s a b∧x.from_<x.to_:=by
 induction l with
 |nil=>cases h
 |cons s l ih=>
  unfold ou at h
  by_cases hc:(iQ s a b).from_<(iQ s a b).to_
  ·simp only[hc,decide_true,WZ,List.mem_cons]at h
   rcases h with rfl|h
   ·exact⟨s,by simp,rfl,hc⟩
   ·obtain⟨u,hu,h2⟩:=ih h
    exact⟨u,by simp[hu],h2⟩
  ·simp only[hc,decide_false,W2]at h
   obtain⟨u,hu,h2⟩:=ih h
   exact⟨u,by simp[hu],h2⟩
theorem Norm.cut {l:List Span} (h:Norm l) (a b:Int):Norm (ou l a b):=by
 refine⟨fun x hx=>?_,?_⟩
 ·obtain⟨s,hs,rfl,h2⟩:=Ib hx
  exact⟨h2,(h.one s hs).2⟩
 ·induction l with
  |nil=>exact List.Pairwise.nil
  |cons s l ih=>
   unfold ou
   by_cases hc:(iQ s a b).from_<(iQ s a b).to_
   ·simp only[hc,decide_true,WZ,List.pairwise_cons]
    refine⟨fun x hx=>?_,ih h.tail⟩
    obtain⟨u,hu,rfl,h2⟩:=Ib hx
    obtain⟨b1,b2⟩:=h.beh u hu
    rw[wx,BQ]at*
    refine⟨by rw[BQ,wx];omega,fun e=>?_⟩
    rw[BQ,wx]at e
    exact b2 (by omega)
   ·simp only[hc,decide_false,W2]
    exact ih h.tail
theorem all_append {l r:List Span} (h1:l.all (fun s=> !nD s)=true) (h2:r.all (fun s=> !nD s)=true):(l++r).all (fun s=> !nD s)=true:=by
 rw[List.all_append,h1,h2];rfl
theorem Norm.all {l:List Span} (h:Norm l):l.all (fun s=> !nD s)=true:=by
 rw[List.all_eq_true]
 intro s hs
 have:=(h.one s hs).1
 simp[nD]
 omega
theorem Norm.HV {l:List Span} (h:Norm l):Pk l=l:=by
 unfold Pk
 conv=>rhs;rw[←List.map_id l]
 refine List.map_congr_left fun s hs=>?_
 have:=(h.one s hs).2
 obtain⟨a,b,c,d⟩:=s
 simp only at this
 subst this
 rfl
end Go.Proofs.YtfhepbbkggdlcaaGreatDoor.Px


namespace Go.Proofs.YtfhepbbkggdlcaaGreatDoor.Px
open Go
def jm (z:a8) (t:Int):Int:=cond (ao z != 0) (ao z) (cond (!inB t 576000 5258879999) 63 0)
def w7 (z:a8) (t:Int):Int:=t+z.base+bD z t
def dg (z:a8) (t:Int):Int×Int×Int:=cond (jm z t != 0) (0,0,jm z t) (w7 z t/1440,w7 z t%1440,0)
def bn (c:Config) (d:Int):List ag→List Span
 | []=>[]
 |w::ws=>cond (bw c w d).2.1 ((bw c w d).1::bn c d ws) (bn c d ws)
def cD (c:Config):Nat→Int→List Span
 |0,_=>[]
 |k+1,d=>bn c d c.ae++cD c k (d+1)
def nz (a b:Int):Bool:=decide (402≤a)&&(decide (b≤3651990)&&(decide (a≤b)&&decide (b-a≤30)))
def cS (c:Config) (a b:Int):List Span×Int:=cond (af c != 0) ([],af c) (cond (nz a b) (cD c (b-a+1).toNat a,0) ([],140))
def bQ (c:Config) (d:Int):List Span×Int:=cond ((cS c (d-9) (d+1)).2 != 0) ([],(cS c (d-9) (d+1)).2) (bA (cS c (d-9) (d+1)).1)
def K2 (c:Config) (d:Int):List Span×Int:=cond (af c != 0) ([],af c) (cond (decide (d<411)||decide (d>3651988)) ([],140)
 (cond ((bQ c d).2 != 0) ([],(bQ c d).2) (ou (bQ c d).1 (cL c.aE d 0).1 (cL c.aE (d+1) 0).1,0)))
def dz (c:Config) (t:Int):Bool:=inB t 576000 5258879999&&((ofG ((t+c.aE.base)/1440)).2==0&&(decide (1900≤(ofG ((t+c.aE.base)/1440)).1.year)&&decide ((ofG ((t+c.aE.base)/1440)).1.year≤2399)))
def atG (c:Config) (t:Int):Span×Bool:=eD (bQ c (dg c.aE t).1).1 t
def fK (c:Config) (t:Int):Int×Int×Int:=cond (af c != 0) (0,0,af c) (cond (dz c t) (cond (atG c t).2 ((atG c t).1.mode,(atG c t).1.from_,0) (0,0,0)) (3,0,0))
def IB (t:Int):Bool:=inB t 576000 5258879999
def tI (c:Config) (_:Int):Bool:=aY c
def kP (c:Config) (d:Int):Bool:=aY c&&big d
def AL (c:Config) (_ _:Int):Bool:=aY c
def dS (c:Config) (_:Int):Bool:=af c==0
def fg (a b:Int):Bool:=decide (402≤a)&&(decide (b≤3651990)&&decide (b-a≤30))
end Go.Proofs.YtfhepbbkggdlcaaGreatDoor.Px


namespace Go.Proofs.YtfhepbbkggdlcaaGreatDoor.Px
open Go
theorem pN (c:Config) (d:Int):∀l:List ag,(bn c d l).length≤l.length
 | []=>Nat.le_refl _
 |w::l=>by
  have:=pN c d l
  unfold bn
  cases (bw c w d).2.1
  ·rw[W2,List.length_cons];omega
  ·rw[WZ,List.length_cons,List.length_cons];omega
theorem Dn (c:Config):∀(k:Nat) (d:Int),(cD c k d).length≤k*c.ae.length
 |0,_=>by simp[cD]
 |k+1,d=>by
  have h1:=pN c d c.ae
  have h2:=Dn c k (d+1)
  simp only[cD,List.length_append]
  rw[Nat.add_mul,Nat.one_mul]
  omega
theorem Fp {c:Config} (h:af c=0):c.ae.length≤16:=by
 unfold af orE at h
 cases h1:cC c==0
 ·rw[h1]at h;simp only[W2]at h;rw[h]at h1;cases h1
 rw[h1,WZ]at h
 cases h2:cA c==0
 ·rw[h2]at h;simp only[W2]at h;rw[h]at h2;cases h2
 rw[h2,WZ]at h
 cases h3:bW c==0
 ·rw[h3]at h;simp only[W2]at h;rw[h]at h3;cases h3
 rw[h3,WZ]at h
 cases h4:ao c.aE==0
 ·rw[h4]at h;simp only[W2]at h;rw[h]at h4;cases h4
 rw[h4,WZ]at h
 cases h5:ax c.sun==0
 ·rw[h5]at h;simp only[W2]at h;rw[h]at h5;cases h5
 rw[h5,WZ]at h
 unfold bg at h
 by_cases hl:c.ae.length≤16
 ·exact hl
 ·rw[decide_eq_true (by omega:c.ae.length>16)]at h
  cases h
theorem LP {a b:Int} (h:nz a b=true):402≤a∧b≤3651990∧a≤b∧b-a≤30:=by
 simpa only[nz,WW,WY]using h
theorem yk (c:Config) (a b:Int):(cS c a b).1.length≤496:=by
 unfold cS
 cases hc:af c != 0 with
 |true=>simp
 |false=>
  cases hd:nz a b with
  |false=>simp
  |true=>
   obtain⟨h1,h2,h3,h4⟩:=LP hd
   have hw:=Fp (show af c=0 by simpa using hc)
   have:=Dn c (b-a+1).toNat a
   have h5:(b-a+1).toNat*c.ae.length≤31*16:=Nat.mul_le_mul (by omega) hw
   rw[W2,WZ]
   show(cD c (b-a+1).toNat a).length≤496
   omega
theorem CT (l:List Span):(bA l).1.length≤1000:=by
 unfold bA
 cases hm:zi l with
 |false=>simp
 |true=>
  have:=qa l
  simp only[zi,WW,WY]at hm
  rw[WZ]
  show(eQ l).length≤1000
  omega
theorem xc (c:Config) (d:Int):(bQ c d).1.length≤1000:=by
 unfold bQ
 cases (cS c (d-9) (d+1)).2 != 0
 ·exact CT _
 ·simp
theorem zU:aG 1900=693595:=by decide
theorem zZ:aG 2400=876216:=by decide
theorem CG {c:Config} {t:Int} (h:af c=0):dz c t=true↔998778240-c.aE.base≤t∧t<1261752480-c.aE.base:=by
 obtain⟨z1,_⟩:=bx (dn h).1
 unfold dz
 simp only[WW,bF,beq_iff_eq,WY]
 generalize hn:(t+c.aE.base)/1440=n
 constructor
 ·rintro ⟨⟨h1,h2⟩,h3,h4,h5⟩
  have hd:dj n=true:=by
   cases hd:dj n with
   |true=>rfl
   |false=>
    exfalso
    unfold ofG at h3
    rw[show(decide (n<1)||decide (n>3652059))=true by
     have hh:¬(1≤n∧n≤3652059):=fun hh=>by rw[cF.2 hh]at hd;cases hd
     rw[Bool.or_eq_true,WY,WY]
     omega]at h3
    cases h3
  have hd':=cF.1 hd
  obtain⟨y1,y2,l1,l2,e1,e2⟩:=mA hd'.1 hd'.2
  have e:ofG n=(⟨yrG n,((oo n:Nat):Int),lfG n-aF (yrG n) (oo n-1)+1⟩,0):=by
   unfold ofG
   rw[show(decide (n<1)||decide (n>3652059))=false by simp;omega]
   rfl
  rw[e]at h4 h5
  dsimp only at h4 h5
  have a:=jK (y:=1900) (z:=yrG n) (by omega) h4
  have b:=jK (y:=yrG n+1) (z:=2400) (by omega) (by omega)
  rw[zU]at a
  rw[zZ]at b
  omega
 ·rintro ⟨h1,h2⟩
  have hd:dj n=true:=cF.2 (by omega)
  obtain⟨y1,y2,l1,l2,e1,e2⟩:=mA (n:=n) (by omega) (by omega)
  have e:ofG n=(⟨yrG n,((oo n:Nat):Int),lfG n-aF (yrG n) (oo n-1)+1⟩,0):=by
   unfold ofG
   rw[show(decide (n<1)||decide (n>3652059))=false by simp;omega]
   rfl
  rw[e]
  dsimp only
  refine⟨⟨by omega,by omega⟩,rfl,?_,?_⟩
  ·by_cases hy:1900≤yrG n
   ·exact hy
   ·have:=jK (y:=yrG n+1) (z:=1900) (by omega) (by omega)
    rw[zU]at this
    omega
  ·by_cases hy:yrG n≤2399
   ·exact hy
   ·have:=jK (y:=2400) (z:=yrG n) (by omega) (by omega)
    rw[zZ]at this
    omega
theorem RQ {c:Config} (t:Int) (hc:af c=0):(fK c t).2.2=0:=by
 unfold fK
 rw[hc]
 cases dz c t
 ·rfl
 ·cases (atG c t).2<;>rfl
theorem QZ {c:Config} {t:Int} (hc:af c=0) (hs:dz c t=false):fK c t=(3,0,0):=by
 unfold fK
 rw[hc,hs]
 rfl
end Go.Proofs.YtfhepbbkggdlcaaGreatDoor.Px


namespace Go.Proofs.YtfhepbbkggdlcaaGreatDoor.Px
open Go
theorem Qf {a b:Int}:orE a b=0↔a=0∧b=0:=by
 unfold orE
 cases h:a==0 with
 |true=>
  have:=beq_iff_eq.1 h
  simp[this]
 |false=>
  have:a≠0:=by simpa using h
  simp[this]
theorem Mr {c:Config}:af c=0↔cC c=0∧cA c=0∧bW c=0∧ao c.aE=0∧ax c.sun=0∧bg c=0:=by
 unfold af
 simp only[Qf]
theorem I0 {c:Config}:bg c=0↔c.ae.length≤16∧c.ae.all bj=true:=by
 unfold bg dD
 by_cases h:c.ae.length>16
 ·rw[decide_eq_true h]
  simp
  omega
 ·rw[decide_eq_false h]
  cases c.ae.all bj<;>simp
  omega
theorem NZ (c:Config) (k:Int) (w:ag) (l:List ag):bn c k (w::l)=cond (bw c w k).2.1 ((bw c w k).1::bn c k l) (bn c k l):=rfl
theorem F8 {c:Config} {k:Int} {s:Span}:∀{l:List ag},s∈bn c k l→∃w∈l,(bw c w k).2.1=true∧s=(bw c w k).1
 | [],h=>by cases h
 |w::l,h=>by
  unfold bn at h
  cases hw:(bw c w k).2.1 with
  |true=>
   rw[hw,WZ]at h
   rcases List.mem_cons.1 h with rfl|h
   ·exact⟨w,List.mem_cons_self,hw,rfl⟩
   ·obtain⟨v,v1,v2⟩:=F8 h
    exact⟨v,List.mem_cons_of_mem _ v1,v2⟩
  |false=>
   rw[hw,W2]at h
   obtain⟨v,v1,v2⟩:=F8 h
   exact⟨v,List.mem_cons_of_mem _ v1,v2⟩
theorem HX {c:Config} {s:Span}:∀{n:Nat} {k:Int},s∈cD c n k→∃(d:Int) (w:ag),(k≤d∧d<k+n)∧w∈c.ae∧(bw c w d).2.1=true∧s=(bw c w d).1
 |0,k,h=>by cases h
 |n+1,k,h=>by
  unfold cD at h
  rcases List.mem_append.1 h with h|h
  ·obtain⟨w,w1,w2,w3⟩:=F8 h
   exact⟨k,w,⟨by omega,by omega⟩,w1,w2,w3⟩
  ·obtain⟨d,w,d1,w1⟩:=HX h
   exact⟨d,w,⟨by omega,by omega⟩,w1⟩
theorem Ky {c:Config} {w:ag} {d:Int} (h:(bw c w d).2.1=true):(bw c w d).1.from_<(bw c w d).1.to_∧(bw c w d).1.mode=w.mode∧(bw c w d).1.prio=w.prio:=by
 rcases CK c w d with⟨_,e⟩|⟨⟨h1,h2,h3⟩,e⟩
 ·rw[e]at h;cases h
 ·cases ho:(opens c w d).2.2 with
  |false=>rw[e,ho]at h;cases h
  |true=>
   rw[ho,WZ]at e
   rw[e]
   refine⟨?_,rfl,rfl⟩
   dsimp only
   have hd:=(kO _).1 h3
   by_cases hk:w.kind=4
   ·obtain⟨L,m,n,_,l1,m1,n1,f1,f2,o1,o2⟩:=(M8 hk h1 h2 h3).2 ho
    rw[o1,o2];omega
   ·obtain⟨m1,m2,m3,o1,o2⟩:=C3 hk h1 h2 h3
    rw[o1,o2];omega
theorem Pc {c:Config} (hc:af c=0) {a b:Int} (h:nz a b=true):zi (cD c (b-a+1).toNat a)=true:=by
 have hl:=yk c a b
 unfold cS at hl
 rw[hc,h]at hl
 unfold zi
 simp only[WW,List.all_eq_true,WY]
 refine⟨fun s hs=>?_,Nat.le_trans hl (by omega)⟩
 obtain⟨d,w,_,w1,w2,rfl⟩:=HX hs
 have:=(Ky w2).1
 simp[nD]
 omega
end Go.Proofs.YtfhepbbkggdlcaaGreatDoor.Px


namespace Go.Proofs.YtfhepbbkggdlcaaGreatDoor.Px
open Go
def Qj (z:a8) (y:Int):Int:=(aG y+1)*1440-z.base
end Go.Proofs.YtfhepbbkggdlcaaGreatDoor.Px


namespace Go.Proofs.YtfhepbbkggdlcaaGreatDoor.Px
open Go
end Go.Proofs.YtfhepbbkggdlcaaGreatDoor.Px


namespace Go.Proofs.YtfhepbbkggdlcaaGreatDoor.Px
open Go
def TX (h:Int):Mh:=⟨(nL h).1,(nL h).2⟩
def DX (h:Int) (m:Mh):Int:=cond (decide (m.part≥19440)||((m.day%7==2&&(decide (m.part≥9924)&& !db h))||(m.day%7==1&&(decide (m.part≥16789)&&db (h-1))))) 1 0
def E6 (h:Int) (m:Mh):Bool:=bO h&&cR m.day
def FA:Int:=aP 3762
def Et:Int:=aP 9999+bt 9999-1
def zG (n lo hi:Int):Bool:=inH n&&(decide (3762≤lo)&&(decide (lo<hi)&&(decide (hi≤10000)&&(decide (aP lo≤n)&&decide (n<aP hi)))))
def iO (L:Int):Nat→Int→Int→Int×Int
 |0,m,o=>(m,o)
 |k+1,m,o=>cond (decide (o≥lQ L m)) (iO L k (m+1) (o-lQ L m)) (m,o)
def E8 (h m o:Int):Bool:=fw h&&(m==1&&(decide (0≤o)&&decide (o<bt h)))
def tP (d:Int) (ab:Bool):Int:=cond (d==1||d==2) 1 (cond (d==10) 2 (cond (d==15||(ab&&d==16)) 3 (cond (d==22||(ab&&d==23)) 4 0)))
def Ev (d:ob) (ab:Bool):Int:=cond (d.month==1) (tP d.day ab) (cond (d.month==8&&(d.day==15||(ab&&d.day==16))) 5 (cond (d.month==8&&(d.day==21||(ab&&d.day==22))) 6 (cond (d.month==10&&(d.day==6||(ab&&d.day==7))) 7 0)))
def Vo (n:Int) (ab:Bool):Vs:=⟨bH (-1) ab 10 n,bH 1 ab 10 n⟩
def IM (s:Sun) (n:Int):Int:=nv (ofG n).1 s
def yZ (s:Sun) (n:Int):Bool:=ax s==0&&dj n
def nR (c:Config) (w:ag) (d:Int):Bool:=cI () c w d&&decide (w.kind<4)
def xP (c:Config) (w:ag) (d:Int):Bool:=(opens c w d).2.2
def qh (c:Config) (w:ag) (d:Int):E4:=cond (opens c w d).2.2 ⟨⟨(opens c w d).1,(opens c w d).2.1,w.mode,w.prio⟩,true⟩ ⟨BV,false⟩
def Bn (c:Config) (w:ag) (d:Int):Bool:=cI () c w d
def zK (L:Int) (o:Nat):Bool:=(De L 13 1 (o:Int) 0 0).1==(iO L 13 1 (o:Int)).1&&(De L 13 1 (o:Int) 0 0).2==(iO L 13 1 (o:Int)).2+1
theorem PN:eA (zK 353) 353=true:=by kernel_rfl
theorem Py:eA (zK 354) 354=true:=by kernel_rfl
theorem PU:eA (zK 355) 355=true:=by kernel_rfl
theorem P9:eA (zK 383) 383=true:=by kernel_rfl
theorem RF:eA (zK 384) 384=true:=by kernel_rfl
theorem Qg:eA (zK 385) 385=true:=by kernel_rfl
theorem Rx {L:Int} (h:L∈lens) {o:Nat} (ho:(o:Int)<L):zK L o=true:=by
 simp only[lens,List.mem_cons,List.not_mem_nil,or_false]at h
 rcases h with rfl|rfl|rfl|rfl|rfl|rfl
 ·exact bT PN o (by omega)
 ·exact bT Py o (by omega)
 ·exact bT PU o (by omega)
 ·exact bT P9 o (by omega)
 ·exact bT RF o (by omega)
 ·exact bT Qg o (by omega)
def zO (L:Int) (o:Nat):Bool:=(decide (0≤(iO L 13 1 (o:Int)).2)&&decide ((iO L 13 1 (o:Int)).2<lQ L (iO L 13 1 (o:Int)).1))&&(decide (1≤(iO L 13 1 (o:Int)).1)&&decide ((iO L 13 1 (o:Int)).1≤13))
theorem Up:eA (zO 353) 353=true:=by kernel_rfl
theorem T2:eA (zO 354) 354=true:=by kernel_rfl
theorem Ux:eA (zO 355) 355=true:=by kernel_rfl
theorem Ur:eA (zO 383) 383=true:=by kernel_rfl
theorem Us:eA (zO 384) 384=true:=by kernel_rfl
theorem Ul:eA (zO 385) 385=true:=by kernel_rfl
theorem T4 {L:Int} (h:L∈lens) {o:Nat} (ho:(o:Int)<L):zO L o=true:=by
 simp only[lens,List.mem_cons,List.not_mem_nil,or_false]at h
 rcases h with rfl|rfl|rfl|rfl|rfl|rfl
 ·exact bT Up o (by omega)
 ·exact bT T2 o (by omega)
 ·exact bT Ux o (by omega)
 ·exact bT Ur o (by omega)
 ·exact bT Us o (by omega)
 ·exact bT Ul o (by omega)
end Go.Proofs.YtfhepbbkggdlcaaGreatDoor.Px


namespace Go.Proofs.YtfhepbbkggdlcaaGreatDoor.Px
open Go
def jG (c:Config) (a b:Int):List Span:=cD c (b-a+1).toNat a
def zD (c:Config) (a b:Int):Bool:=aY c&&(af c==0&&fg a b)
def Sf (c:Config) (t:Int):U9:=⟨(fK c t).1,(fK c t).2.1⟩
def EZ (c:Config) (_:Int):Bool:=aY c&&af c==0
end Go.Proofs.YtfhepbbkggdlcaaGreatDoor.Px
