/- Spans, as plain functions. -/
import Derived.Test.YtfhepbbkggdlcaaGreatDoorPxApi0
import Derived.Test.YtfhepbbkggdlcaaGreatDoorPxSpecSort
import Derived.Test.YtfhepbbkggdlcaaGreatDoorPxIdx
import Derived.Test.YtfhepbbkggdlcaaGreatDoorPxSpecFeast
set_option linter.unusedVariables false
set_option linter.unusedSimpArgs false
namespace Go.Proofs.YtfhepbbkggdlcaaGreatDoor.Px
open Go
def cX:Span:=⟨0,0,0,0⟩
def inS (s:Span) (t:Int):Bool:=decide (s.from_≤t)&&decide (t<s.to_)
def nj (a b:Span):Bool:=decide (a.prio<b.prio)||(a.prio==b.prio&&decide (a.from_<b.from_))
def cR (l:List Span):Bool:=decide (l.length≤1048576)
def dB (a b:List Span):Bool:=decide (a=b)
def eY (a _:List Span):Bool:=decide (a.length≤1048576)
def gX (l:List Span) (t:Int):Bool:=l.any fun s=>inS s t
def atIdx (l:List Span) (t:Int):Int:=(l.findIdx fun s=>inS s t:Nat)
def ja (l:List Span) (t:Int):Span×Bool:=cond (gX l t) (l.getD (atIdx l t).toNat cX,true) (cX,false)
def bz (l:List Span) (_:Int):Bool:=cR l
def fo (s:Span) (a b:Int):Span:=⟨cond (decide (a>s.from_)) a s.from_,cond (decide (b<s.to_)) b s.to_,s.mode,s.prio⟩
def dY:List Span→Int→Int→List Span
 | [],_,_=>[]
 |s::l,a,b=>cond (decide ((fo s a b).from_<(fo s a b).to_)) (fo s a b::dY l a b) (dY l a b)
def dS (l:List Span) (_ _:Int):Bool:=cR l
def nQ (s:Span):Bool:=decide (s.from_≥s.to_)
def KG (l:List Span):Int:=(l.findIdx nQ:Nat)
def xk (l:List Span):Bool:=l.all (fun s=> !nQ s)&&decide (l.length≤500)
def wGo (L:List Span) (t:Int):List Span→Int→Int→Int
 | [],_,best=>best
 |s::l,i,best=>wGo L t l (i+1) (cond (inS s t&&(decide (best<0)|| !nj s (L.getD best.toNat cX))) i best)
def az (l:List Span) (t:Int):Int:=wGo l t l 0 (-1)
def aS:List Span→List Int
 | []=>[]
 |s::l=>s.from_::s.to_::aS l
def lf (l:List Span):List Int:=fp (df (aS l))
def eN (l out:List Span) (a b:Int):List Span:=
 cond (decide (az l a<0)) out
  (cond (decide (out.length>0)&&((out.getD (out.length-1) cX).to_==a&&(out.getD (out.length-1) cX).mode==(l.getD (az l a).toNat cX).mode))
   (out.set (out.length-1) ⟨(out.getD (out.length-1) cX).from_,b,(out.getD (out.length-1) cX).mode,(out.getD (out.length-1) cX).prio⟩)
   (out++[⟨a,b,(l.getD (az l a).toNat cX).mode,0⟩]))
def fS (l:List Span):List Int→List Span→List Span
 |a::b::es,out=>fS l (b::es) (eN l out a b)
 |_,out=>out
def j7 (l:List Span):List Span:=fS l (lf l) []
def bC (l:List Span):List Span×Int:=cond (xk l) (j7 l,0) ([],130)
def Co (a b:Span):Bool:= !nj a b
def nP1 (t e n:Int) (h:Bool):Int:=cond (decide (e>t)&&(!h||decide (e<n))) e n
def nP2 (t e n:Int) (h:Bool):Bool:=cond (decide (e>t)&&(!h||decide (e<n))) true h
def nGo (t:Int):List Span→Int→Bool→Int×Bool
 | [],n,h=>(n,h)
 |s::l,n,h=>nGo t l (nP1 t s.to_ (nP1 t s.from_ n h) (nP2 t s.from_ n h)) (nP2 t s.to_ (nP1 t s.from_ n h) (nP2 t s.from_ n h))
def bp (l:List Span) (t:Int):Int×Bool:=nGo t l 0 false
def lGo:List Span→Int→Int
 | [],n=>n
 |s::l,n=>lGo l (cond (decide (s.from_<n)) s.from_ n)
def dh (l:List Span):Int:=lGo l (l.getD 0 cX).from_
def Ff (l:List Span):Bool:=cR l&&decide (l.length>0)
def rp (l:List Span):List Int→Int→Int→Bool→List Span→List Span
 | [],_,_,_,out=>out
 |_::k,a,b,m,out=>cond m (rp l k b (bp l b).1 (bp l b).2 (eN l out a b)) out
def uB (l:List Span):List Span:=cond (decide (l.length>0)) (rp l (aS l) (dh l) (bp l (dh l)).1 (bp l (dh l)).2 []) []
def zx (l:List Span):Bool:=decide (l.length≤500)
def RK (l:List Span):List Span:=l.map fun s=>{s with prio:=0}
end Go.Proofs.YtfhepbbkggdlcaaGreatDoor.Px


namespace Go.Proofs.YtfhepbbkggdlcaaGreatDoor.Px
open Go
theorem Vi (x y:Span):(x.from_==y.from_&&(x.to_==y.to_&&(x.mode==y.mode&&(x.prio==y.prio&&true))))=decide (x=y):=by
 rw[Bool.eq_iff_iff]
 obtain⟨a,b,c,d⟩:=x
 obtain⟨a',b',c',d'⟩:=y
 simp
theorem Ad (L:List Span) (t:Int):∀(l:List Span) (i:Nat) (best:Int),-1≤best→best<i→ -1≤wGo L t l i best∧wGo L t l i best<((i+l.length:Nat):Int)
 | [],i,best,h1,h2=>by simp[wGo];omega
 |s::l,i,best,h1,h2=>by
  unfold wGo
  have e:(i:Int)+1=((i+1:Nat):Int):=by simp
  rw[e]
  cases hc:(inS s t&&(decide (best<0)|| !nj s (L.getD best.toNat cX)))
  ·have:=Ad L t l (i+1) best h1 (by omega)
   simp only[XV,List.length_cons]
   refine⟨this.1,?_⟩
   have:=this.2
   omega
  ·have:=Ad L t l (i+1) i (by omega) (by omega)
   simp only[XU,List.length_cons]
   refine⟨this.1,?_⟩
   have:=this.2
   omega
theorem vg (l:List Span) (t:Int): -1≤az l t∧az l t<(l.length:Int):=by
 have:=Ad l t l 0 (-1) (by omega) (by omega)
 simpa[az]using this
theorem fi:∀l:List Span,(aS l).length=2*l.length
 | []=>rfl
 |s::l=>by simp[aS,fi l];omega
theorem xF (l:List Int):(df l).length=l.length:=(lP l).length_eq
theorem nA:∀(l:List Int) (o:Option Int),(dc o l).length≤l.length
 | [],o=>by cases o<;>simp[dc]
 |x::l,none=>by simp[dc,nA l]
 |x::l,some p=>by
  unfold dc
  have:=nA l (some x)
  cases x==p<;>simp<;>omega
theorem mh (l:List Span):(lf l).length≤2*l.length:=by
 have:=nA (df (aS l)) none
 rw[xF,fi]at this
 exact this
theorem nE (l out:List Span) (a b:Int):(eN l out a b).length≤out.length+1:=by
 unfold eN
 cases decide (az l a<0)
 ·simp only[XV]
  cases (decide (out.length>0)&&((out.getD (out.length-1) cX).to_==a&&(out.getD (out.length-1) cX).mode==(l.getD (az l a).toNat cX).mode))<;>simp
 ·simp
theorem yr (l:List Span):∀(es:List Int) (out:List Span),(fS l es out).length≤out.length+es.length
 | [],out=>by simp[fS]
 | [a],out=>by simp[fS]
 |a::b::es,out=>by
  have:=yr l (b::es) (eN l out a b)
  have:=nE l out a b
  simp only[fS,List.length_cons]at*
  omega
theorem qA (l:List Span):(j7 l).length≤2*l.length:=by
 have:=yr l (lf l) []
 have:=mh l
 simp[j7]at*
 omega
theorem Ai:∀(l:List Span) (a b:Int),(dY l a b).length≤l.length
 | [],_,_=>by simp[dY]
 |s::l,a,b=>by
  unfold dY
  have:=Ai l a b
  cases decide ((fo s a b).from_<(fo s a b).to_)<;>simp<;>omega
theorem R5 {l:List Span} {t:Int} (h:gX l t=true):0≤atIdx l t∧atIdx l t<(l.length:Int):=by
 unfold gX at h
 unfold atIdx
 rw[List.any_eq_true]at h
 have:=List.findIdx_lt_length_of_exists (p:=fun s=>inS s t) (by simpa using h)
 omega
theorem Mi (t e n:Int) (h:Bool) (hn:h=true→n>t):(nP2 t e n h=true↔h=true∨e>t)∧(nP2 t e n h=true→nP1 t e n h>t∧(nP1 t e n h=e∨(nP1 t e n h=n∧h=true))∧(h=true→nP1 t e n h≤n)∧(e>t→nP1 t e n h≤e)):=by
 unfold nP1 nP2
 by_cases h1:e>t<;>cases h<;>by_cases h2:e<n<;>simp[h1,h2]<;>(try have:=hn rfl)<;>omega
theorem DF (t:Int):∀(l:List Span) (n:Int) (h:Bool),(h=true→n>t)→((nGo t l n h).2=true↔h=true∨∃e∈aS l,e>t)∧
  ((nGo t l n h).2=true→(nGo t l n h).1>t∧((nGo t l n h).1∈aS l∨((nGo t l n h).1=n∧h=true))∧(h=true→(nGo t l n h).1≤n)∧∀e∈aS l,e>t→(nGo t l n h).1≤e)
 | [],n,h,hn=>by simp[nGo,aS];exact fun e=>⟨hn e,e⟩
 |s::l,n,h,hn=>by
  obtain⟨p1,p2⟩:=Mi t s.from_ n h hn
  obtain⟨q1,q2⟩:=Mi t s.to_ (nP1 t s.from_ n h) (nP2 t s.from_ n h) (fun e=>(p2 e).1)
  obtain⟨r1,r2⟩:=DF t l (nP1 t s.to_ (nP1 t s.from_ n h) (nP2 t s.from_ n h)) (nP2 t s.to_ (nP1 t s.from_ n h) (nP2 t s.from_ n h)) (fun e=>(q2 e).1)
  simp only[nGo,aS,List.mem_cons]
  generalize nGo t l (nP1 t s.to_ (nP1 t s.from_ n h) (nP2 t s.from_ n h)) (nP2 t s.to_ (nP1 t s.from_ n h) (nP2 t s.from_ n h))=r at*
  generalize nP2 t s.to_ (nP1 t s.from_ n h) (nP2 t s.from_ n h)=h2 at*
  generalize nP1 t s.to_ (nP1 t s.from_ n h) (nP2 t s.from_ n h)=n2 at*
  generalize nP2 t s.from_ n h=h1 at*
  generalize nP1 t s.from_ n h=n1 at*
  constructor
  ·rw[r1,q1,p1]
   constructor
   ·rintro (((h|h)|h)|⟨e,he,h⟩)
    ·exact .inl h
    ·exact .inr ⟨_, .inl rfl,h⟩
    ·exact .inr ⟨_, .inr (.inl rfl),h⟩
    ·exact .inr ⟨e, .inr (.inr he),h⟩
   ·rintro (h|⟨e,rfl|rfl|he,h⟩)
    ·exact .inl (.inl (.inl h))
    ·exact .inl (.inl (.inr h))
    ·exact .inl (.inr h)
    ·exact .inr ⟨e,he,h⟩
  ·intro hr
   obtain⟨a1,a2,a3,a4⟩:=r2 hr
   refine⟨a1,?_,fun hh=>?_,?_⟩
   ·rcases a2 with a2|⟨a2,a2'⟩
    ·exact .inl (.inr (.inr a2))
    ·obtain⟨b1,b2,b3,b4⟩:=q2 a2'
     rcases b2 with b2|⟨b2,b2'⟩
     ·exact .inl (.inr (.inl (by rw[a2,b2])))
     ·obtain⟨c1,c2,c3,c4⟩:=p2 b2'
      rcases c2 with c2|⟨c2,c2'⟩
      ·exact .inl (.inl (by rw[a2,b2,c2]))
      ·exact .inr ⟨by rw[a2,b2,c2],c2'⟩
   ·have e1:h1=true:=p1.2 (.inl hh)
    have e2:h2=true:=q1.2 (.inl e1)
    have:=(p2 e1).2.2.1 hh
    have:=(q2 e2).2.2.1 e1
    have:=a3 e2
    omega
   ·rintro e (rfl|rfl|he) hgt
    ·have e1:h1=true:=p1.2 (.inr hgt)
     have e2:h2=true:=q1.2 (.inl e1)
     have:=(p2 e1).2.2.2 hgt
     have:=(q2 e2).2.2.1 e1
     have:=a3 e2
     omega
    ·have e2:h2=true:=q1.2 (.inr hgt)
     have:=(q2 e2).2.2.2 hgt
     have:=a3 e2
     omega
    ·exact a4 e he hgt
theorem zc (l:List Span) (t:Int):(bp l t).2=true↔∃e∈aS l,e>t:=by
 have:=(DF t l 0 false (fun e=>by cases e)).1
 simpa[bp]using this
theorem Eg {l:List Span} {t:Int} (h:(bp l t).2=true):(bp l t).1>t∧(bp l t).1∈aS l∧∀e∈aS l,e>t→(bp l t).1≤e:=by
 obtain⟨a,b,_,d⟩:=(DF t l 0 false (fun e=>by cases e)).2 h
 refine⟨a,?_,d⟩
 rcases b with b|⟨_,b⟩
 ·exact b
 ·cases b
def PG (l:List Span) (a:Int):Nat:=((aS l).filter fun e=>decide (e>a)).length
theorem Uk (l:List Span) (a:Int):PG l a≤(aS l).length:=List.length_filter_le _ _
theorem Ot {l:List Span} {a:Int} (h:PG l a=0):(bp l a).2=false:=by
 rw[Bool.eq_false_iff]
 intro h'
 obtain⟨e,h1,h2⟩:=(zc l a).1 h'
 have:=List.length_eq_zero_iff.1 h
 rw[List.filter_eq_nil_iff]at this
 exact this e h1 (by simpa using h2)
theorem filter_le {α:Type} {p q:α→Bool} (hpq:∀y,q y=true→p y=true):∀l:List α,(l.filter q).length≤(l.filter p).length
 | []=>by simp
 |z::l=>by
  have ih:=filter_le hpq l
  cases h1:q z
  ·cases h2:p z<;>simp[List.filter_cons,h1,h2]<;>omega
  ·simp[List.filter_cons,h1,hpq z h1,ih]
theorem filter_lt {α:Type} {p q:α→Bool} (hpq:∀y,q y=true→p y=true):∀{l:List α} {x:α},x∈l→p x=true→q x=false→(l.filter q).length<(l.filter p).length
 | [],x,hx,_,_=>by cases hx
 |y::l,x,hx,hp,hq=>by
  rcases List.mem_cons.1 hx with rfl|hx
  ·have:=filter_le hpq l
   simp[List.filter_cons,hp,hq]
   omega
  ·have ih:=filter_lt hpq hx hp hq
   cases h1:q y
   ·cases h2:p y<;>simp[List.filter_cons,h1,h2]<;>omega
   ·simp[List.filter_cons,h1,hpq y h1,ih]
theorem NV {l:List Span} {a:Int} (h:(bp l a).2=true):PG l (bp l a).1<PG l a:=by
 obtain⟨h1,h2,h3⟩:=Eg h
 exact filter_lt (fun y hy=>by simp at hy⊢;omega) h2 (by simpa using h1) (by simp)
theorem zq:∀(l:List Span) (n:Int),(lGo l n=n∨∃s∈l,lGo l n=s.from_)∧lGo l n≤n∧∀s∈l,lGo l n≤s.from_
 | [],n=>by simp[lGo]
 |s::l,n=>by
  unfold lGo
  by_cases h:s.from_<n
  ·simp only[h,decide_true,XU]
   obtain⟨a,b,c⟩:=zq l s.from_
   refine⟨.inr ?_,by omega,fun x hx=>?_⟩
   ·rcases a with a|⟨x,hx,a⟩
    ·exact⟨s,by simp,a⟩
    ·exact⟨x,by simp[hx],a⟩
   ·rcases List.mem_cons.1 hx with rfl|hx
    ·exact b
    ·exact c x hx
  ·simp only[h,decide_false,XV]
   obtain⟨a,b,c⟩:=zq l n
   refine⟨?_,b,fun x hx=>?_⟩
   ·rcases a with a|⟨x,hx,a⟩
    ·exact .inl a
    ·exact .inr ⟨x,by simp[hx],a⟩
   ·rcases List.mem_cons.1 hx with rfl|hx
    ·omega
    ·exact c x hx
theorem lI (l:List Span) (a b:Int):eN l [] a b=cond (decide (az l a<0)) [] [⟨a,b,(l.getD (az l a).toNat cX).mode,0⟩]:=by
 simp[eN]
theorem ke (l q:List Span) (p:Span) (a b:Int):eN l (q++[p]) a b=cond (decide (az l a<0)) (q++[p])
  (cond (p.to_==a&&p.mode==(l.getD (az l a).toNat cX).mode) (q++[⟨p.from_,b,p.mode,p.prio⟩]) (q++[p]++[⟨a,b,(l.getD (az l a).toNat cX).mode,0⟩])):=by
 simp[eN]
end Go.Proofs.YtfhepbbkggdlcaaGreatDoor.Px


namespace Go.Proofs.YtfhepbbkggdlcaaGreatDoor.Px
open Go
def cy:List Span→Int→Option Int
 | [],_=>none
 |s::l,t=>cond (inS s t) (some s.mode) (cy l t)
def Beh (a b:Span):Prop:=a.to_≤b.from_∧(a.to_=b.from_→a.mode≠b.mode)
structure Norm (l:List Span):Prop where
 one:∀s∈l,s.from_<s.to_∧s.prio=0
 two:l.Pairwise Beh
theorem im {s:Span} {t:Int}:inS s t=true↔s.from_≤t∧t<s.to_:=by simp[inS]
theorem mP {s:Span} {t:Int}:inS s t=false↔¬(s.from_≤t∧t<s.to_):=by rw[←im];simp
theorem jZ {l:List Span} {t:Int} (h:∀s∈l,inS s t=false):cy l t=none:=by
 induction l with
 |nil=>rfl
 |cons s l ih=>simp only[cy,h s (by simp),XV];exact ih fun x hx=>h x (by simp[hx])
theorem Jt {l:List Span} {t m:Int} (h:cy l t=some m):∃s∈l,inS s t=true∧s.mode=m:=by
 induction l with
 |nil=>cases h
 |cons s l ih=>
  unfold cy at h
  cases hs:inS s t
  ·rw[hs,XV]at h
   obtain⟨x,hx,h1,h2⟩:=ih h
   exact⟨x,by simp[hx],h1,h2⟩
  ·rw[hs,XU]at h
   exact⟨s,by simp,hs,by simpa using h⟩
theorem jM (l r:List Span) (t:Int):cy (l++r) t=(cy l t).or (cy r t):=by
 induction l with
 |nil=>simp[cy]
 |cons s l ih=>
  simp only[List.cons_append,cy,ih]
  cases inS s t<;>simp
theorem Norm.tail {s:Span} {l:List Span} (h:Norm (s::l)):Norm l:=⟨fun x hx=>h.one x (List.mem_cons_of_mem _ hx),(List.pairwise_cons.1 h.two).2⟩
theorem Norm.nil:Norm []:=⟨fun _ h=>(by cases h),List.Pairwise.nil⟩
theorem Norm.beh {s:Span} {l:List Span} (h:Norm (s::l)):∀x∈l,Beh s x:=(List.pairwise_cons.1 h.two).1
theorem Norm.uniq:∀{l r:List Span},Norm l→Norm r→(∀t,cy l t=cy r t)→l=r
 | [],[],_,_,_=>rfl
 | [],s::r,_,hr,h=>by
  have h1:=(hr.one s (by simp)).1
  have:=h s.from_
  have hi:inS s s.from_=true:=im.2 ⟨Int.le_refl _,h1⟩
  simp[cy,hi]at this
 |s::l,[],hl,_,h=>by
  have h1:=(hl.one s (by simp)).1
  have:=h s.from_
  have hi:inS s s.from_=true:=im.2 ⟨Int.le_refl _,h1⟩
  simp[cy,hi]at this
 |s::l,u::r,hl,hr,h=>by
  have hs:=hl.one s (by simp)
  have hu:=hr.one u (by simp)
  have early:∀{s:Span} {l:List Span},Norm (s::l)→∀t,t<s.from_→cy (s::l) t=none:=by
   intro s l hn t ht
   refine jZ fun x hx=>mP.2 fun hx'=>?_
   rcases List.mem_cons.1 hx with rfl|hx
   ·omega
   ·have:=(hn.beh x hx).1
    have:=(hn.one s (by simp)).1
    omega
  have head:∀{s:Span} {l:List Span} {t:Int},s.from_≤t→t<s.to_→cy (s::l) t=some s.mode:=by
   intro s l t h1 h2
   simp[cy,im.2 ⟨h1,h2⟩]
  have e1:s.from_=u.from_:=by
   rcases Int.lt_trichotomy s.from_ u.from_ with e|e|e
   ·have:=h s.from_
    rw[early hr _ e,head (Int.le_refl _) hs.1]at this
    cases this
   ·exact e
   ·have:=h u.from_
    rw[early hl _ e,head (Int.le_refl _) hu.1]at this
    cases this
  have e2:s.mode=u.mode:=by
   have:=h s.from_
   rw[head (Int.le_refl _) hs.1,head (by omega) (by omega)]at this
   simpa using this
  have ends:∀{s u:Span} {l r:List Span},Norm (s::l)→Norm (u::r)→s.from_=u.from_→s.mode=u.mode→(∀t,cy (s::l) t=cy (u::r) t)→¬s.to_<u.to_:=by
   intro s u l r hl hr e1 e2 h hlt
   have h1:=(hl.one s (by simp)).1
   have:=h s.to_
   rw[head (s:=u) (by omega) hlt]at this
   obtain⟨x,hx,i1,i2⟩:=Jt this
   rw[im]at i1
   rcases List.mem_cons.1 hx with rfl|hx
   ·omega
   ·obtain⟨b1,b2⟩:=hl.beh x hx
    exact b2 (by omega) (by rw[e2,i2])
  have e3:s.to_=u.to_:=by
   have a:=ends hl hr e1 e2 h
   have b:=ends hr hl e1.symm e2.symm (fun t=>(h t).symm)
   omega
  have e4:s=u:=by
   obtain⟨a,b,c,d⟩:=s
   obtain⟨a',b',c',d'⟩:=u
   simp only at*
   rw[e1,e2,e3,hs.2,hu.2]
  subst e4
  congr 1
  refine Norm.uniq hl.tail hr.tail fun t=>?_
  by_cases ht:t<s.to_
  ·rw[jZ fun x hx=>mP.2 fun h=>by have:=(hl.beh x hx).1;omega,jZ fun x hx=>mP.2 fun h=>by have:=(hr.beh x hx).1;omega]
  ·have:=h t
   have hi:inS s t=false:=mP.2 fun h=>by omega
   simpa[cy,hi]using this
def sj (t:Int):List Span→Option Span→Option Span
 | [],b=>b
 |s::l,b=>sj t l (cond (inS s t&&(match b with
  |none=>true
  |some x=> !nj s x)) (some s) b)
def fY (l:List Span) (t:Int):Option Int:=(sj t l none).map (·.mode)
def Jy (L:List Span) (i:Int):Option Span:=cond (decide (i<0)) none (some (L.getD i.toNat cX))
theorem HN (t:Int):∀(suf pre:List Span) (best:Int),-1≤best→best<(pre.length:Int)→Jy (pre++suf) (wGo (pre++suf) t suf (pre.length:Int) best)=sj t suf (Jy (pre++suf) best)
 | [],pre,best,_,_=>by simp[wGo,sj]
 |s::suf,pre,best,h1,h2=>by
  unfold wGo sj
  have e:((pre.length:Nat):Int)+1=(((pre++[s]).length:Nat):Int):=by simp
  have ha:pre++s::suf=(pre++[s])++suf:=by simp
  have hm:(match Jy (pre++s::suf) best with
   |none=>true
   |some x=> !nj s x)=(decide (best<0)|| !nj s ((pre++s::suf).getD best.toNat cX)):=by
   unfold Jy
   cases decide (best<0)<;>simp
  rw[hm,e]
  cases (inS s t&&(decide (best<0)|| !nj s ((pre++s::suf).getD best.toNat cX)))
  ·rw[XV,XV]
   have:=HN t suf (pre++[s]) best h1 (by simp;omega)
   rw[←ha]at this
   exact this
  ·rw[XU,XU]
   have:=HN t suf (pre++[s]) ((pre.length:Nat):Int) (by omega) (by simp;omega)
   rw[←ha]at this
   rw[this]
   congr 1
   have hd:decide (((pre.length:Nat):Int)<0)=false:=by simp
   unfold Jy
   rw[hd]
   simp
theorem Iu (l:List Span) (t:Int):Jy l (az l t)=sj t l none:=by
 have:=HN t l [] (-1) (by omega) (by simp)
 have h2:Jy l (-1)=none:=rfl
 rw[List.nil_append,h2]at this
 exact this
theorem Oc (l:List Span) (t:Int):fY l t=cond (decide (az l t<0)) none (some (l.getD (az l t).toNat cX).mode):=by
 unfold fY
 rw[←Iu]
 unfold Jy
 cases decide (az l t<0)<;>rfl
theorem Cj {t:Int}:∀{l:List Span} (b:Option Span),(∀s∈l,inS s t=false)→sj t l b=b
 | [],_,_=>rfl
 |s::l,b,h=>by
  unfold sj
  rw[h s (by simp),Bool.false_and,XV]
  exact Cj b fun x hx=>h x (by simp[hx])
theorem Aw {t u:Int}:∀{l:List Span} (b:Option Span),(∀s∈l,inS s t=inS s u)→sj t l b=sj u l b
 | [],_,_=>rfl
 |s::l,b,h=>by
  unfold sj
  rw[h s (by simp)]
  exact Aw _ fun x hx=>h x (by simp[hx])
theorem Norm.apart {l:List Span} (h:Norm l):l.Pairwise fun a b=>a.to_≤b.from_:=h.two.imp fun h=>h.1
theorem JB:∀(l:List Int) (p:Int),l.Pairwise (· ≤ ·)→(∀y∈l,p≤y)→(∀x,x∈dc (some p) l↔x∈l∧x≠p)∧(dc (some p) l).Pairwise (· < ·)∧∀x∈dc (some p) l,p<x
 | [],p,_,_=>by simp[dc]
 |x::l,p,h1,h2=>by
  rw[List.pairwise_cons]at h1
  obtain⟨a,b,c⟩:=JB l x h1.2 h1.1
  have hpx:=h2 x (by simp)
  unfold dc
  by_cases e:x=p
  ·subst e
   simp only[beq_self_eq_true,XU]
   refine⟨fun z=>?_,b,c⟩
   rw[a,List.mem_cons]
   constructor
   ·rintro ⟨h,h'⟩;exact⟨.inr h,h'⟩
   ·rintro ⟨h|h,h'⟩
    ·exact absurd h h'
    ·exact⟨h,h'⟩
  ·have:(x==p)=false:=by simpa using e
   rw[this,XV]
   refine⟨fun z=>?_,List.pairwise_cons.2 ⟨c,b⟩,fun z hz=>?_⟩
   ·rw[List.mem_cons,List.mem_cons,a]
    constructor
    ·rintro (rfl|⟨h,h'⟩)
     ·exact⟨.inl rfl,e⟩
     ·have:=h1.1 z h
      exact⟨.inr h,by omega⟩
    ·rintro ⟨rfl|h,h'⟩
     ·exact .inl rfl
     ·by_cases hz:z=x
      ·exact .inl hz
      ·exact .inr ⟨h,hz⟩
   ·rcases List.mem_cons.1 hz with rfl|hz
    ·omega
    ·have:=c z hz
     omega
theorem HW (l:List Span):(∀x,x∈lf l↔x∈aS l)∧(lf l).Pairwise (· < ·):=by
 have hs:=o9 (aS l)
 have hm:∀x,x∈df (aS l)↔x∈aS l:=fun x=>(lP _).mem_iff
 unfold lf fp
 cases h:df (aS l)with
 |nil=>
  rw[h]at hm
  exact⟨fun x=>by rw[←hm];simp[dc],List.Pairwise.nil⟩
 |cons y r=>
  rw[h]at hs hm
  rw[List.pairwise_cons]at hs
  obtain⟨a,b,c⟩:=JB r y hs.2 hs.1
  refine⟨fun x=>?_,List.pairwise_cons.2 ⟨c,b⟩⟩
  rw[←hm]
  show x∈y::dc (some y) r↔_
  rw[List.mem_cons,List.mem_cons,a]
  constructor
  ·rintro (h|⟨h,_⟩)
   ·exact .inl h
   ·exact .inr h
  ·rintro (h|h)
   ·exact .inl h
   ·by_cases e:x=y
    ·exact .inl e
    ·exact .inr ⟨h,e⟩
theorem sK {l:List Span} {e:Int}:e∈aS l↔∃s∈l,e=s.from_∨e=s.to_:=by
 induction l with
 |nil=>simp[aS]
 |cons s l ih=>
  simp only[aS,List.mem_cons,ih]
  constructor
  ·rintro (h|h|⟨x,hx,h⟩)
   ·exact⟨s, .inl rfl, .inl h⟩
   ·exact⟨s, .inl rfl, .inr h⟩
   ·exact⟨x, .inr hx,h⟩
  ·rintro ⟨x,rfl|hx,h⟩
   ·rcases h with h|h
    ·exact .inl h
    ·exact .inr (.inl h)
   ·exact .inr (.inr ⟨x,hx,h⟩)
theorem Se {l:List Span} {a t:Int} (h:∀e∈aS l,¬(a<e∧e≤t)) (hat:a≤t):∀s∈l,inS s t=inS s a:=by
 intro s hs
 have h1:=h s.from_ (sK.2 ⟨s,hs, .inl rfl⟩)
 have h2:=h s.to_ (sK.2 ⟨s,hs, .inr rfl⟩)
 rw[Bool.eq_iff_iff,im,im]
 omega
theorem Hj {l:List Span} {a t:Int} (h:∀e∈aS l,¬(a<e∧e≤t)) (hat:a≤t):fY l t=fY l a:=by
 unfold fY
 rw[Aw none (Se h hat)]
structure C1 (l out:List Span) (a:Int):Prop where
 norm:Norm out
 le:∀s∈out,s.to_≤a
 Js:∀t,t<a→cy out t=fY l t
theorem wo (s:Span) (t:Int):cy [s] t=cond (inS s t) (some s.mode) none:=rfl
theorem C1.next {l out:List Span} {a b:Int} (h:C1 l out a) (hab:a<b) (hb:∀e∈aS l,a<e→b≤e):C1 l (eN l out a b) b:=by
 have same:∀t,a≤t→t<b→fY l t=fY l a:=fun t h1 h2=>Hj (fun e he hh=>by have:=hb e he hh.1;omega) h1
 have none':∀t,a≤t→cy out t=none:=fun t ht=>jZ fun s hs=>mP.2 fun hh=>by have:=h.le s hs;omega
 have hw:=Oc l a
 cases hd:decide (az l a<0)with
 |true=>
  rw[hd,XU]at hw
  have e:eN l out a b=out:=by unfold eN;rw[hd];rfl
  rw[e]
  refine⟨h.norm,fun s hs=>by have:=h.le s hs;omega,fun t ht=>?_⟩
  by_cases hta:t<a
  ·exact h.Js t hta
  ·rw[none' t (by omega),same t (by omega) ht,hw]
 |false=>
  rw[hd,XV]at hw
  generalize hm:(l.getD (az l a).toNat cX).mode=m at hw
  have app:(∀s∈out,s.to_=a→s.mode≠m)→C1 l (out++[⟨a,b,m,0⟩]) b:=by
   intro hno
   refine⟨⟨fun s hs=>?_,?_⟩,fun s hs=>?_,fun t ht=>?_⟩
   ·rcases List.mem_append.1 hs with hs|hs
    ·exact h.norm.one s hs
    ·rw[List.mem_singleton]at hs
     subst hs
     exact⟨hab,rfl⟩
   ·rw[List.pairwise_append]
    refine⟨h.norm.two,List.pairwise_singleton _ _,fun x hx y hy=>?_⟩
    rw[List.mem_singleton]at hy
    subst hy
    exact⟨h.le x hx,fun e=>hno x hx e⟩
   ·rcases List.mem_append.1 hs with hs|hs
    ·have:=h.le s hs;omega
    ·rw[List.mem_singleton]at hs
     subst hs
     exact Int.le_refl _
   ·rw[jM,wo]
    by_cases hta:t<a
    ·have:inS ⟨a,b,m,0⟩ t=false:=mP.2 fun hh=>by simp only at hh;omega
     rw[this,XV,h.Js t hta]
     cases fY l t<;>rfl
    ·have:inS ⟨a,b,m,0⟩ t=true:=im.2 ⟨by simp only;omega,ht⟩
     rw[this,XU,none' t (by omega),same t (by omega) ht,hw]
     rfl
  rcases cU out with rfl|⟨q,p,rfl⟩
  ·rw[lI,hd,XV,hm]
   exact app (fun s hs=>by cases hs)
  ·rw[ke,hd,XV,hm]
   have hp:=h.norm.one p (by simp)
   have hpa:=h.le p (by simp)
   have hq:=List.pairwise_append.1 h.norm.two
   cases hc:(p.to_==a&&p.mode==m)with
   |true=>
    simp only[XR,beq_iff_eq]at hc
    rw[XU]
    refine⟨⟨fun s hs=>?_,?_⟩,fun s hs=>?_,fun t ht=>?_⟩
    ·rcases List.mem_append.1 hs with hs|hs
     ·exact h.norm.one s (by simp[hs])
     ·rw[List.mem_singleton]at hs
      subst hs
      exact⟨by simp only;omega,hp.2⟩
    ·rw[List.pairwise_append]
     refine⟨hq.1,List.pairwise_singleton _ _,fun x hx y hy=>?_⟩
     rw[List.mem_singleton]at hy
     subst hy
     exact hq.2.2 x hx p (by simp)
    ·rcases List.mem_append.1 hs with hs|hs
     ·have:=h.le s (by simp[hs]);omega
     ·rw[List.mem_singleton]at hs
      subst hs
      exact Int.le_refl _
    ·rw[jM,wo]
     by_cases hta:t<a
     ·have h1:=h.Js t hta
      rw[jM,wo]at h1
      rw[←h1]
      have:inS ⟨p.from_,b,p.mode,p.prio⟩ t=inS p t:=by
       rw[Bool.eq_iff_iff,im,im]
       simp only
       omega
      rw[this]
     ·have:inS ⟨p.from_,b,p.mode,p.prio⟩ t=true:=im.2 ⟨by simp only;omega,ht⟩
      have hn:=none' t (by omega)
      rw[jM]at hn
      have hn1:cy q t=none:=by
       cases hh:cy q t with
       |none=>rfl
       |some x=>rw[hh]at hn;simp at hn
      rw[this,hn1,XU,same t (by omega) ht,hw,hc.2]
      rfl
   |false=>
    rw[XV]
    refine app (fun s hs e=>?_)
    rcases List.mem_append.1 hs with hs|hs
    ·have:=(hq.2.2 s hs p (by simp)).1
     omega
    ·rw[List.mem_singleton]at hs
     subst hs
     intro e2
     simp[e,e2]at hc
theorem Hv {l:List Span} {t:Int} (h:∀s∈l,inS s t=false):fY l t=none:=by
 unfold fY
 rw[Cj none h]
 rfl
theorem C1.all {l:List Span}:∀(rest:List Int) (a:Int) (out:List Span),(a::rest).Pairwise (· < ·)→(∀e∈aS l,a<e→e∈rest)→C1 l out a→Norm (fS l (a::rest) out)∧∀t,cy (fS l (a::rest) out) t=fY l t
 | [],a,out,_,hm,h=>by
  refine⟨h.norm,fun t=>?_⟩
  by_cases ht:t<a
  ·exact h.Js t ht
  ·show cy out t=_
   rw[jZ fun s hs=>mP.2 fun hh=>by have:=h.le s hs;omega,Hv]
   intro s hs
   refine mP.2 fun hh=>?_
   have:=hm s.to_ (sK.2 ⟨s,hs, .inr rfl⟩) (by omega)
   cases this
 |b::rest,a,out,hp,hm,h=>by
  rw[List.pairwise_cons]at hp
  have hab:=hp.1 b (by simp)
  have hp2:=List.pairwise_cons.1 hp.2
  refine C1.all rest b (eN l out a b) hp.2 (fun e he hbe=>?_) (h.next hab fun e he hae=>?_)
  ·have:=hm e he (by omega)
   rcases List.mem_cons.1 this with rfl|h
   ·omega
   ·exact h
  ·have:=hm e he hae
   rcases List.mem_cons.1 this with rfl|h
   ·exact Int.le_refl _
   ·have:=hp2.1 e h;omega
theorem Ip {l:List Span}:∀(rest k:List Int) (a:Int) (out:List Span),(a::rest).Pairwise (· < ·)→(∀e,e∈rest↔(e∈aS l∧a<e))→rest.length≤k.length→
  rp l k a (bp l a).1 (bp l a).2 out=fS l (a::rest) out
 | [],k,a,out,_,hm,_=>by
  have:(bp l a).2=false:=by
   rw[Bool.eq_false_iff]
   intro h
   obtain⟨e,h1,h2⟩:=(zc l a).1 h
   have:=(hm e).2 ⟨h1,h2⟩
   cases this
  rw[this]
  cases k<;>rfl
 |b::rest,k,a,out,hp,hm,hk=>by
  cases k with
  |nil=>simp at hk
  |cons y k=>
   rw[List.pairwise_cons]at hp
   have hp2:=List.pairwise_cons.1 hp.2
   have hb:=(hm b).1 (by simp)
   have h2:(bp l a).2=true:=(zc l a).2 ⟨b,hb.1,hb.2⟩
   obtain⟨n1,n2,n3⟩:=Eg h2
   have h1:(bp l a).1=b:=by
    have:=n3 b hb.1 hb.2
    have:=(hm _).2 ⟨n2,n1⟩
    rcases List.mem_cons.1 this with e|e
    ·exact e
    ·have:=hp2.1 _ e;omega
   unfold rp
   rw[h2,h1,XU]
   refine Ip rest k b (eN l out a b) hp.2 (fun e=>?_) (by simpa using hk)
   constructor
   ·intro he
    have:=(hm e).1 (by simp[he])
    exact⟨this.1,hp2.1 e he⟩
   ·rintro ⟨h3,h4⟩
    have:=(hm e).2 ⟨h3,by omega⟩
    rcases List.mem_cons.1 this with rfl|h
    ·omega
    ·exact h
theorem TW {l:List Span} (h:xk l=true):uB l=j7 l:=by
 unfold xk at h
 simp only[XR,List.all_eq_true]at h
 obtain⟨hm,hp⟩:=HW l
 unfold uB j7
 cases l with
 |nil=>rfl
 |cons s r=>
  simp only[List.length_cons,gt_iff_lt,Nat.zero_lt_succ,decide_true,XU]
  cases hc:lf (s::r)with
  |nil=>
   rw[hc]at hm
   have:=(hm s.from_).2 (by simp[aS])
   cases this
  |cons a rest=>
   rw[hc]at hm hp
   obtain⟨g1,g2,g3⟩:=zq (s::r) ((s::r).getD 0 cX).from_
   have hmem:∃x∈s::r,dh (s::r)=x.from_:=by
    rcases g1 with g|g
    ·exact⟨s,by simp,by unfold dh;rw[g];rfl⟩
    ·exact g
   obtain⟨x,hx,hxe⟩:=hmem
   have ha:dh (s::r)=a:=by
    have h1:=(hm x.from_).2 (sK.2 ⟨x,hx, .inl rfl⟩)
    rw[←hxe]at h1
    have h2:=(hm a).1 (by simp)
    obtain⟨y,hy,hya⟩:=sK.1 h2
    have h3:=g3 y hy
    have h4:=h.1 y hy
    have h5:y.from_<y.to_:=by simpa[nQ]using h4
    have h6:dh (s::r)≤a:=by
     show lGo (s::r) ((s::r).getD 0 cX).from_≤a
     rcases hya with e|e<;>omega
    rcases List.mem_cons.1 h1 with e|e
    ·exact e
    ·have:=(List.pairwise_cons.1 hp).1 _ e;omega
   rw[ha]
   refine Ip rest (aS (s::r)) a [] hp (fun e=>?_) ?_
   ·constructor
    ·intro he
     exact⟨(hm e).1 (by simp[he]),(List.pairwise_cons.1 hp).1 e he⟩
    ·rintro ⟨h1,h2⟩
     rcases List.mem_cons.1 ((hm e).2 h1)with rfl|h
     ·omega
     ·exact h
   ·have:=mh (s::r)
    rw[hc]at this
    rw[fi]
    simp only[List.length_cons]at*
    omega
end Go.Proofs.YtfhepbbkggdlcaaGreatDoor.Px


namespace Go.Proofs.YtfhepbbkggdlcaaGreatDoor.Px
open Go
theorem Norm.may {l:List Span} (h:Norm l) (hl:l.length≤500):xk l=true:=by
 unfold xk
 simp only[XR,List.all_eq_true,XT]
 refine⟨fun s hs=>?_,hl⟩
 have:=(h.one s hs).1
 simp[nQ]
 omega
theorem vK (s:Span) (a b:Int):(fo s a b).from_=max s.from_ a:=by
 unfold fo
 by_cases h:a>s.from_
 ·simp only[h,decide_true,XU];omega
 ·simp only[h,decide_false,XV];omega
theorem D0 (s:Span) (a b:Int):(fo s a b).to_=min s.to_ b:=by
 unfold fo
 by_cases h:b<s.to_
 ·simp only[h,decide_true,XU];omega
 ·simp only[h,decide_false,XV];omega
theorem I5 {l:List Span} {a b:Int} {x:Span} (h:x∈dY l a b):∃s∈l,x=fo s a b∧x.from_<x.to_:=by
 induction l with
 |nil=>cases h
 |cons s l ih=>
  unfold dY at h
  by_cases hc:(fo s a b).from_<(fo s a b).to_
  ·simp only[hc,decide_true,XU,List.mem_cons]at h
   rcases h with rfl|h
   ·exact⟨s,by simp,rfl,hc⟩
   ·obtain⟨u,hu,h2⟩:=ih h
    exact⟨u,by simp[hu],h2⟩
  ·simp only[hc,decide_false,XV]at h
   obtain⟨u,hu,h2⟩:=ih h
   exact⟨u,by simp[hu],h2⟩
theorem Norm.cut {l:List Span} (h:Norm l) (a b:Int):Norm (dY l a b):=by
 refine⟨fun x hx=>?_,?_⟩
 ·obtain⟨s,hs,rfl,h2⟩:=I5 hx
  exact⟨h2,(h.one s hs).2⟩
 ·induction l with
  |nil=>exact List.Pairwise.nil
  |cons s l ih=>
   unfold dY
   by_cases hc:(fo s a b).from_<(fo s a b).to_
   ·simp only[hc,decide_true,XU,List.pairwise_cons]
    refine⟨fun x hx=>?_,ih h.tail⟩
    obtain⟨u,hu,rfl,h2⟩:=I5 hx
    obtain⟨b1,b2⟩:=h.beh u hu
    rw[vK,D0]at*
    refine⟨by rw[D0,vK];omega,fun e=>?_⟩
    rw[D0,vK]at e
    exact b2 (by omega)
   ·simp only[hc,decide_false,XV]
    exact ih h.tail
theorem all_append {l r:List Span} (h1:l.all (fun s=> !nQ s)=true) (h2:r.all (fun s=> !nQ s)=true):(l++r).all (fun s=> !nQ s)=true:=by
 rw[List.all_append,h1,h2];rfl
theorem Norm.all {l:List Span} (h:Norm l):l.all (fun s=> !nQ s)=true:=by
 rw[List.all_eq_true]
 intro s hs
 have:=(h.one s hs).1
 simp[nQ]
 omega
theorem Norm.Js {l:List Span} (h:Norm l):RK l=l:=by
 unfold RK
 conv=>rhs;rw[←List.map_id l]
 refine List.map_congr_left fun s hs=>?_
 have:=(h.one s hs).2
 obtain⟨a,b,c,d⟩:=s
 simp only at this
 subst this
 rfl
end Go.Proofs.YtfhepbbkggdlcaaGreatDoor.Px


namespace Go.Proofs.YtfhepbbkggdlcaaGreatDoor.Px
open Go
def jk (z:bc) (t:Int):Int:=cond (ao z != 0) (ao z) (cond (!inB t 576000 5258879999) 63 0)
def JF (z:bc) (t:Int):Int:=t+z.base+bK z t
def dr (z:bc) (t:Int):Int×Int×Int:=cond (jk z t != 0) (0,0,jk z t) (JF z t/1440,JF z t%1440,0)
def bo (c:Config) (d:Int):List ag→List Span
 | []=>[]
 |w::ws=>cond (bw c w d).2.1 ((bw c w d).1::bo c d ws) (bo c d ws)
def dH (c:Config):Nat→Int→List Span
 |0,_=>[]
 |k+1,d=>bo c d c.ae++dH c k (d+1)
def fG (a b:Int):Bool:=decide (402≤a)&&(decide (b≤3651990)&&(decide (a≤b)&&decide (b-a≤30)))
def bh (c:Config) (a b:Int):List Span×Int:=cond (af c != 0) ([],af c) (cond (fG a b) (dH c (b-a+1).toNat a,0) ([],140))
def bP (c:Config) (d:Int):List Span×Int:=cond ((bh c (d-9) (d+1)).2 != 0) ([],(bh c (d-9) (d+1)).2) (bC (bh c (d-9) (d+1)).1)
def aY (c:Config) (d:Int):List Span×Int:=cond (af c != 0) ([],af c) (cond (decide (d<411)||decide (d>3651988)) ([],140)
 (cond ((bP c d).2 != 0) ([],(bP c d).2) (dY (bP c d).1 (cM c.aK d 0).1 (cM c.aK (d+1) 0).1,0)))
def fX (c:Config) (t:Int):Bool:=inB t 576000 5258879999&&((ofG ((t+c.aK.base)/1440)).2==0&&(decide (1900≤(ofG ((t+c.aK.base)/1440)).1.year)&&decide ((ofG ((t+c.aK.base)/1440)).1.year≤2399)))
def atG (c:Config) (t:Int):Span×Bool:=ja (bP c (dr c.aK t).1).1 t
def Rs (c:Config) (t:Int):Int×Int×Int:=cond (af c != 0) (0,0,af c) (cond (fX c t) (cond (atG c t).2 ((atG c t).1.mode,(atG c t).1.from_,0) (0,0,0)) (3,0,0))
def IV (t:Int):Bool:=inB t 576000 5258879999
def tE (c:Config) (_:Int):Bool:=aX c
def ln (c:Config) (d:Int):Bool:=aX c&&big d
def tC (c:Config) (_ _:Int):Bool:=aX c
def iP (c:Config) (_:Int):Bool:=af c==0
def eu (a b:Int):Bool:=decide (402≤a)&&(decide (b≤3651990)&&decide (b-a≤30))
end Go.Proofs.YtfhepbbkggdlcaaGreatDoor.Px


namespace Go.Proofs.YtfhepbbkggdlcaaGreatDoor.Px
open Go
theorem qa (c:Config) (d:Int):∀l:List ag,(bo c d l).length≤l.length
 | []=>Nat.le_refl _
 |w::l=>by
  have:=qa c d l
  unfold bo
  cases (bw c w d).2.1
  ·rw[XV,List.length_cons];omega
  ·rw[XU,List.length_cons,List.length_cons];omega
theorem Dj (c:Config):∀(k:Nat) (d:Int),(dH c k d).length≤k*c.ae.length
 |0,_=>by simp[dH]
 |k+1,d=>by
  have h1:=qa c d c.ae
  have h2:=Dj c k (d+1)
  simp only[dH,List.length_append]
  rw[Nat.add_mul,Nat.one_mul]
  omega
theorem GZ {c:Config} (h:af c=0):c.ae.length≤16:=by
 unfold af orE at h
 cases h1:cF c==0
 ·rw[h1]at h;simp only[XV]at h;rw[h]at h1;cases h1
 rw[h1,XU]at h
 cases h2:cA c==0
 ·rw[h2]at h;simp only[XV]at h;rw[h]at h2;cases h2
 rw[h2,XU]at h
 cases h3:bZ c==0
 ·rw[h3]at h;simp only[XV]at h;rw[h]at h3;cases h3
 rw[h3,XU]at h
 cases h4:ao c.aK==0
 ·rw[h4]at h;simp only[XV]at h;rw[h]at h4;cases h4
 rw[h4,XU]at h
 cases h5:ax c.sun==0
 ·rw[h5]at h;simp only[XV]at h;rw[h]at h5;cases h5
 rw[h5,XU]at h
 unfold bj at h
 by_cases hl:c.ae.length≤16
 ·exact hl
 ·rw[decide_eq_true (by omega:c.ae.length>16)]at h
  cases h
theorem FZ {a b:Int} (h:fG a b=true):402≤a∧b≤3651990∧a≤b∧b-a≤30:=by
 simpa only[fG,XR,XT]using h
theorem pG (c:Config) (a b:Int):(bh c a b).1.length≤496:=by
 unfold bh
 cases hc:af c != 0 with
 |true=>simp
 |false=>
  cases hd:fG a b with
  |false=>simp
  |true=>
   obtain⟨h1,h2,h3,h4⟩:=FZ hd
   have hw:=GZ (show af c=0 by simpa using hc)
   have:=Dj c (b-a+1).toNat a
   have h5:(b-a+1).toNat*c.ae.length≤31*16:=Nat.mul_le_mul (by omega) hw
   rw[XV,XU]
   show(dH c (b-a+1).toNat a).length≤496
   omega
theorem CV (l:List Span):(bC l).1.length≤1000:=by
 unfold bC
 cases hm:xk l with
 |false=>simp
 |true=>
  have:=qA l
  simp only[xk,XR,XT]at hm
  rw[XU]
  show(j7 l).length≤1000
  omega
theorem xC (c:Config) (d:Int):(bP c d).1.length≤1000:=by
 unfold bP
 cases (bh c (d-9) (d+1)).2 != 0
 ·exact CV _
 ·simp
theorem AE:aF 1900=693595:=by decide
theorem Af:aF 2400=876216:=by decide
theorem K3 {c:Config} {t:Int} (h:af c=0):fX c t=true↔998778240-c.aK.base≤t∧t<1261752480-c.aK.base:=by
 obtain⟨z1,_⟩:=bR (cW h).1
 unfold fX
 simp only[XR,bG,beq_iff_eq,XT]
 generalize hn:(t+c.aK.base)/1440=n
 constructor
 ·rintro ⟨⟨h1,h2⟩,h3,h4,h5⟩
  have hd:dt n=true:=by
   cases hd:dt n with
   |true=>rfl
   |false=>
    exfalso
    unfold ofG at h3
    rw[show(decide (n<1)||decide (n>3652059))=true by
     have hh:¬(1≤n∧n≤3652059):=fun hh=>by rw[c8.2 hh]at hd;cases hd
     rw[Bool.or_eq_true,XT,XT]
     omega]at h3
    cases h3
  have hd':=c8.1 hd
  obtain⟨y1,y2,l1,l2,e1,e2⟩:=nn hd'.1 hd'.2
  have e:ofG n=(⟨yrG n,((oG n:Nat):Int),lfG n-aE (yrG n) (oG n-1)+1⟩,0):=by
   unfold ofG
   rw[show(decide (n<1)||decide (n>3652059))=false by simp;omega]
   rfl
  rw[e]at h4 h5
  dsimp only at h4 h5
  have a:=jX (y:=1900) (z:=yrG n) (by omega) h4
  have b:=jX (y:=yrG n+1) (z:=2400) (by omega) (by omega)
  rw[AE]at a
  rw[Af]at b
  omega
 ·rintro ⟨h1,h2⟩
  have hd:dt n=true:=c8.2 (by omega)
  obtain⟨y1,y2,l1,l2,e1,e2⟩:=nn (n:=n) (by omega) (by omega)
  have e:ofG n=(⟨yrG n,((oG n:Nat):Int),lfG n-aE (yrG n) (oG n-1)+1⟩,0):=by
   unfold ofG
   rw[show(decide (n<1)||decide (n>3652059))=false by simp;omega]
   rfl
  rw[e]
  dsimp only
  refine⟨⟨by omega,by omega⟩,rfl,?_,?_⟩
  ·by_cases hy:1900≤yrG n
   ·exact hy
   ·have:=jX (y:=yrG n+1) (z:=1900) (by omega) (by omega)
    rw[AE]at this
    omega
  ·by_cases hy:yrG n≤2399
   ·exact hy
   ·have:=jX (y:=2400) (z:=yrG n) (by omega) (by omega)
    rw[Af]at this
    omega
end Go.Proofs.YtfhepbbkggdlcaaGreatDoor.Px


namespace Go.Proofs.YtfhepbbkggdlcaaGreatDoor.Px
open Go
theorem Re {a b:Int}:orE a b=0↔a=0∧b=0:=by
 unfold orE
 cases h:a==0 with
 |true=>
  have:=beq_iff_eq.1 h
  simp[this]
 |false=>
  have:a≠0:=by simpa using h
  simp[this]
theorem MR {c:Config}:af c=0↔cF c=0∧cA c=0∧bZ c=0∧ao c.aK=0∧ax c.sun=0∧bj c=0:=by
 unfold af
 simp only[Re]
theorem Jw {c:Config}:bj c=0↔c.ae.length≤16∧c.ae.all bl=true:=by
 unfold bj dF
 by_cases h:c.ae.length>16
 ·rw[decide_eq_true h]
  simp
  omega
 ·rw[decide_eq_false h]
  cases c.ae.all bl<;>simp
  omega
theorem Qa (c:Config) (k:Int) (w:ag) (l:List ag):bo c k (w::l)=cond (bw c w k).2.1 ((bw c w k).1::bo c k l) (bo c k l):=rfl
theorem GP {c:Config} {k:Int} {s:Span}:∀{l:List ag},s∈bo c k l→∃w∈l,(bw c w k).2.1=true∧s=(bw c w k).1
 | [],h=>by cases h
 |w::l,h=>by
  unfold bo at h
  cases hw:(bw c w k).2.1 with
  |true=>
   rw[hw,XU]at h
   rcases List.mem_cons.1 h with rfl|h
   ·exact⟨w,List.mem_cons_self,hw,rfl⟩
   ·obtain⟨v,v1,v2⟩:=GP h
    exact⟨v,List.mem_cons_of_mem _ v1,v2⟩
  |false=>
   rw[hw,XV]at h
   obtain⟨v,v1,v2⟩:=GP h
   exact⟨v,List.mem_cons_of_mem _ v1,v2⟩
theorem Ir {c:Config} {s:Span}:∀{n:Nat} {k:Int},s∈dH c n k→∃(d:Int) (w:ag),(k≤d∧d<k+n)∧w∈c.ae∧(bw c w d).2.1=true∧s=(bw c w d).1
 |0,k,h=>by cases h
 |n+1,k,h=>by
  unfold dH at h
  rcases List.mem_append.1 h with h|h
  ·obtain⟨w,w1,w2,w3⟩:=GP h
   exact⟨k,w,⟨by omega,by omega⟩,w1,w2,w3⟩
  ·obtain⟨d,w,d1,w1⟩:=Ir h
   exact⟨d,w,⟨by omega,by omega⟩,w1⟩
theorem Ld {c:Config} {w:ag} {d:Int} (h:(bw c w d).2.1=true):(bw c w d).1.from_<(bw c w d).1.to_∧(bw c w d).1.mode=w.mode∧(bw c w d).1.prio=w.prio:=by
 rcases Df c w d with⟨_,e⟩|⟨⟨h1,h2,h3⟩,e⟩
 ·rw[e]at h;cases h
 ·cases ho:(opens c w d).2.2 with
  |false=>rw[e,ho]at h;cases h
  |true=>
   rw[ho,XU]at e
   rw[e]
   refine⟨?_,rfl,rfl⟩
   dsimp only
   have hd:=(iR _).1 h3
   by_cases hk:w.kind=4
   ·obtain⟨L,m,n,_,l1,m1,n1,f1,f2,o1,o2⟩:=(Nv hk h1 h2 h3).2 ho
    rw[o1,o2];omega
   ·obtain⟨m1,m2,m3,o1,o2⟩:=Ci hk h1 h2 h3
    rw[o1,o2];omega
theorem RO {c:Config} (hc:af c=0) {a b:Int} (h:fG a b=true):xk (dH c (b-a+1).toNat a)=true:=by
 have hl:=pG c a b
 unfold bh at hl
 rw[hc,h]at hl
 unfold xk
 simp only[XR,List.all_eq_true,XT]
 refine⟨fun s hs=>?_,Nat.le_trans hl (by omega)⟩
 obtain⟨d,w,_,w1,w2,rfl⟩:=Ir hs
 have:=(Ld w2).1
 simp[nQ]
 omega
end Go.Proofs.YtfhepbbkggdlcaaGreatDoor.Px


namespace Go.Proofs.YtfhepbbkggdlcaaGreatDoor.Px
open Go
def PY (z:bc) (y:Int):Int:=(aF y+1)*1440-z.base
end Go.Proofs.YtfhepbbkggdlcaaGreatDoor.Px


namespace Go.Proofs.YtfhepbbkggdlcaaGreatDoor.Px
open Go
end Go.Proofs.YtfhepbbkggdlcaaGreatDoor.Px


namespace Go.Proofs.YtfhepbbkggdlcaaGreatDoor.Px
open Go
def UJ (h:Int):Od:=⟨(nV h).1,(nV h).2⟩
def EE (h:Int) (m:Od):Int:=cond (decide (m.part≥19440)||((m.day%7==2&&(decide (m.part≥9924)&& !dd h))||(m.day%7==1&&(decide (m.part≥16789)&&dd (h-1))))) 1 0
def FB (h:Int) (m:Od):Bool:=bO h&&cS m.day
def FU:Int:=aP 3762
def Fw:Int:=aP 9999+bu 9999-1
def zk (n lo hi:Int):Bool:=inH n&&(decide (3762≤lo)&&(decide (lo<hi)&&(decide (hi≤10000)&&(decide (aP lo≤n)&&decide (n<aP hi)))))
def iY (L:Int):Nat→Int→Int→Int×Int
 |0,m,o=>(m,o)
 |k+1,m,o=>cond (decide (o≥lV L m)) (iY L k (m+1) (o-lV L m)) (m,o)
def Fy (h m o:Int):Bool:=fM h&&(m==1&&(decide (0≤o)&&decide (o<bu h)))
def tx (d:Int) (ab:Bool):Int:=cond (d==1||d==2) 1 (cond (d==10) 2 (cond (d==15||(ab&&d==16)) 3 (cond (d==22||(ab&&d==23)) 4 0)))
def E6 (d:n9) (ab:Bool):Int:=cond (d.month==1) (tx d.day ab) (cond (d.month==8&&(d.day==15||(ab&&d.day==16))) 5 (cond (d.month==8&&(d.day==21||(ab&&d.day==22))) 6 (cond (d.month==10&&(d.day==6||(ab&&d.day==7))) 7 0)))
def VU (n:Int) (ab:Bool):VS:=⟨bJ (-1) ab 10 n,bJ 1 ab 10 n⟩
def I3 (s:Sun) (n:Int):Int:=nO (ofG n).1 s
def zB (s:Sun) (n:Int):Bool:=ax s==0&&dt n
def nX (c:Config) (w:ag) (d:Int):Bool:=cI () c w d&&decide (w.kind<4)
def yV (c:Config) (w:ag) (d:Int):Bool:=(opens c w d).2.2
def qk (c:Config) (w:ag) (d:Int):EZ:=cond (opens c w d).2.2 ⟨⟨(opens c w d).1,(opens c w d).2.1,w.mode,w.prio⟩,true⟩ ⟨C7,false⟩
def Bo (c:Config) (w:ag) (d:Int):Bool:=cI () c w d
def Av (L:Int) (o:Nat):Bool:=(Dv L 13 1 (o:Int) 0 0).1==(iY L 13 1 (o:Int)).1&&(Dv L 13 1 (o:Int) 0 0).2==(iY L 13 1 (o:Int)).2+1
theorem Qi:eX (Av 353) 353=true:=by kernel_rfl
theorem OV:eX (Av 354) 354=true:=by kernel_rfl
theorem QJ:eX (Av 355) 355=true:=by kernel_rfl
theorem Rg:eX (Av 383) 383=true:=by kernel_rfl
theorem PC:eX (Av 384) 384=true:=by kernel_rfl
theorem Qv:eX (Av 385) 385=true:=by kernel_rfl
theorem PK {L:Int} (h:L∈lens) {o:Nat} (ho:(o:Int)<L):Av L o=true:=by
 simp only[lens,List.mem_cons,List.not_mem_nil,or_false]at h
 rcases h with rfl|rfl|rfl|rfl|rfl|rfl
 ·exact bX Qi o (by omega)
 ·exact bX OV o (by omega)
 ·exact bX QJ o (by omega)
 ·exact bX Rg o (by omega)
 ·exact bX PC o (by omega)
 ·exact bX Qv o (by omega)
def Am (L:Int) (o:Nat):Bool:=(decide (0≤(iY L 13 1 (o:Int)).2)&&decide ((iY L 13 1 (o:Int)).2<lV L (iY L 13 1 (o:Int)).1))&&(decide (1≤(iY L 13 1 (o:Int)).1)&&decide ((iY L 13 1 (o:Int)).1≤13))
theorem U1:eX (Am 353) 353=true:=by kernel_rfl
theorem Vg:eX (Am 354) 354=true:=by kernel_rfl
theorem Vh:eX (Am 355) 355=true:=by kernel_rfl
theorem U6:eX (Am 383) 383=true:=by kernel_rfl
theorem Vj:eX (Am 384) 384=true:=by kernel_rfl
theorem Vq:eX (Am 385) 385=true:=by kernel_rfl
theorem U4 {L:Int} (h:L∈lens) {o:Nat} (ho:(o:Int)<L):Am L o=true:=by
 simp only[lens,List.mem_cons,List.not_mem_nil,or_false]at h
 rcases h with rfl|rfl|rfl|rfl|rfl|rfl
 ·exact bX U1 o (by omega)
 ·exact bX Vg o (by omega)
 ·exact bX Vh o (by omega)
 ·exact bX U6 o (by omega)
 ·exact bX Vj o (by omega)
 ·exact bX Vq o (by omega)
end Go.Proofs.YtfhepbbkggdlcaaGreatDoor.Px


namespace Go.Proofs.YtfhepbbkggdlcaaGreatDoor.Px
open Go
def cH (c:Config) (a b:Int):List Span:=dH c (b-a+1).toNat a
def oL (c:Config) (a b:Int):Bool:=aX c&&(af c==0&&eu a b)
end Go.Proofs.YtfhepbbkggdlcaaGreatDoor.Px


namespace Go.Proofs.YtfhepbbkggdlcaaGreatDoor.Px
open Go
def iX (c:Config) (d:Int):List Span:=dY (uB (cH c (d-9) (d+1))) (oJ c.aK d 0) (oJ c.aK (d+1) 0)
def sw (c:Config) (d:Int):Bool:=aX c&&(af c==0&&(decide (411≤d)&&decide (d≤3651988)))
theorem FC {c:Config} {d:Int} (hc:af c=0) (h1:411≤d) (h2:d≤3651988):
  (cH c (d-9) (d+1)).length≤500∧(uB (cH c (d-9) (d+1))).length≤1000∧gW d 0=true∧gW (d+1) 0=true∧aY c d=(iX c d,0):=by
 have hd2:fG (d-9) (d+1)=true:=by simp only[fG,XR,XT];omega
 have hm:=RO hc hd2
 have hm':xk (cH c (d-9) (d+1))=true:=hm
 have hl:(cH c (d-9) (d+1)).length≤500:=by
  have:=hm'
  simp only[xk,XR,XT]at this
  exact this.2
 have href:=TW hm'
 have hrl:=qA (cH c (d-9) (d+1))
 have m1:gW d 0=true:=by simp only[gW,(iR d).2 (by omega)];rfl
 have m2:gW (d+1) 0=true:=by simp only[gW,(iR (d+1)).2 (by omega)];rfl
 have hz:=(cW hc).1
 refine⟨hl,by rw[href];omega,m1,m2,?_⟩
 have ea:bP c d=(j7 (cH c (d-9) (d+1)),0):=by
  unfold bP bh
  rw[hc,hd2]
  show bC (cH c (d-9) (d+1))=_
  unfold bC
  rw[hm']
  rfl
 unfold aY iX
 rw[hc,ea,href,Cm hz m1,Cm hz m2,decide_eq_false (by omega:¬d<411),decide_eq_false (by omega:¬d>3651988)]
 rfl
end Go.Proofs.YtfhepbbkggdlcaaGreatDoor.Px
