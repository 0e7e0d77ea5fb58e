/- Spans: how long rows are, and where places lie. -/
import Derived.Test.YtdadgkgkdgnihaaPxSpecSpan
import Derived.Test.YtdadgkgkdgnihaaPxIdx
set_option linter.unusedVariables false
set_option linter.unusedSimpArgs false
namespace Go.Proofs.Ytdadgkgkdgnihaa.Px
open Go
theorem Aa (x y:Span):(x.from_==y.from_&&(x.to_==y.to_&&(x.mode==y.mode&&(x.prio==y.prio&&true))))=decide (x=y):=by
 rw[Bool.eq_iff_iff]
 obtain⟨a,b,c,d⟩:=x
 obtain⟨a',b',c',d'⟩:=y
 simp
theorem mi (L:List Span) (t:Int):∀(l:List Span) (i:Nat) (best:Int),-1≤best→best<i→ -1≤wGo L t l i best∧wGo L t l i best<((i+l.length:Nat):Int)
 | [],i,best,h1,h2=>by simp[wGo];omega
 |s::l,i,best,h1,h2=>by
  unfold wGo
  have e:(i:Int)+1=((i+1:Nat):Int):=by simp
  rw[e]
  cases hc:(inS s t&&(decide (best<0)|| !dA s (L.getD best.toNat bt)))
  ·have:=mi L t l (i+1) best h1 (by omega)
   simp only[B5,List.length_cons]
   refine⟨this.1,?_⟩
   have:=this.2
   omega
  ·have:=mi L t l (i+1) i (by omega) (by omega)
   simp only[B4,List.length_cons]
   refine⟨this.1,?_⟩
   have:=this.2
   omega
theorem jD (l:List Span) (t:Int): -1≤ag l t∧ag l t<(l.length:Int):=by
 have:=mi l t l 0 (-1) (by omega) (by omega)
 simpa[ag]using this
theorem df:∀l:List Span,(ax l).length=2*l.length
 | []=>rfl
 |s::l=>by simp[ax,df l];omega
theorem kR (l:List Int):(bn l).length=l.length:=(eT l).length_eq
theorem fT:∀(l:List Int) (o:Option Int),(bl o l).length≤l.length
 | [],o=>by cases o<;>simp[bl]
 |x::l,none=>by simp[bl,fT l]
 |x::l,some p=>by
  unfold bl
  have:=fT l (some x)
  cases x==p<;>simp<;>omega
theorem iF (l:List Span):(eE l).length≤2*l.length:=by
 have:=fT (bn (ax l)) none
 rw[kR,df]at this
 exact this
theorem fP (l out:List Span) (a b:Int):(cL l out a b).length≤out.length+1:=by
 unfold cL
 cases decide (ag l a<0)
 ·simp only[B5]
  cases (decide (out.length>0)&&((out.getD (out.length-1) bt).to_==a&&(out.getD (out.length-1) bt).mode==(l.getD (ag l a).toNat bt).mode))<;>simp
 ·simp
theorem ln (l:List Span):∀(es:List Int) (out:List Span),(c8 l es out).length≤out.length+es.length
 | [],out=>by simp[c8]
 | [a],out=>by simp[c8]
 |a::b::es,out=>by
  have:=ln l (b::es) (cL l out a b)
  have:=fP l out a b
  simp only[c8,List.length_cons]at*
  omega
theorem gV (l:List Span):(aU l).length≤2*l.length:=by
 have:=ln l (eE l) []
 have:=iF l
 simp[aU]at*
 omega
theorem ml:∀(l:List Span) (a b:Int),(bP l a b).length≤l.length
 | [],_,_=>by simp[bP]
 |s::l,a,b=>by
  unfold bP
  have:=ml l a b
  cases decide ((bO s a b).from_<(bO s a b).to_)<;>simp<;>omega
theorem xm {l:List Span} {t:Int} (h:c7 l t=true):0≤atIdx l t∧atIdx l t<(l.length:Int):=by
 unfold c7 at h
 unfold atIdx
 rw[List.any_eq_true]at h
 have:=List.findIdx_lt_length_of_exists (p:=fun s=>inS s t) (by simpa using h)
 omega
theorem vw (t e n:Int) (h:Bool) (hn:h=true→n>t):(nP2 t e n h=true↔h=true∨e>t)∧(nP2 t e n h=true→nP1 t e n h>t∧(nP1 t e n h=e∨(nP1 t e n h=n∧h=true))∧(h=true→nP1 t e n h≤n)∧(e>t→nP1 t e n h≤e)):=by
 unfold nP1 nP2
 by_cases h1:e>t<;>cases h<;>by_cases h2:e<n<;>simp[h1,h2]<;>(try have:=hn rfl)<;>omega
theorem oP (t:Int):∀(l:List Span) (n:Int) (h:Bool),(h=true→n>t)→((nGo t l n h).2=true↔h=true∨∃e∈ax l,e>t)∧
  ((nGo t l n h).2=true→(nGo t l n h).1>t∧((nGo t l n h).1∈ax l∨((nGo t l n h).1=n∧h=true))∧(h=true→(nGo t l n h).1≤n)∧∀e∈ax l,e>t→(nGo t l n h).1≤e)
 | [],n,h,hn=>by simp[nGo,ax];exact fun e=>⟨hn e,e⟩
 |s::l,n,h,hn=>by
  obtain⟨p1,p2⟩:=vw t s.from_ n h hn
  obtain⟨q1,q2⟩:=vw t s.to_ (nP1 t s.from_ n h) (nP2 t s.from_ n h) (fun e=>(p2 e).1)
  obtain⟨r1,r2⟩:=oP t l (nP1 t s.to_ (nP1 t s.from_ n h) (nP2 t s.from_ n h)) (nP2 t s.to_ (nP1 t s.from_ n h) (nP2 t s.from_ n h)) (fun e=>(q2 e).1)
  simp only[nGo,ax,List.mem_cons]
  generalize nGo t l (nP1 t s.to_ (nP1 t s.from_ n h) (nP2 t s.from_ n h)) (nP2 t s.to_ (nP1 t s.from_ n h) (nP2 t s.from_ n h))=r at*
  generalize nP2 t s.to_ (nP1 t s.from_ n h) (nP2 t s.from_ n h)=h2 at*
  generalize nP1 t s.to_ (nP1 t s.from_ n h) (nP2 t s.from_ n h)=n2 at*
  generalize nP2 t s.from_ n h=h1 at*
  generalize nP1 t s.from_ n h=n1 at*
  constructor
  ·rw[r1,q1,p1]
   constructor
   ·rintro (((h|h)|h)|⟨e,he,h⟩)
    ·exact .inl h
    ·exact .inr ⟨_, .inl rfl,h⟩
    ·exact .inr ⟨_, .inr (.inl rfl),h⟩
    ·exact .inr ⟨e, .inr (.inr he),h⟩
   ·rintro (h|⟨e,rfl|rfl|he,h⟩)
    ·exact .inl (.inl (.inl h))
    ·exact .inl (.inl (.inr h))
    ·exact .inl (.inr h)
    ·exact .inr ⟨e,he,h⟩
  ·intro hr
   obtain⟨a1,a2,a3,a4⟩:=r2 hr
   refine⟨a1,?_,fun hh=>?_,?_⟩
   ·rcases a2 with a2|⟨a2,a2'⟩
    ·exact .inl (.inr (.inr a2))
    ·obtain⟨b1,b2,b3,b4⟩:=q2 a2'
     rcases b2 with b2|⟨b2,b2'⟩
     ·exact .inl (.inr (.inl (by rw[a2,b2])))
     ·obtain⟨c1,c2,c3,c4⟩:=p2 b2'
      rcases c2 with c2|⟨c2,c2'⟩
      ·exact .inl (.inl (by rw[a2,b2,c2]))
      ·exact .inr ⟨by rw[a2,b2,c2],c2'⟩
   ·have e1:h1=true:=p1.2 (.inl hh)
    have e2:h2=true:=q1.2 (.inl e1)
    have:=(p2 e1).2.2.1 hh
    have:=(q2 e2).2.2.1 e1
    have:=a3 e2
    omega
   ·rintro e (rfl|rfl|he) hgt
    ·have e1:h1=true:=p1.2 (.inr hgt)
     have e2:h2=true:=q1.2 (.inl e1)
     have:=(p2 e1).2.2.2 hgt
     have:=(q2 e2).2.2.1 e1
     have:=a3 e2
     omega
    ·have e2:h2=true:=q1.2 (.inr hgt)
     have:=(q2 e2).2.2.2 hgt
     have:=a3 e2
     omega
    ·exact a4 e he hgt
theorem wv (l:List Span) (t:Int):(aI l t).2=true↔∃e∈ax l,e>t:=by
 have:=(oP t l 0 false (fun e=>by cases e)).1
 simpa[aI]using this
theorem tB {l:List Span} {t:Int} (h:(aI l t).2=true):(aI l t).1>t∧(aI l t).1∈ax l∧∀e∈ax l,e>t→(aI l t).1≤e:=by
 obtain⟨a,b,_,d⟩:=(oP t l 0 false (fun e=>by cases e)).2 h
 refine⟨a,?_,d⟩
 rcases b with b|⟨_,b⟩
 ·exact b
 ·cases b
def yf (l:List Span) (a:Int):Nat:=((ax l).filter fun e=>decide (e>a)).length
theorem y0 (l:List Span) (a:Int):yf l a≤(ax l).length:=List.length_filter_le _ _
theorem wa {l:List Span} {a:Int} (h:yf l a=0):(aI l a).2=false:=by
 rw[Bool.eq_false_iff]
 intro h'
 obtain⟨e,h1,h2⟩:=(wv l a).1 h'
 have:=List.length_eq_zero_iff.1 h
 rw[List.filter_eq_nil_iff]at this
 exact this e h1 (by simpa using h2)
theorem filter_le {α:Type} {p q:α→Bool} (hpq:∀y,q y=true→p y=true):∀l:List α,(l.filter q).length≤(l.filter p).length
 | []=>by simp
 |z::l=>by
  have ih:=filter_le hpq l
  cases h1:q z
  ·cases h2:p z<;>simp[List.filter_cons,h1,h2]<;>omega
  ·simp[List.filter_cons,h1,hpq z h1,ih]
theorem filter_lt {α:Type} {p q:α→Bool} (hpq:∀y,q y=true→p y=true):∀{l:List α} {x:α},x∈l→p x=true→q x=false→(l.filter q).length<(l.filter p).length
 | [],x,hx,_,_=>by cases hx
 |y::l,x,hx,hp,hq=>by
  rcases List.mem_cons.1 hx with rfl|hx
  ·have:=filter_le hpq l
   simp[List.filter_cons,hp,hq]
   omega
  ·have ih:=filter_lt hpq hx hp hq
   cases h1:q y
   ·cases h2:p y<;>simp[List.filter_cons,h1,h2]<;>omega
   ·simp[List.filter_cons,h1,hpq y h1,ih]
theorem vR {l:List Span} {a:Int} (h:(aI l a).2=true):yf l (aI l a).1<yf l a:=by
 obtain⟨h1,h2,h3⟩:=tB h
 exact filter_lt (fun y hy=>by simp at hy⊢;omega) h2 (by simpa using h1) (by simp)
theorem fj (l:List Span) (a b:Int):cL l [] a b=cond (decide (ag l a<0)) [] [⟨a,b,(l.getD (ag l a).toNat bt).mode,0⟩]:=by
 simp[cL]
theorem dZ (l q:List Span) (p:Span) (a b:Int):cL l (q++[p]) a b=cond (decide (ag l a<0)) (q++[p])
  (cond (p.to_==a&&p.mode==(l.getD (ag l a).toNat bt).mode) (q++[⟨p.from_,b,p.mode,p.prio⟩]) (q++[p]++[⟨a,b,(l.getD (ag l a).toNat bt).mode,0⟩])):=by
 simp[cL]
end Go.Proofs.Ytdadgkgkdgnihaa.Px
