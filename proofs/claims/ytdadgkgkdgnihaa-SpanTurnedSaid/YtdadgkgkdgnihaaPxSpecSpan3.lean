/- Spans: rows in which one stands behind the other, and what they say of an instant. -/
import Derived.Test.YtdadgkgkdgnihaaPxSpecSpan2
set_option linter.unusedVariables false
set_option linter.unusedSimpArgs false
namespace Go.Proofs.Ytdadgkgkdgnihaa.Px
open Go
def aT:List Span→Int→Option Int
 | [],_=>none
 |s::l,t=>cond (inS s t) (some s.mode) (aT l t)
def Beh (a b:Span):Prop:=a.to_≤b.from_∧(a.to_=b.from_→a.mode≠b.mode)
structure Norm (l:List Span):Prop where
 one:∀s∈l,s.from_<s.to_∧s.prio=0
 two:l.Pairwise Beh
theorem cv {s:Span} {t:Int}:inS s t=true↔s.from_≤t∧t<s.to_:=by simp[inS]
theorem dg {s:Span} {t:Int}:inS s t=false↔¬(s.from_≤t∧t<s.to_):=by rw[←cv];simp
theorem ef {l:List Span} {t:Int} (h:∀s∈l,inS s t=false):aT l t=none:=by
 induction l with
 |nil=>rfl
 |cons s l ih=>simp only[aT,h s (by simp),B5];exact ih fun x hx=>h x (by simp[hx])
theorem rY {l:List Span} {t m:Int} (h:aT l t=some m):∃s∈l,inS s t=true∧s.mode=m:=by
 induction l with
 |nil=>cases h
 |cons s l ih=>
  unfold aT at h
  cases hs:inS s t
  ·rw[hs,B5]at h
   obtain⟨x,hx,h1,h2⟩:=ih h
   exact⟨x,by simp[hx],h1,h2⟩
  ·rw[hs,B4]at h
   exact⟨s,by simp,hs,by simpa using h⟩
theorem dW (l r:List Span) (t:Int):aT (l++r) t=(aT l t).or (aT r t):=by
 induction l with
 |nil=>simp[aT]
 |cons s l ih=>
  simp only[List.cons_append,aT,ih]
  cases inS s t<;>simp
theorem Norm.tail {s:Span} {l:List Span} (h:Norm (s::l)):Norm l:=⟨fun x hx=>h.one x (List.mem_cons_of_mem _ hx),(List.pairwise_cons.1 h.two).2⟩
theorem Norm.nil:Norm []:=⟨fun _ h=>(by cases h),List.Pairwise.nil⟩
theorem Norm.beh {s:Span} {l:List Span} (h:Norm (s::l)):∀x∈l,Beh s x:=(List.pairwise_cons.1 h.two).1
theorem Norm.uniq:∀{l r:List Span},Norm l→Norm r→(∀t,aT l t=aT r t)→l=r
 | [],[],_,_,_=>rfl
 | [],s::r,_,hr,h=>by
  have h1:=(hr.one s (by simp)).1
  have:=h s.from_
  have hi:inS s s.from_=true:=cv.2 ⟨Int.le_refl _,h1⟩
  simp[aT,hi]at this
 |s::l,[],hl,_,h=>by
  have h1:=(hl.one s (by simp)).1
  have:=h s.from_
  have hi:inS s s.from_=true:=cv.2 ⟨Int.le_refl _,h1⟩
  simp[aT,hi]at this
 |s::l,u::r,hl,hr,h=>by
  have hs:=hl.one s (by simp)
  have hu:=hr.one u (by simp)
  have early:∀{s:Span} {l:List Span},Norm (s::l)→∀t,t<s.from_→aT (s::l) t=none:=by
   intro s l hn t ht
   refine ef fun x hx=>dg.2 fun hx'=>?_
   rcases List.mem_cons.1 hx with rfl|hx
   ·omega
   ·have:=(hn.beh x hx).1
    have:=(hn.one s (by simp)).1
    omega
  have head:∀{s:Span} {l:List Span} {t:Int},s.from_≤t→t<s.to_→aT (s::l) t=some s.mode:=by
   intro s l t h1 h2
   simp[aT,cv.2 ⟨h1,h2⟩]
  have e1:s.from_=u.from_:=by
   rcases Int.lt_trichotomy s.from_ u.from_ with e|e|e
   ·have:=h s.from_
    rw[early hr _ e,head (Int.le_refl _) hs.1]at this
    cases this
   ·exact e
   ·have:=h u.from_
    rw[early hl _ e,head (Int.le_refl _) hu.1]at this
    cases this
  have e2:s.mode=u.mode:=by
   have:=h s.from_
   rw[head (Int.le_refl _) hs.1,head (by omega) (by omega)]at this
   simpa using this
  have ends:∀{s u:Span} {l r:List Span},Norm (s::l)→Norm (u::r)→s.from_=u.from_→s.mode=u.mode→(∀t,aT (s::l) t=aT (u::r) t)→¬s.to_<u.to_:=by
   intro s u l r hl hr e1 e2 h hlt
   have h1:=(hl.one s (by simp)).1
   have:=h s.to_
   rw[head (s:=u) (by omega) hlt]at this
   obtain⟨x,hx,i1,i2⟩:=rY this
   rw[cv]at i1
   rcases List.mem_cons.1 hx with rfl|hx
   ·omega
   ·obtain⟨b1,b2⟩:=hl.beh x hx
    exact b2 (by omega) (by rw[e2,i2])
  have e3:s.to_=u.to_:=by
   have a:=ends hl hr e1 e2 h
   have b:=ends hr hl e1.symm e2.symm (fun t=>(h t).symm)
   omega
  have e4:s=u:=by
   obtain⟨a,b,c,d⟩:=s
   obtain⟨a',b',c',d'⟩:=u
   simp only at*
   rw[e1,e2,e3,hs.2,hu.2]
  subst e4
  congr 1
  refine Norm.uniq hl.tail hr.tail fun t=>?_
  by_cases ht:t<s.to_
  ·rw[ef fun x hx=>dg.2 fun h=>by have:=(hl.beh x hx).1;omega,ef fun x hx=>dg.2 fun h=>by have:=(hr.beh x hx).1;omega]
  ·have:=h t
   have hi:inS s t=false:=dg.2 fun h=>by omega
   simpa[aT,hi]using this
def bH (t:Int):List Span→Option Span→Option Span
 | [],b=>b
 |s::l,b=>bH t l (cond (inS s t&&(match b with
  |none=>true
  |some x=> !dA s x)) (some s) b)
def bf (l:List Span) (t:Int):Option Int:=(bH t l none).map (·.mode)
def rA (L:List Span) (i:Int):Option Span:=cond (decide (i<0)) none (some (L.getD i.toNat bt))
theorem qG (t:Int):∀(suf pre:List Span) (best:Int),-1≤best→best<(pre.length:Int)→rA (pre++suf) (wGo (pre++suf) t suf (pre.length:Int) best)=bH t suf (rA (pre++suf) best)
 | [],pre,best,_,_=>by simp[wGo,bH]
 |s::suf,pre,best,h1,h2=>by
  unfold wGo bH
  have e:((pre.length:Nat):Int)+1=(((pre++[s]).length:Nat):Int):=by simp
  have ha:pre++s::suf=(pre++[s])++suf:=by simp
  have hm:(match rA (pre++s::suf) best with
   |none=>true
   |some x=> !dA s x)=(decide (best<0)|| !dA s ((pre++s::suf).getD best.toNat bt)):=by
   unfold rA
   cases decide (best<0)<;>simp
  rw[hm,e]
  cases (inS s t&&(decide (best<0)|| !dA s ((pre++s::suf).getD best.toNat bt)))
  ·rw[B5,B5]
   have:=qG t suf (pre++[s]) best h1 (by simp;omega)
   rw[←ha]at this
   exact this
  ·rw[B4,B4]
   have:=qG t suf (pre++[s]) ((pre.length:Nat):Int) (by omega) (by simp;omega)
   rw[←ha]at this
   rw[this]
   congr 1
   have hd:decide (((pre.length:Nat):Int)<0)=false:=by simp
   unfold rA
   rw[hd]
   simp
theorem sB (l:List Span) (t:Int):rA l (ag l t)=bH t l none:=by
 have:=qG t l [] (-1) (by omega) (by simp)
 have h2:rA l (-1)=none:=rfl
 rw[List.nil_append,h2]at this
 exact this
theorem vX (l:List Span) (t:Int):bf l t=cond (decide (ag l t<0)) none (some (l.getD (ag l t).toNat bt).mode):=by
 unfold bf
 rw[←sB]
 unfold rA
 cases decide (ag l t<0)<;>rfl
theorem kv (t:Int):∀(l r:List Span) (b:Option Span),bH t (l++r) b=bH t r (bH t l b)
 | [],r,b=>rfl
 |s::l,r,b=>kv t l r _
theorem kg {t:Int}:∀{l:List Span} (b:Option Span),(∀s∈l,inS s t=false)→bH t l b=b
 | [],_,_=>rfl
 |s::l,b,h=>by
  unfold bH
  rw[h s (by simp),Bool.false_and,B5]
  exact kg b fun x hx=>h x (by simp[hx])
theorem mA {t u:Int}:∀{l:List Span} (b:Option Span),(∀s∈l,inS s t=inS s u)→bH t l b=bH u l b
 | [],_,_=>rfl
 |s::l,b,h=>by
  unfold bH
  rw[h s (by simp)]
  exact mA _ fun x hx=>h x (by simp[hx])
theorem mC {t:Int} {m:Span}:∀{l:List Span},(∀s∈l,s.prio<m.prio)→bH t l (some m)=some m
 | [],_=>rfl
 |s::l,h=>by
  unfold bH
  have:dA s m=true:=by simp[dA,h s (by simp)]
  simp only[this,Bool.not_true,Bool.and_false,B5]
  exact mC fun x hx=>h x (by simp[hx])
theorem pB {t:Int}:∀{l:List Span} {b:Option Span} {x:Span},bH t l b=some x→b=some x∨(x∈l∧inS x t=true)
 | [],b,x,h=> .inl h
 |s::l,b,x,h=>by
  unfold bH at h
  rcases pB h with h|⟨h1,h2⟩
  ·cases hi:inS s t with
   |false=>rw[hi,Bool.false_and,B5]at h;exact .inl h
   |true=>
    rw[hi,Bool.true_and]at h
    by_cases hx:x=s
    ·subst hx;exact .inr ⟨by simp,hi⟩
    ·left
     revert h
     generalize (match b with
      |none=>true
      |some x=> !dA s x)=c
     cases c
     ·exact fun h=>h
     ·intro h
      simp only[B4,B0]at h
      exact absurd h.symm hx
  ·exact .inr ⟨by simp[h1],h2⟩
theorem Norm.apart {l:List Span} (h:Norm l):l.Pairwise fun a b=>a.to_≤b.from_:=h.two.imp fun h=>h.1
theorem sk:∀(l:List Int) (p:Int),l.Pairwise (· ≤ ·)→(∀y∈l,p≤y)→(∀x,x∈bl (some p) l↔x∈l∧x≠p)∧(bl (some p) l).Pairwise (· < ·)∧∀x∈bl (some p) l,p<x
 | [],p,_,_=>by simp[bl]
 |x::l,p,h1,h2=>by
  rw[List.pairwise_cons]at h1
  obtain⟨a,b,c⟩:=sk l x h1.2 h1.1
  have hpx:=h2 x (by simp)
  unfold bl
  by_cases e:x=p
  ·subst e
   simp only[beq_self_eq_true,B4]
   refine⟨fun z=>?_,b,c⟩
   rw[a,List.mem_cons]
   constructor
   ·rintro ⟨h,h'⟩;exact⟨.inr h,h'⟩
   ·rintro ⟨h|h,h'⟩
    ·exact absurd h h'
    ·exact⟨h,h'⟩
  ·have:(x==p)=false:=by simpa using e
   rw[this,B5]
   refine⟨fun z=>?_,List.pairwise_cons.2 ⟨c,b⟩,fun z hz=>?_⟩
   ·rw[List.mem_cons,List.mem_cons,a]
    constructor
    ·rintro (rfl|⟨h,h'⟩)
     ·exact⟨.inl rfl,e⟩
     ·have:=h1.1 z h
      exact⟨.inr h,by omega⟩
    ·rintro ⟨rfl|h,h'⟩
     ·exact .inl rfl
     ·by_cases hz:z=x
      ·exact .inl hz
      ·exact .inr ⟨h,hz⟩
   ·rcases List.mem_cons.1 hz with rfl|hz
    ·omega
    ·have:=c z hz
     omega
theorem ri (l:List Span):(∀x,x∈eE l↔x∈ax l)∧(eE l).Pairwise (· < ·):=by
 have hs:=gN (ax l)
 have hm:∀x,x∈bn (ax l)↔x∈ax l:=fun x=>(eT _).mem_iff
 unfold eE cH
 cases h:bn (ax l)with
 |nil=>
  rw[h]at hm
  exact⟨fun x=>by rw[←hm];simp[bl],List.Pairwise.nil⟩
 |cons y r=>
  rw[h]at hs hm
  rw[List.pairwise_cons]at hs
  obtain⟨a,b,c⟩:=sk r y hs.2 hs.1
  refine⟨fun x=>?_,List.pairwise_cons.2 ⟨c,b⟩⟩
  rw[←hm]
  show x∈y::bl (some y) r↔_
  rw[List.mem_cons,List.mem_cons,a]
  constructor
  ·rintro (h|⟨h,_⟩)
   ·exact .inl h
   ·exact .inr h
  ·rintro (h|h)
   ·exact .inl h
   ·by_cases e:x=y
    ·exact .inl e
    ·exact .inr ⟨h,e⟩
theorem kQ {l:List Span} {e:Int}:e∈ax l↔∃s∈l,e=s.from_∨e=s.to_:=by
 induction l with
 |nil=>simp[ax]
 |cons s l ih=>
  simp only[ax,List.mem_cons,ih]
  constructor
  ·rintro (h|h|⟨x,hx,h⟩)
   ·exact⟨s, .inl rfl, .inl h⟩
   ·exact⟨s, .inl rfl, .inr h⟩
   ·exact⟨x, .inr hx,h⟩
  ·rintro ⟨x,rfl|hx,h⟩
   ·rcases h with h|h
    ·exact .inl h
    ·exact .inr (.inl h)
   ·exact .inr (.inr ⟨x,hx,h⟩)
theorem yE {l:List Span} {a t:Int} (h:∀e∈ax l,¬(a<e∧e≤t)) (hat:a≤t):∀s∈l,inS s t=inS s a:=by
 intro s hs
 have h1:=h s.from_ (kQ.2 ⟨s,hs, .inl rfl⟩)
 have h2:=h s.to_ (kQ.2 ⟨s,hs, .inr rfl⟩)
 rw[Bool.eq_iff_iff,cv,cv]
 omega
theorem q9 {l:List Span} {a t:Int} (h:∀e∈ax l,¬(a<e∧e≤t)) (hat:a≤t):bf l t=bf l a:=by
 unfold bf
 rw[mA none (yE h hat)]
structure mr (l out:List Span) (a:Int):Prop where
 norm:Norm out
 le:∀s∈out,s.to_≤a
 sJ:∀t,t<a→aT out t=bf l t
theorem gQ (s:Span) (t:Int):aT [s] t=cond (inS s t) (some s.mode) none:=rfl
theorem mr.next {l out:List Span} {a b:Int} (h:mr l out a) (hab:a<b) (hb:∀e∈ax l,a<e→b≤e):mr l (cL l out a b) b:=by
 have same:∀t,a≤t→t<b→bf l t=bf l a:=fun t h1 h2=>q9 (fun e he hh=>by have:=hb e he hh.1;omega) h1
 have none':∀t,a≤t→aT out t=none:=fun t ht=>ef fun s hs=>dg.2 fun hh=>by have:=h.le s hs;omega
 have hw:=vX l a
 cases hd:decide (ag l a<0)with
 |true=>
  rw[hd,B4]at hw
  have e:cL l out a b=out:=by unfold cL;rw[hd];rfl
  rw[e]
  refine⟨h.norm,fun s hs=>by have:=h.le s hs;omega,fun t ht=>?_⟩
  by_cases hta:t<a
  ·exact h.sJ t hta
  ·rw[none' t (by omega),same t (by omega) ht,hw]
 |false=>
  rw[hd,B5]at hw
  generalize hm:(l.getD (ag l a).toNat bt).mode=m at hw
  have app:(∀s∈out,s.to_=a→s.mode≠m)→mr l (out++[⟨a,b,m,0⟩]) b:=by
   intro hno
   refine⟨⟨fun s hs=>?_,?_⟩,fun s hs=>?_,fun t ht=>?_⟩
   ·rcases List.mem_append.1 hs with hs|hs
    ·exact h.norm.one s hs
    ·rw[List.mem_singleton]at hs
     subst hs
     exact⟨hab,rfl⟩
   ·rw[List.pairwise_append]
    refine⟨h.norm.two,List.pairwise_singleton _ _,fun x hx y hy=>?_⟩
    rw[List.mem_singleton]at hy
    subst hy
    exact⟨h.le x hx,fun e=>hno x hx e⟩
   ·rcases List.mem_append.1 hs with hs|hs
    ·have:=h.le s hs;omega
    ·rw[List.mem_singleton]at hs
     subst hs
     exact Int.le_refl _
   ·rw[dW,gQ]
    by_cases hta:t<a
    ·have:inS ⟨a,b,m,0⟩ t=false:=dg.2 fun hh=>by simp only at hh;omega
     rw[this,B5,h.sJ t hta]
     cases bf l t<;>rfl
    ·have:inS ⟨a,b,m,0⟩ t=true:=cv.2 ⟨by simp only;omega,ht⟩
     rw[this,B4,none' t (by omega),same t (by omega) ht,hw]
     rfl
  rcases ee out with rfl|⟨q,p,rfl⟩
  ·rw[fj,hd,B5,hm]
   exact app (fun s hs=>by cases hs)
  ·rw[dZ,hd,B5,hm]
   have hp:=h.norm.one p (by simp)
   have hpa:=h.le p (by simp)
   have hq:=List.pairwise_append.1 h.norm.two
   cases hc:(p.to_==a&&p.mode==m)with
   |true=>
    simp only[B1,beq_iff_eq]at hc
    rw[B4]
    refine⟨⟨fun s hs=>?_,?_⟩,fun s hs=>?_,fun t ht=>?_⟩
    ·rcases List.mem_append.1 hs with hs|hs
     ·exact h.norm.one s (by simp[hs])
     ·rw[List.mem_singleton]at hs
      subst hs
      exact⟨by simp only;omega,hp.2⟩
    ·rw[List.pairwise_append]
     refine⟨hq.1,List.pairwise_singleton _ _,fun x hx y hy=>?_⟩
     rw[List.mem_singleton]at hy
     subst hy
     exact hq.2.2 x hx p (by simp)
    ·rcases List.mem_append.1 hs with hs|hs
     ·have:=h.le s (by simp[hs]);omega
     ·rw[List.mem_singleton]at hs
      subst hs
      exact Int.le_refl _
    ·rw[dW,gQ]
     by_cases hta:t<a
     ·have h1:=h.sJ t hta
      rw[dW,gQ]at h1
      rw[←h1]
      have:inS ⟨p.from_,b,p.mode,p.prio⟩ t=inS p t:=by
       rw[Bool.eq_iff_iff,cv,cv]
       simp only
       omega
      rw[this]
     ·have:inS ⟨p.from_,b,p.mode,p.prio⟩ t=true:=cv.2 ⟨by simp only;omega,ht⟩
      have hn:=none' t (by omega)
      rw[dW]at hn
      have hn1:aT q t=none:=by
       cases hh:aT q t with
       |none=>rfl
       |some x=>rw[hh]at hn;simp at hn
      rw[this,hn1,B4,same t (by omega) ht,hw,hc.2]
      rfl
   |false=>
    rw[B5]
    refine app (fun s hs e=>?_)
    rcases List.mem_append.1 hs with hs|hs
    ·have:=(hq.2.2 s hs p (by simp)).1
     omega
    ·rw[List.mem_singleton]at hs
     subst hs
     intro e2
     simp[e,e2]at hc
theorem lf {l:List Span} {t:Int} (h:∀s∈l,inS s t=false):bf l t=none:=by
 unfold bf
 rw[kg none h]
 rfl
theorem mr.all {l:List Span}:∀(rest:List Int) (a:Int) (out:List Span),(a::rest).Pairwise (· < ·)→(∀e∈ax l,a<e→e∈rest)→mr l out a→Norm (c8 l (a::rest) out)∧∀t,aT (c8 l (a::rest) out) t=bf l t
 | [],a,out,_,hm,h=>by
  refine⟨h.norm,fun t=>?_⟩
  by_cases ht:t<a
  ·exact h.sJ t ht
  ·show aT out t=_
   rw[ef fun s hs=>dg.2 fun hh=>by have:=h.le s hs;omega,lf]
   intro s hs
   refine dg.2 fun hh=>?_
   have:=hm s.to_ (kQ.2 ⟨s,hs, .inr rfl⟩) (by omega)
   cases this
 |b::rest,a,out,hp,hm,h=>by
  rw[List.pairwise_cons]at hp
  have hab:=hp.1 b (by simp)
  have hp2:=List.pairwise_cons.1 hp.2
  refine mr.all rest b (cL l out a b) hp.2 (fun e he hbe=>?_) (h.next hab fun e he hae=>?_)
  ·have:=hm e he (by omega)
   rcases List.mem_cons.1 this with rfl|h
   ·omega
   ·exact h
  ·have:=hm e he hae
   rcases List.mem_cons.1 this with rfl|h
   ·exact Int.le_refl _
   ·have:=hp2.1 e h;omega
theorem cQ (l:List Span):Norm (aU l)∧∀t,aT (aU l) t=bf l t:=by
 obtain⟨hm,hp⟩:=ri l
 unfold aU
 cases h:eE l with
 |nil=>
  rw[h]at hm
  have:l=[]:=by
   cases l with
   |nil=>rfl
   |cons s l=>
    have:=(hm s.from_).2 (by simp[ax])
    cases this
  subst this
  exact⟨Norm.nil,fun t=>rfl⟩
 |cons a rest=>
  rw[h]at hm hp
  refine mr.all rest a [] hp (fun e he hae=>?_) ⟨Norm.nil,(fun s hs=>by cases hs),fun t ht=>?_⟩
  ·have:=(hm e).2 he
   rcases List.mem_cons.1 this with rfl|h
   ·omega
   ·exact h
  ·rw[lf]
   ·rfl
   ·intro s hs
    refine dg.2 fun hh=>?_
    have:=(hm s.from_).2 (kQ.2 ⟨s,hs, .inl rfl⟩)
    rcases List.mem_cons.1 this with e|h
    ·omega
    ·have:=(List.pairwise_cons.1 hp).1 _ h
     omega
end Go.Proofs.Ytdadgkgkdgnihaa.Px
