/- Spans: cutting, putting together, and one that is weightier than all. -/
import Derived.Test.YtdadgkgkdgnihaaPxSpecSpan3
set_option linter.unusedVariables false
set_option linter.unusedSimpArgs false
namespace Go.Proofs.Ytdadgkgkdgnihaa.Px
open Go
theorem Norm.may {l:List Span} (h:Norm l) (hl:l.length≤500):kK l=true:=by
 unfold kK
 simp only[B1,List.all_eq_true,B3]
 refine⟨fun s hs=>?_,hl⟩
 have:=(h.one s hs).1
 simp[dF]
 omega
theorem ya {l:List Span} (h:(aM l).2=0):kK l=true∧aM l=(aU l,0):=by
 unfold aM at*
 cases hm:kK l
 ·rw[hm]at h;cases h
 ·exact⟨rfl,rfl⟩
theorem gv (s:Span) (a b:Int):(bO s a b).from_=max s.from_ a:=by
 unfold bO
 by_cases h:a>s.from_
 ·simp only[h,decide_true,B4];omega
 ·simp only[h,decide_false,B5];omega
theorem lK (s:Span) (a b:Int):(bO s a b).to_=min s.to_ b:=by
 unfold bO
 by_cases h:b<s.to_
 ·simp only[h,decide_true,B4];omega
 ·simp only[h,decide_false,B5];omega
theorem rV {l:List Span} {a b:Int} {x:Span} (h:x∈bP l a b):∃s∈l,x=bO s a b∧x.from_<x.to_:=by
 induction l with
 |nil=>cases h
 |cons s l ih=>
  unfold bP at h
  by_cases hc:(bO s a b).from_<(bO s a b).to_
  ·simp only[hc,decide_true,B4,List.mem_cons]at h
   rcases h with rfl|h
   ·exact⟨s,by simp,rfl,hc⟩
   ·obtain⟨u,hu,h2⟩:=ih h
    exact⟨u,by simp[hu],h2⟩
  ·simp only[hc,decide_false,B5]at h
   obtain⟨u,hu,h2⟩:=ih h
   exact⟨u,by simp[hu],h2⟩
theorem Norm.cut {l:List Span} (h:Norm l) (a b:Int):Norm (bP l a b):=by
 refine⟨fun x hx=>?_,?_⟩
 ·obtain⟨s,hs,rfl,h2⟩:=rV hx
  exact⟨h2,(h.one s hs).2⟩
 ·induction l with
  |nil=>exact List.Pairwise.nil
  |cons s l ih=>
   unfold bP
   by_cases hc:(bO s a b).from_<(bO s a b).to_
   ·simp only[hc,decide_true,B4,List.pairwise_cons]
    refine⟨fun x hx=>?_,ih h.tail⟩
    obtain⟨u,hu,rfl,h2⟩:=rV hx
    obtain⟨b1,b2⟩:=h.beh u hu
    rw[gv,lK]at*
    refine⟨by rw[lK,gv];omega,fun e=>?_⟩
    rw[lK,gv]at e
    exact b2 (by omega)
   ·simp only[hc,decide_false,B5]
    exact ih h.tail
theorem kh (l:List Span) (a b t:Int):aT (bP l a b) t=cond (decide (a≤t)&&decide (t<b)) (aT l t) none:=by
 induction l with
 |nil=>cases (decide (a≤t)&&decide (t<b))<;>rfl
 |cons s l ih=>
  have hi:inS (bO s a b) t=(inS s t&&(decide (a≤t)&&decide (t<b))):=by
   rw[Bool.eq_iff_iff,cv,gv,lK]
   simp only[B1,cv,B3]
   omega
  unfold bP
  by_cases hc:(bO s a b).from_<(bO s a b).to_
  ·simp only[hc,decide_true,B4,aT,hi,ih]
   cases inS s t<;>cases (decide (a≤t)&&decide (t<b))<;>rfl
  ·simp only[hc,decide_false,B5,ih,aT]
   have:(inS s t&&(decide (a≤t)&&decide (t<b)))=false:=by
    rw[←hi,dg]
    omega
   cases h1:inS s t<;>cases h2:(decide (a≤t)&&decide (t<b))<;>simp[h1,h2]at this⊢
theorem all_append {l r:List Span} (h1:l.all (fun s=> !dF s)=true) (h2:r.all (fun s=> !dF s)=true):(l++r).all (fun s=> !dF s)=true:=by
 rw[List.all_append,h1,h2];rfl
theorem Norm.all {l:List Span} (h:Norm l):l.all (fun s=> !dF s)=true:=by
 rw[List.all_eq_true]
 intro s hs
 have:=(h.one s hs).1
 simp[dF]
 omega
theorem gG {l:List Span} {m:Span} (h:∀s∈l,s.prio<m.prio) (t:Int):bf (l++[m]) t=cond (inS m t) (some m.mode) (bf l t):=by
 unfold bf
 rw[kv]
 cases hm:inS m t
 ·rw[kg]
  ·rfl
  ·intro s hs
   rw[List.mem_singleton]at hs
   rw[hs,hm]
 ·have:bH t [m] (bH t l none)=some m:=by
   cases hb:bH t l none with
   |none=>simp[bH,hm]
   |some x=>
    have hx:x.prio<m.prio:=by
     rcases pB hb with e|⟨e,_⟩
     ·cases e
     ·exact h x e
    have hl:dA m x=false:=by simp[dA];omega
    simp[bH,hm,hl]
  rw[this]
  rfl
theorem po {l:List Span} {m:Span} (h:∀s∈l,s.prio<m.prio) (t:Int):bf (m::l) t=cond (inS m t) (some m.mode) (bf l t):=by
 unfold bf
 have e:bH t (m::l) none=bH t l (cond (inS m t) (some m) none):=by
  conv=>lhs;unfold bH
  cases inS m t<;>rfl
 rw[e]
 cases inS m t
 ·rfl
 ·rw[B4,mC h]
  rfl
theorem se {l:List Span} {m:Span} (h:∀s∈l,s.prio<m.prio):aU (l++[m])=aU (m::l):=by
 obtain⟨a1,a2⟩:=cQ (l++[m])
 obtain⟨b1,b2⟩:=cQ (m::l)
 exact a1.uniq b1 fun t=>by rw[a2,b2,gG h,po h]
theorem tD {l:List Span} {m:Span} (h:∀s∈l,s.prio<m.prio) (hm:m.from_<m.to_):bP (aU (l++[m])) m.from_ m.to_=[⟨m.from_,m.to_,m.mode,0⟩]:=by
 obtain⟨a1,a2⟩:=cQ (l++[m])
 refine(a1.cut _ _).uniq ⟨fun s hs=>?_,List.pairwise_singleton _ _⟩ fun t=>?_
 ·rw[List.mem_singleton]at hs
  subst hs
  exact⟨hm,rfl⟩
 ·rw[kh,a2,gG h,gQ]
  show cond (inS m t) _ _=cond (inS m t) _ _
  cases hi:inS m t<;>rfl
theorem qe {l:List Span} {m:Span} (h:∀s∈l,s.prio<m.prio) (a:Int):bP (aU (l++[m])) a m.from_=bP (aU l) a m.from_:=by
 obtain⟨a1,a2⟩:=cQ (l++[m])
 obtain⟨b1,b2⟩:=cQ l
 refine(a1.cut _ _).uniq (b1.cut _ _) fun t=>?_
 rw[kh,kh,a2,b2,gG h]
 by_cases e:t<m.from_
 ·have:inS m t=false:=dg.2 fun hh=>by omega
  rw[this,B5]
 ·simp[e]
theorem Norm.sJ {l:List Span} (h:Norm l):aO l=l:=by
 unfold aO
 conv=>rhs;rw[←List.map_id l]
 refine List.map_congr_left fun s hs=>?_
 have:=(h.one s hs).2
 obtain⟨a,b,c,d⟩:=s
 simp only at this
 subst this
 rfl
end Go.Proofs.Ytdadgkgkdgnihaa.Px
