/- Frames: what is read from a slot, what is put into one, guards. -/
import Derived.Test.YtfhepbbkggdlcaaGreatDoorPxRel
set_option linter.unusedVariables false
set_option linter.unusedSimpArgs false
namespace Go.Proofs.YtfhepbbkggdlcaaGreatDoor.Px
open Go Go.RowKit
theorem Ju {p b:Bool}:TL p b=true↔b=p:=by cases p<;>cases b<;>simp[TL]
theorem fm {tm:List Slot} {cs:List (Nat×Bool)}:aD tm cs=true↔∀c∈cs,∃ds,cG tm c.1=some (ds,c.2):=by
 induction cs with
 |nil=>simp[aD]
 |cons c l ih=>
  have h1:aD tm (c::l)=true↔(∃ds,cG tm c.1=some (ds,c.2))∧aD tm l=true:=by
   cases l with
   |nil=>
    simp only[aD]
    cases h:cG tm c.1 with
    |none=>simp
    |some p=>obtain⟨ds,b⟩:=p;simp[Ju]
   |cons d l=>
    simp only[aD]
    cases h:cG tm c.1 with
    |none=>simp
    |some p=>obtain⟨ds,b⟩:=p;simp[Ju]
  rw[h1,ih]
  simp
theorem Hc {tm:List Slot} {cs ds:List (Nat×Bool)}:aD tm (cs++ds)=true↔aD tm cs=true∧aD tm ds=true:=by
 simp only[fm,List.mem_append]
 exact⟨fun h=>⟨fun c hc=>h c (.inl hc),fun c hc=>h c (.inr hc)⟩,fun h c hc=>hc.elim (h.1 c) (h.2 c)⟩
theorem Is {cs:List (Nat×Bool)} {c:Nat×Bool} (h:eg cs c=true):c∈cs:=by
 simp only[eg,List.any_eq_true,XR]at h
 obtain⟨d,hd,h1,h2⟩:=h
 have e1:d.1=c.1:=XS h1
 have e2:d.2=c.2:=by cases hc:c.2<;>cases hd2:d.2<;>simp[hc,hd2]at h2⊢
 have:d=c:=by cases d;cases c;simp at e1 e2;simp[e1,e2]
 exact this▸hd
theorem pU {tm:List Slot} {cs ds:List (Nat×Bool)} (h:aD tm cs=true) (hc:ds.all (eg cs)=true):aD tm ds=true:=by
 rw[fm]at h⊢
 rw[List.all_eq_true]at hc
 exact fun c hd=>h c (Is (hc c hd))
theorem Ja {ρ:List Loc} {tm:List Slot} {cs:List (Nat×Bool)} {s:Slot} {v:AV} {x:Value} (hs:pN ρ tm s x) (hc:aD tm cs=true) (h:sW cs s=some v):aA ρ v=some x:=by
 cases s with
 |any=>simp[sW]at h
 |is u=>simp only[sW,XQ]at h;subst h;exact hs
 |opt ds u=>
  simp only[sW]at h
  cases hd:ds.all (eg cs)with
  |false=>rw[hd]at h;simp at h
  |true=>
   rw[hd]at h
   simp only[XU,XQ]at h
   subst h
   exact hs.1 (pU hc hd)
theorem G2 {ρ:List Loc} {v:Value} {u:AV} (h:ofConst v=some u):aA ρ u=some v:=by
 cases v<;>simp[ofConst]at h<;>subst h<;>simp[aA,Value.oneCell']
theorem aC {ρ:List Loc} {tm:List Slot} {a:Act} {cs:List (Nat×Bool)} {x:Operand} {v:AV} (hf:FR ρ tm a) (hc:aD tm cs=true) (h:rd tm cs x=some v):
  aA ρ v=some (a.eval x):=by
 cases x with
 |tmp t=>
  simp only[rd,aG]at h
  cases ht:tm[t]? with
  |none=>rw[ht]at h;cases h
  |some s=>
   rw[ht]at h
   exact Ja (hf.at_ t s ht) hc h
 |const u=>exact G2 h
 |func f=>
  simp only[rd,XQ]at h
  subst h
  rfl
 |global g=>
  simp only[rd,XQ]at h
  subst h
  rfl
theorem sM {ρ:List Loc} {tm:List Slot} {a:Act} {t:Nat} {ds:List (Nat×Bool)} {b:Bool} (hf:FR ρ tm a) (h:cG tm t=some (ds,b)):
  t<a.tmps.size∧(aD tm ds=true→a.tmps.getD t undef= .bool b)∧(aD tm ds=false→a.tmps.getD t undef=undef):=by
 simp only[cG,aG]at h
 cases ht:tm[t]? with
 |none=>rw[ht]at h;cases h
 |some s=>
  rw[ht]at h
  have hl:t<a.tmps.size:=by rw[hf.size];exact(List.getElem?_eq_some_iff.1 ht).1
  have hs:=hf.at_ t s ht
  refine⟨hl,?_⟩
  cases s with
  |any=>cases h
  |is u=>
   cases u<;>simp only[XQ,Prod.mk.injEq,reduceCtorEq]at h
   obtain⟨rfl,rfl⟩:=h
   refine⟨fun _=>?_,fun hh=>by simp[aD]at hh⟩
   simpa[pN,aA,eq_comm]using hs
  |opt cs u=>
   cases u<;>simp only[XQ,Prod.mk.injEq,reduceCtorEq]at h
   obtain⟨rfl,rfl⟩:=h
   exact⟨fun hh=>by simpa[aA,eq_comm]using hs.1 hh,fun hh=>hs.2 hh⟩
theorem Cu {tm:List Slot} {d t:Nat} {s:Slot} (h:d≠t):cG (tm.set d s) t=cG tm t:=by
 simp only[cG,aG,List.getElem?_set_ne h]
theorem FE {tm:List Slot} {d:Nat} {s:Slot} {cs:List (Nat×Bool)} (h:∀c∈cs,d≠c.1):aD (tm.set d s) cs=aD tm cs:=by
 rw[Bool.eq_iff_iff,fm,fm]
 constructor
 ·intro hh c hc;obtain⟨ds,e⟩:=hh c hc;rw[Cu (h c hc)]at e;exact⟨ds,e⟩
 ·intro hh c hc;obtain⟨ds,e⟩:=hh c hc;exact⟨ds,by rw[Cu (h c hc)];exact e⟩
theorem DA {d:Nat}:∀{tm:List Slot},eC d tm=true→∀(i:Nat) (cs:List (Nat×Bool)) (v:AV),tm[i]?=some (.opt cs v)→∀c∈cs,d≠c.1
 | [],_,i,cs,v,hi=>by simp at hi
 |s::l,h,i,cs,v,hi=>by
  cases i with
  |zero=>
   simp only[List.getElem?_cons_zero,XQ]at hi
   subst hi
   simp only[eC,XR,List.all_eq_true]at h
   intro c hc e
   have:=h.1 c hc
   rw[←e]at this
   simp at this
  |succ i=>
   have hl:eC d l=true:=by
    cases s<;>simp only[eC,XR]at h
    ·exact h
    ·exact h
    ·exact h.2
   exact DA hl i cs v (by simpa using hi)
theorem kj {d:Nat} {tm:List Slot} (h:aw tm):∀(i:Nat) (cs:List (Nat×Bool)) (v:AV),tm[i]?=some (.opt cs v)→∀c∈cs,d≠c.1:=
 fun i cs v hi=>by have:=h i _ hi;simp[Slot.ob]at this
theorem FR.put {ρ:List Loc} {tm:List Slot} {a:Act} {d:Nat} {s:Slot} {x:Value} (hf:FR ρ tm a)
  (hu:∀(i:Nat) (cs:List (Nat×Bool)) (v:AV),tm[i]?=some (.opt cs v)→∀c∈cs,d≠c.1) (hs:pN ρ (tm.set d s) s x):FR ρ (tm.set d s) (a.put (some d) x):=by
 refine⟨by simp[Act.put,hf.size],fun i t hi=>?_,hf.defers⟩
 by_cases hdi:d=i
 ·subst hdi
  have hlt:d<tm.length:=by
   have:=(List.getElem?_eq_some_iff.1 hi).1;simpa using this
  rw[List.getElem?_set_self hlt]at hi
  simp only[XQ]at hi
  subst hi
  have:(a.put (some d) x).tmps.getD d undef=x:=by
   simp only[Act.put]
   rw[Array.getD_eq_getD_getElem?,Array.getElem?_setIfInBounds_self_of_lt (by rw[hf.size];exact hlt)]
   rfl
  rw[this]
  exact hs
 ·rw[List.getElem?_set_ne hdi]at hi
  have h0:=hf.at_ i t hi
  have:(a.put (some d) x).tmps.getD i undef=a.tmps.getD i undef:=by
   simp only[Act.put]
   rw[Array.getD_eq_getD_getElem?,Array.getD_eq_getD_getElem?,Array.getElem?_setIfInBounds_ne hdi]
  rw[this]
  cases t with
  |any=>trivial
  |is v=>exact h0
  |opt cs v=>
   have:=FE (tm:=tm) (s:=s) (hu i cs v hi)
   exact⟨fun hh=>h0.1 (this▸hh),fun hh=>h0.2 (this▸hh)⟩
theorem wD:∀(tm:List Slot) (i:Nat),(ec tm)[i]?=(tm[i]?).map fun s=>match s with| .opt _ _=> .any|x=>x
 | [],i=>by simp[ec]
 |s::l,i=>by
  cases i with
  |zero=>cases s<;>simp[ec]
  |succ i=>cases s<;>simp[ec,wD l i]
theorem vu:∀(tm:List Slot),(ec tm).length=tm.length
 | []=>rfl
 |s::l=>by cases s<;>simp[ec,vu l]
theorem fN (tm:List Slot):aw (ec tm):=by
 intro i s hi
 rw[wD]at hi
 cases ht:tm[i]? with
 |none=>rw[ht]at hi;cases hi
 |some t=>
  rw[ht]at hi
  cases t<;>simp only[Option.map_some,XQ]at hi<;>subst hi<;>rfl
theorem FR.clear {ρ:List Loc} {tm:List Slot} {a:Act} (hf:FR ρ tm a):FR ρ (ec tm) a:=by
 refine⟨by rw[vu];exact hf.size,fun i s hi=>?_,hf.defers⟩
 rw[wD]at hi
 cases ht:tm[i]? with
 |none=>rw[ht]at hi;cases hi
 |some t=>
  rw[ht]at hi
  have h0:=hf.at_ i t ht
  cases t with
  |any=>simp only[Option.map_some,XQ]at hi;subst hi;trivial
  |is v=>simp only[Option.map_some,XQ]at hi;subst hi;exact h0
  |opt cs v=>simp only[Option.map_some,XQ]at hi;subst hi;trivial
theorem mm {tm:List Slot} {d:Nat} {s:Slot} (h:aw tm) (hs:s.ob=false):aw (tm.set d s):=by
 intro i t hi
 by_cases e:d=i
 ·subst e
  have hlt:d<tm.length:=by have:=(List.getElem?_eq_some_iff.1 hi).1;simpa using this
  rw[List.getElem?_set_self hlt]at hi
  simp only[XQ]at hi
  exact hi▸hs
 ·rw[List.getElem?_set_ne e]at hi
  exact h i t hi
def clr (l:Loc):Loc:={l with mark:=false}
mutual
theorem yy {ρ:List Loc}:∀(v:AV),aA (ρ.map clr) v=aA ρ v
 | .int _ _| .bool _| .str _| .val _=>rfl
 | .ptr k o=>by simp only[aA,List.getElem?_map];cases ρ[k]?<;>rfl
 | .pel k i w o=>by simp only[aA,List.getElem?_map];cases ρ[k]?<;>rfl
 | .sl k i w n m=>by simp only[aA,List.getElem?_map];cases ρ[k]?<;>rfl
 | .yld k=>by simp only[aA,List.getElem?_map];cases ρ[k]?<;>rfl
 | .mp k=>by simp only[aA,List.getElem?_map];cases ρ[k]?<;>rfl
 | .cut k i w lo n=>by simp only[aA,List.getElem?_map];cases ρ[k]?<;>rfl
 | .fn f a c=>by simp only[aA,lz a,lz c]
 | .agg cs=>by simp only[aA,lz cs]
 | .tup cs=>by simp only[aA,lz cs]
 | .ifc t v=>by simp only[aA,yy v]
theorem lz {ρ:List Loc}:∀(l:List AV),au (ρ.map clr) l=au ρ l
 | []=>rfl
 |v::l=>by simp only[au,yy v,lz l]
end
theorem Pp {ρ:List Loc} {tm:List Slot} {a:Act} (h:FR ρ tm a):FR (ρ.map clr) tm {tmps:=a.tmps,defers:=[]}:=by
 refine⟨h.size,fun i s hi=>?_, .inl rfl⟩
 have:=h.at_ i s hi
 cases s with
 |any=>trivial
 |is v=>exact(yy v).trans this
 |opt cs v=>exact⟨fun e=>(yy v).trans (this.1 e),this.2⟩
end Go.Proofs.YtfhepbbkggdlcaaGreatDoor.Px
