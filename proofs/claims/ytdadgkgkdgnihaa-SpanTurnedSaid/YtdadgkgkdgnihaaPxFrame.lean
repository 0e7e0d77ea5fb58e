/- Frames: what is read from a slot, what is put into one, guards. -/
import Derived.Test.YtdadgkgkdgnihaaPxRel
set_option linter.unusedVariables false
set_option linter.unusedSimpArgs false
namespace Go.Proofs.Ytdadgkgkdgnihaa.Px
open Go Go.RowKit
theorem rG {p b:Bool}:yP p b=true↔b=p:=by cases p<;>cases b<;>simp[yP]
theorem cy {tm:List Slot} {cs:List (Nat×Bool)}:ai tm cs=true↔∀c∈cs,∃ds,a8 tm c.1=some (ds,c.2):=by
 induction cs with
 |nil=>simp[ai]
 |cons c l ih=>
  have h1:ai tm (c::l)=true↔(∃ds,a8 tm c.1=some (ds,c.2))∧ai tm l=true:=by
   cases l with
   |nil=>
    simp only[ai]
    cases h:a8 tm c.1 with
    |none=>simp
    |some p=>obtain⟨ds,b⟩:=p;simp[rG]
   |cons d l=>
    simp only[ai]
    cases h:a8 tm c.1 with
    |none=>simp
    |some p=>obtain⟨ds,b⟩:=p;simp[rG]
  rw[h1,ih]
  simp
theorem qv {tm:List Slot} {cs ds:List (Nat×Bool)}:ai tm (cs++ds)=true↔ai tm cs=true∧ai tm ds=true:=by
 simp only[cy,List.mem_append]
 exact⟨fun h=>⟨fun c hc=>h c (.inl hc),fun c hc=>h c (.inr hc)⟩,fun h c hc=>hc.elim (h.1 c) (h.2 c)⟩
theorem su {cs:List (Nat×Bool)} {c:Nat×Bool} (h:bW cs c=true):c∈cs:=by
 simp only[bW,List.any_eq_true,B1]at h
 obtain⟨d,hd,h1,h2⟩:=h
 have e1:d.1=c.1:=B2 h1
 have e2:d.2=c.2:=by cases hc:c.2<;>cases hd2:d.2<;>simp[hc,hd2]at h2⊢
 have:d=c:=by cases d;cases c;simp at e1 e2;simp[e1,e2]
 exact this▸hd
theorem gH {tm:List Slot} {cs ds:List (Nat×Bool)} (h:ai tm cs=true) (hc:ds.all (bW cs)=true):ai tm ds=true:=by
 rw[cy]at h⊢
 rw[List.all_eq_true]at hc
 exact fun c hd=>h c (su (hc c hd))
theorem sr {ρ:List Loc} {tm:List Slot} {cs:List (Nat×Bool)} {s:Slot} {v:AV} {x:Value} (hs:fN ρ tm s x) (hc:ai tm cs=true) (h:iu cs s=some v):ah ρ v=some x:=by
 cases s with
 |any=>simp[iu]at h
 |is u=>simp only[iu,B0]at h;subst h;exact hs
 |opt ds u=>
  simp only[iu]at h
  cases hd:ds.all (bW cs)with
  |false=>rw[hd]at h;simp at h
  |true=>
   rw[hd]at h
   simp only[B4,B0]at h
   subst h
   exact hs.1 (gH hc hd)
theorem qP {ρ:List Loc} {v:Value} {u:AV} (h:ofConst v=some u):ah ρ u=some v:=by
 cases v<;>simp[ofConst]at h<;>subst h<;>simp[ah,Value.oneCell']
theorem aj {ρ:List Loc} {tm:List Slot} {a:Act} {cs:List (Nat×Bool)} {x:Operand} {v:AV} (hf:FR ρ tm a) (hc:ai tm cs=true) (h:rd tm cs x=some v):
  ah ρ v=some (a.eval x):=by
 cases x with
 |tmp t=>
  simp only[rd,ak]at h
  cases ht:tm[t]? with
  |none=>rw[ht]at h;cases h
  |some s=>
   rw[ht]at h
   exact sr (hf.at_ t s ht) hc h
 |const u=>exact qP h
 |func f=>
  simp only[rd,B0]at h
  subst h
  rfl
 |global g=>
  simp only[rd,B0]at h
  subst h
  rfl
theorem iz {ρ:List Loc} {tm:List Slot} {a:Act} {t:Nat} {ds:List (Nat×Bool)} {b:Bool} (hf:FR ρ tm a) (h:a8 tm t=some (ds,b)):
  t<a.tmps.size∧(ai tm ds=true→a.tmps.getD t undef= .bool b)∧(ai tm ds=false→a.tmps.getD t undef=undef):=by
 simp only[a8,ak]at h
 cases ht:tm[t]? with
 |none=>rw[ht]at h;cases h
 |some s=>
  rw[ht]at h
  have hl:t<a.tmps.size:=by rw[hf.size];exact(List.getElem?_eq_some_iff.1 ht).1
  have hs:=hf.at_ t s ht
  refine⟨hl,?_⟩
  cases s with
  |any=>cases h
  |is u=>
   cases u<;>simp only[B0,Prod.mk.injEq,reduceCtorEq]at h
   obtain⟨rfl,rfl⟩:=h
   refine⟨fun _=>?_,fun hh=>by simp[ai]at hh⟩
   simpa[fN,ah,eq_comm]using hs
  |opt cs u=>
   cases u<;>simp only[B0,Prod.mk.injEq,reduceCtorEq]at h
   obtain⟨rfl,rfl⟩:=h
   exact⟨fun hh=>by simpa[ah,eq_comm]using hs.1 hh,fun hh=>hs.2 hh⟩
theorem oO {tm:List Slot} {d t:Nat} {s:Slot} (h:d≠t):a8 (tm.set d s) t=a8 tm t:=by
 simp only[a8,ak,List.getElem?_set_ne h]
theorem pA {tm:List Slot} {d:Nat} {s:Slot} {cs:List (Nat×Bool)} (h:∀c∈cs,d≠c.1):ai (tm.set d s) cs=ai tm cs:=by
 rw[Bool.eq_iff_iff,cy,cy]
 constructor
 ·intro hh c hc;obtain⟨ds,e⟩:=hh c hc;rw[oO (h c hc)]at e;exact⟨ds,e⟩
 ·intro hh c hc;obtain⟨ds,e⟩:=hh c hc;exact⟨ds,by rw[oO (h c hc)];exact e⟩
theorem nR {d:Nat}:∀{tm:List Slot},bZ d tm=true→∀(i:Nat) (cs:List (Nat×Bool)) (v:AV),tm[i]?=some (.opt cs v)→∀c∈cs,d≠c.1
 | [],_,i,cs,v,hi=>by simp at hi
 |s::l,h,i,cs,v,hi=>by
  cases i with
  |zero=>
   simp only[List.getElem?_cons_zero,B0]at hi
   subst hi
   simp only[bZ,B1,List.all_eq_true]at h
   intro c hc e
   have:=h.1 c hc
   rw[←e]at this
   simp at this
  |succ i=>
   have hl:bZ d l=true:=by
    cases s<;>simp only[bZ,B1]at h
    ·exact h
    ·exact h
    ·exact h.2
   exact nR hl i cs v (by simpa using hi)
theorem er {d:Nat} {tm:List Slot} (h:ae tm):∀(i:Nat) (cs:List (Nat×Bool)) (v:AV),tm[i]?=some (.opt cs v)→∀c∈cs,d≠c.1:=
 fun i cs v hi=>by have:=h i _ hi;simp[Slot.gh]at this
theorem FR.put {ρ:List Loc} {tm:List Slot} {a:Act} {d:Nat} {s:Slot} {x:Value} (hf:FR ρ tm a)
  (hu:∀(i:Nat) (cs:List (Nat×Bool)) (v:AV),tm[i]?=some (.opt cs v)→∀c∈cs,d≠c.1) (hs:fN ρ (tm.set d s) s x):FR ρ (tm.set d s) (a.put (some d) x):=by
 refine⟨by simp[Act.put,hf.size],fun i t hi=>?_,hf.defers⟩
 by_cases hdi:d=i
 ·subst hdi
  have hlt:d<tm.length:=by
   have:=(List.getElem?_eq_some_iff.1 hi).1;simpa using this
  rw[List.getElem?_set_self hlt]at hi
  simp only[B0]at hi
  subst hi
  have:(a.put (some d) x).tmps.getD d undef=x:=by
   simp only[Act.put]
   rw[Array.getD_eq_getD_getElem?,Array.getElem?_setIfInBounds_self_of_lt (by rw[hf.size];exact hlt)]
   rfl
  rw[this]
  exact hs
 ·rw[List.getElem?_set_ne hdi]at hi
  have h0:=hf.at_ i t hi
  have:(a.put (some d) x).tmps.getD i undef=a.tmps.getD i undef:=by
   simp only[Act.put]
   rw[Array.getD_eq_getD_getElem?,Array.getD_eq_getD_getElem?,Array.getElem?_setIfInBounds_ne hdi]
  rw[this]
  cases t with
  |any=>trivial
  |is v=>exact h0
  |opt cs v=>
   have:=pA (tm:=tm) (s:=s) (hu i cs v hi)
   exact⟨fun hh=>h0.1 (this▸hh),fun hh=>h0.2 (this▸hh)⟩
theorem kn:∀(tm:List Slot) (i:Nat),(bN tm)[i]?=(tm[i]?).map fun s=>match s with| .opt _ _=> .any|x=>x
 | [],i=>by simp[bN]
 |s::l,i=>by
  cases i with
  |zero=>cases s<;>simp[bN]
  |succ i=>cases s<;>simp[bN,kn l i]
theorem jE:∀(tm:List Slot),(bN tm).length=tm.length
 | []=>rfl
 |s::l=>by cases s<;>simp[bN,jE l]
theorem bR (tm:List Slot):ae (bN tm):=by
 intro i s hi
 rw[kn]at hi
 cases ht:tm[i]? with
 |none=>rw[ht]at hi;cases hi
 |some t=>
  rw[ht]at hi
  cases t<;>simp only[Option.map_some,B0]at hi<;>subst hi<;>rfl
theorem FR.clear {ρ:List Loc} {tm:List Slot} {a:Act} (hf:FR ρ tm a):FR ρ (bN tm) a:=by
 refine⟨by rw[jE];exact hf.size,fun i s hi=>?_,hf.defers⟩
 rw[kn]at hi
 cases ht:tm[i]? with
 |none=>rw[ht]at hi;cases hi
 |some t=>
  rw[ht]at hi
  have h0:=hf.at_ i t ht
  cases t with
  |any=>simp only[Option.map_some,B0]at hi;subst hi;trivial
  |is v=>simp only[Option.map_some,B0]at hi;subst hi;exact h0
  |opt cs v=>simp only[Option.map_some,B0]at hi;subst hi;trivial
theorem eS {tm:List Slot} {d:Nat} {s:Slot} (h:ae tm) (hs:s.gh=false):ae (tm.set d s):=by
 intro i t hi
 by_cases e:d=i
 ·subst e
  have hlt:d<tm.length:=by have:=(List.getElem?_eq_some_iff.1 hi).1;simpa using this
  rw[List.getElem?_set_self hlt]at hi
  simp only[B0]at hi
  exact hi▸hs
 ·rw[List.getElem?_set_ne e]at hi
  exact h i t hi
def clr (l:Loc):Loc:={l with mark:=false}
mutual
theorem kA {ρ:List Loc}:∀(v:AV),ah (ρ.map clr) v=ah ρ v
 | .int _ _| .bool _| .str _| .val _=>rfl
 | .ptr k o=>by simp only[ah,List.getElem?_map];cases ρ[k]?<;>rfl
 | .pel k i w o=>by simp only[ah,List.getElem?_map];cases ρ[k]?<;>rfl
 | .sl k i w n m=>by simp only[ah,List.getElem?_map];cases ρ[k]?<;>rfl
 | .yld k=>by simp only[ah,List.getElem?_map];cases ρ[k]?<;>rfl
 | .mp k=>by simp only[ah,List.getElem?_map];cases ρ[k]?<;>rfl
 | .cut k i w lo n=>by simp only[ah,List.getElem?_map];cases ρ[k]?<;>rfl
 | .fn f a c=>by simp only[ah,eM a,eM c]
 | .agg cs=>by simp only[ah,eM cs]
 | .tup cs=>by simp only[ah,eM cs]
 | .ifc t v=>by simp only[ah,kA v]
theorem eM {ρ:List Loc}:∀(l:List AV),ab (ρ.map clr) l=ab ρ l
 | []=>rfl
 |v::l=>by simp only[ab,kA v,eM l]
end
theorem x8 {ρ:List Loc} {tm:List Slot} {a:Act} (h:FR ρ tm a):FR (ρ.map clr) tm {tmps:=a.tmps,defers:=[]}:=by
 refine⟨h.size,fun i s hi=>?_, .inl rfl⟩
 have:=h.at_ i s hi
 cases s with
 |any=>trivial
 |is v=>exact(kA v).trans this
 |opt cs v=>exact⟨fun e=>(kA v).trans (this.1 e),this.2⟩
end Go.Proofs.Ytdadgkgkdgnihaa.Px
