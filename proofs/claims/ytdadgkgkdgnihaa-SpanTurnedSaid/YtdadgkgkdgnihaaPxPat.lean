/- Loops whose end is known: states by their shapes, and a loop's contract. -/
import Derived.Test.YtdadgkgkdgnihaaPxFun
set_option linter.unusedVariables false
set_option linter.unusedSimpArgs false
namespace Go.Proofs.Ytdadgkgkdgnihaa.Px
open Go Go.RowKit
inductive SV where
 |i (n:Int)
 |b (v:Bool)
 |n (k:Nat)
 |v (a:AV)
def az {α:Type} (xs:List SV) (k:Int→List SV→Option α):Option α:=match xs with
 | .i n::l=>k n l
 |_=>none
def vg {α:Type} (xs:List SV) (k:Bool→List SV→Option α):Option α:=match xs with
 | .b n::l=>k n l
 |_=>none
def cS {α:Type} (xs:List SV) (r:Option α):Option α:=match xs with
 | []=>r
 |_=>none
theorem aF {α:Type} {xs:List SV} {k:Int→List SV→Option α} {r:α} (h:az xs k=some r):∃n l,xs= .i n::l∧k n l=some r:=by
 unfold az at h
 split at h
 ·exact⟨_,_,rfl,h⟩
 ·cases h
theorem oB {α:Type} {xs:List SV} {k:Bool→List SV→Option α} {r:α} (h:vg xs k=some r):∃n l,xs= .b n::l∧k n l=some r:=by
 unfold vg at h
 split at h
 ·exact⟨_,_,rfl,h⟩
 ·cases h
theorem aH {α:Type} {xs:List SV} {x:Option α} {r:α} (h:cS xs x=some r):xs=[]∧x=some r:=by
 unfold cS at h
 split at h
 ·exact⟨rfl,h⟩
 ·cases h
inductive PV where
 |int (k:IntKind)
 |bool
 |lit (v:AV)
 |slW (k w:Nat)
 |sl (k w:Nat)
 |opq
inductive PS where
 |any
 |is (p:PV)
mutual
def oE:AV→AV→Bool
 | .ptr a b, .ptr c d=>and (Nat.beq a c) (Nat.beq b d)
 | .fn a b c, .fn a' b' c'=>and (Nat.beq a a') (and (rJ b b') (rJ c c'))
 | .bool a, .bool b=>cond a b (not b)
 | .int k (.ofNat n), .int k' (.ofNat m)=>and (kEq k k') (Nat.beq n m)
 | .val (.slice none a b), .val (.slice none c d)=>and (Nat.beq a c) (Nat.beq b d)
 | .val .nilFunc, .val .nilFunc=>true
 | .val .nilIface, .val .nilIface=>true
 | .val (.pointer none), .val (.pointer none)=>true
 | .yld a, .yld b=>Nat.beq a b
 | .pel a b c d, .pel a' b' c' d'=>and (Nat.beq a a') (and (Nat.beq b b') (and (Nat.beq c c') (Nat.beq d d')))
 |_,_=>false
def rJ:List AV→List AV→Bool
 | [],[]=>true
 |a::l,b::m=>and (oE a b) (rJ l m)
 |_,_=>false
end
mutual
theorem pt:∀{a b:AV},oE a b=true→a=b
 | .ptr a b, .ptr c d,h=>by simp only[oE,B1]at h;rw[B2 h.1,B2 h.2]
 | .fn a b c, .fn a' b' c',h=>by simp only[oE,B1]at h;rw[B2 h.1,jX h.2.1,jX h.2.2]
 | .bool a, .bool b,h=>by cases a<;>cases b<;>simp[oE]at h<;>rfl
 | .int k (.ofNat n), .int k' (.ofNat m),h=>by simp only[oE,B1]at h;rw[bp h.1,B2 h.2]
 | .val (.slice none a b), .val (.slice none c d),h=>by simp only[oE,B1]at h;rw[B2 h.1,B2 h.2]
 | .val .nilFunc, .val .nilFunc,_=>rfl
 | .val .nilIface, .val .nilIface,_=>rfl
 | .val (.pointer none), .val (.pointer none),_=>rfl
 | .yld a, .yld b,h=>by simp only[oE]at h;rw[B2 h]
 | .pel a b c d, .pel a' b' c' d',h=>by simp only[oE,B1]at h;rw[B2 h.1,B2 h.2.1,B2 h.2.2.1,B2 h.2.2.2]
theorem jX:∀{l m:List AV},rJ l m=true→l=m
 | [],[],_=>rfl
 |a::l,b::m,h=>by simp only[rJ,B1]at h;rw[pt h.1,jX h.2]
end
def A6 (l:List Nat) (k:Nat):Nat:=match nth l k with
 |some n=>n
 |none=>0
def mV (lens:List Nat) (p:PV) (v:AV):Option (Bool×List SV):=
 match p with
 | .int k=>match v with
  | .int k' n=>cond (kEq k k') (some (true,[.i n])) none
  |_=>none
 | .bool=>match v with
  | .bool b=>some (true,[.b b])
  |_=>none
 | .lit u=>cond (oE u v) (some (true,[])) none
 | .slW k w=>match v with
  | .sl k' i w' n none=>cond (and (Nat.beq k k') (and (Nat.beq w w') (Nat.beq i 0))) (some (Nat.beq n (A6 lens k),[])) none
  |_=>none
 | .sl k w=>match v with
  | .sl k' i w' n none=>cond (and (Nat.beq k k') (Nat.beq w w')) (some (true,[.n i, .n n])) none
  |_=>none
 | .opq=>some (true,[.v v])
def bV (lens:List Nat) (p:PV) (xs:List SV):Option (AV×List SV):=
 match p with
 | .int k=>match xs with
  | .i n::r=>some (.int k n,r)
  |_=>none
 | .bool=>match xs with
  | .b v::r=>some (.bool v,r)
  |_=>none
 | .lit u=>some (u,xs)
 | .slW k w=>some (.sl k 0 w (A6 lens k) none,xs)
 | .sl k w=>match xs with
  | .n i:: .n n::r=>some (.sl k i w n none,r)
  |_=>none
 | .opq=>match xs with
  | .v a::r=>some (a,r)
  |_=>none
theorem zO {lens:List Nat} {p:PV} {v:AV} {xs:List SV} (h:mV lens p v=some (true,xs)) (r:List SV):bV lens p (xs++r)=some (v,r):=by
 unfold mV at h
 split at h
 ·rename_i k
  split at h
  ·rename_i k' n
   cases hk:kEq k k' with
   |false=>rw[hk]at h;cases h
   |true=>
    rw[hk]at h
    simp only[B4,B0,Prod.mk.injEq,true_and]at h
    subst h
    have:=bp hk
    subst this
    rfl
  ·cases h
 ·split at h
  ·simp only[B0,Prod.mk.injEq,true_and]at h
   subst h
   rfl
  ·cases h
 ·rename_i u
  cases hk:oE u v with
  |false=>rw[hk]at h;cases h
  |true=>
   rw[hk]at h
   simp only[B4,B0,Prod.mk.injEq,true_and]at h
   subst h
   rw[pt hk]
   rfl
 ·rename_i k w
  split at h
  ·rename_i k' i w' n
   cases hk:and (Nat.beq k k') (and (Nat.beq w w') (Nat.beq i 0))with
   |false=>rw[hk]at h;cases h
   |true=>
    rw[hk]at h
    simp only[B4,B0,Prod.mk.injEq]at h
    obtain⟨h1,rfl⟩:=h
    simp only[B1]at hk
    have e1:=B2 hk.1
    have e2:=B2 hk.2.1
    have e3:=B2 hk.2.2
    have e4:=B2 h1
    subst e1 e2 e3 e4
    rfl
  ·cases h
 ·rename_i k w
  split at h
  ·rename_i k' i w' n
   cases hk:and (Nat.beq k k') (Nat.beq w w')with
   |false=>rw[hk]at h;cases h
   |true=>
    rw[hk]at h
    simp only[B4,B0,Prod.mk.injEq,true_and]at h
    subst h
    simp only[B1]at hk
    rw[B2 hk.1,B2 hk.2]
    rfl
  ·cases h
 ·simp only[B0,Prod.mk.injEq,true_and]at h
  subst h
  rfl
def mVs (lens:List Nat):List PV→List AV→Option (Bool×List SV)
 | [],[]=>some (true,[])
 |p::ps,v::vs=>match mV lens p v,mVs lens ps vs with
  |some (g,xs),some (g',ys)=>some (and g g',xs++ys)
  |_,_=>none
 |_,_=>none
def bVs (lens:List Nat):List PV→List SV→Option (List AV×List SV)
 | [],xs=>some ([],xs)
 |p::ps,xs=>match bV lens p xs with
  |some (v,r)=>match bVs lens ps r with
   |some (vs,r')=>some (v::vs,r')
   |none=>none
  |none=>none
theorem uz {lens:List Nat}:∀{ps:List PV} {vs:List AV} {xs:List SV},mVs lens ps vs=some (true,xs)→∀r,bVs lens ps (xs++r)=some (vs,r)
 | [],[],xs,h,r=>by simp only[mVs,B0,Prod.mk.injEq,true_and]at h;subst h;rfl
 | [],_::_,_,h,_=>by simp[mVs]at h
 |_::_,[],_,h,_=>by simp[mVs]at h
 |p::ps,v::vs,xs,h,r=>by
  simp only[mVs]at h
  split at h
  ·rename_i g xs1 g' ys1 h1 h2
   simp only[B0,Prod.mk.injEq,B1]at h
   obtain⟨⟨rfl,rfl⟩,rfl⟩:=h
   simp only[bVs,List.append_assoc,zO h1,uz h2]
  ·cases h
def mS (lens:List Nat):List PS→List Slot→Option (Bool×List SV)
 | [],[]=>some (true,[])
 | .any::ps, .any::vs=>mS lens ps vs
 | .is p::ps, .is v::vs=>match mV lens p v,mS lens ps vs with
  |some (g,xs),some (g',ys)=>some (and g g',xs++ys)
  |_,_=>none
 |_,_=>none
def bS (lens:List Nat):List PS→List SV→Option (List Slot×List SV)
 | [],xs=>some ([],xs)
 | .any::ps,xs=>match bS lens ps xs with
  |some (vs,r)=>some (.any::vs,r)
  |none=>none
 | .is p::ps,xs=>match bV lens p xs with
  |some (v,r)=>match bS lens ps r with
   |some (vs,r')=>some (.is v::vs,r')
   |none=>none
  |none=>none
theorem uZ {lens:List Nat}:∀{ps:List PS} {vs:List Slot} {xs:List SV},mS lens ps vs=some (true,xs)→∀r,bS lens ps (xs++r)=some (vs,r)
 | [],[],xs,h,r=>by simp only[mS,B0,Prod.mk.injEq,true_and]at h;subst h;rfl
 | [],_::_,_,h,_=>by simp[mS]at h
 | .any::ps, .any::vs,xs,h,r=>by
  simp only[mS]at h
  simp only[bS,uZ h r]
 | .is p::ps, .is v::vs,xs,h,r=>by
  simp only[mS]at h
  split at h
  ·rename_i g xs1 g' ys1 h1 h2
   simp only[B0,Prod.mk.injEq,B1]at h
   obtain⟨⟨rfl,rfl⟩,rfl⟩:=h
   simp only[bS,List.append_assoc,zO h1,uZ h2]
  ·cases h
 | .any::_,[],_,h,_=>by simp[mS]at h
 | .is _::_,[],_,h,_=>by simp[mS]at h
 | .any::_, .is _::_,_,h,_=>by simp[mS]at h
 | .any::_, .opt _ _::_,_,h,_=>by simp[mS]at h
 | .is _::_, .any::_,_,h,_=>by simp[mS]at h
 | .is _::_, .opt _ _::_,_,h,_=>by simp[mS]at h
section
variable [X:aS]
inductive PB where
 |dead
 |raw (ps:List PV)
 |vec (t:X.El) (own:Bool)
 |opq
 |dfr
 |mark
 |rcd (id:Nat) (tm:List PS)
structure Pat where
 tm:List PS
 hp:List (PB (X:=X))
abbrev LV [X:aS]:=(t:X.El)×List (X.den t)
def mL:List (PB (X:=X))→List (Blk (X:=X))→Option (List LV)
 | [],[]=>some []
 | .vec t o::ps, .vec t' xs o'::bs=>match decEq t' t with
  | .isTrue h=>cond (cond o o' (not o')) (match mL ps bs with
   |some l=>some (⟨t,h▸xs⟩::l)
   |none=>none) none
  | .isFalse _=>none
 | .vec _ _::_,_::_=>none
 |_::ps,_::bs=>mL ps bs
 |_,_=>none
def jR:List (PB (X:=X))→List LV→List Nat
 | [],_=>[]
 | .vec _ _::ps,x::l=>x.2.length::jR ps l
 | .vec _ _::ps,[]=>0::jR ps []
 |_::ps,l=>0::jR ps l
def mB (lens:List Nat):List (PB (X:=X))→List (Blk (X:=X))→Option (Bool×List (Blk (X:=X))×List SV)
 | [],[]=>some (true,[],[])
 | .dead::ps, .dead::bs=>mB lens ps bs
 | .raw qs::ps, .raw cs::bs=>match mVs lens qs cs,mB lens ps bs with
  |some (g,xs),some (g',os,ys)=>some (and g g',os,xs++ys)
  |_,_=>none
 | .vec _ _::ps,_::bs=>mB lens ps bs
 | .dfr::ps, .dfr::bs=>mB lens ps bs
 | .mark::ps, .mark::bs=>mB lens ps bs
 | .rcd i qs::ps, .rcd .ready i' tm::bs=>cond (Nat.beq i i') (match mS lens qs tm,mB lens ps bs with
  |some (g,xs),some (g',os,ys)=>some (and g g',os,xs++ys)
  |_,_=>none) none
 | .opq::ps,b::bs=>match mB lens ps bs with
  |some (g,os,ys)=>some (g,b::os,ys)
  |none=>none
 |_,_=>none
def bB (lens:List Nat):List (PB (X:=X))→List LV→List (Blk (X:=X))→List SV→Option (List (Blk (X:=X))×List SV)
 | [],_,_,xs=>some ([],xs)
 | .dead::ps,ls,os,xs=>match bB lens ps ls os xs with
  |some (bs,r)=>some (.dead::bs,r)
  |none=>none
 | .raw qs::ps,ls,os,xs=>match bVs lens qs xs with
  |some (cs,r)=>match bB lens ps ls os r with
   |some (bs,r')=>some (.raw cs::bs,r')
   |none=>none
  |none=>none
 | .vec _ o::ps,l::ls,os,xs=>match bB lens ps ls os xs with
  |some (bs,r)=>some (.vec l.1 l.2 o::bs,r)
  |none=>none
 | .opq::ps,ls,b::os,xs=>match bB lens ps ls os xs with
  |some (bs,r)=>some (b::bs,r)
  |none=>none
 | .dfr::ps,ls,os,xs=>match bB lens ps ls os xs with
  |some (bs,r)=>some (.dfr::bs,r)
  |none=>none
 | .mark::ps,ls,os,xs=>match bB lens ps ls os xs with
  |some (bs,r)=>some (.mark::bs,r)
  |none=>none
 | .rcd i qs::ps,ls,os,xs=>match bS lens qs xs with
  |some (tm,r)=>match bB lens ps ls os r with
   |some (bs,r')=>some (.rcd .ready i tm::bs,r')
   |none=>none
  |none=>none
 |_,_,_,_=>none
theorem mD {lens:List Nat}:∀{ps:List (PB (X:=X))} {bs:List (Blk (X:=X))} {ls:List LV} {os:List (Blk (X:=X))} {xs:List SV},mL ps bs=some ls→mB lens ps bs=some (true,os,xs)→∀r,bB lens ps ls os (xs++r)=some (bs,r)
 | [],[],ls,os,xs,_,h,r=>by simp only[mB,B0,Prod.mk.injEq,true_and]at h;obtain⟨rfl,rfl⟩:=h;rfl
 | [],_::_,_,_,_,_,h,_=>by simp[mB]at h
 | .dead::ps,b::bs,ls,os,xs,hl,h,r=>by
  cases b<;>simp only[mB,reduceCtorEq]at h
  simp only[mL]at hl
  simp only[bB,mD hl h r]
 | .raw qs::ps,b::bs,ls,os,xs,hl,h,r=>by
  cases b<;>simp only[mB,reduceCtorEq]at h
  simp only[mL]at hl
  split at h
  ·rename_i g xs1 g' os1 ys1 h1 h2
   simp only[B0,Prod.mk.injEq,B1]at h
   obtain⟨⟨rfl,rfl⟩,rfl,rfl⟩:=h
   simp only[bB,List.append_assoc,uz h1,mD hl h2 r]
  ·cases h
 | .dfr::ps,b::bs,ls,os,xs,hl,h,r=>by
  cases b<;>simp only[mB,reduceCtorEq]at h
  simp only[mL]at hl
  simp only[bB,mD hl h r]
 | .mark::ps,b::bs,ls,os,xs,hl,h,r=>by
  cases b<;>simp only[mB,reduceCtorEq]at h
  simp only[mL]at hl
  simp only[bB,mD hl h r]
 | .rcd i qs::ps,b::bs,ls,os,xs,hl,h,r=>by
  cases b with
  |rcd st i' tm=>
   cases st<;>simp only[mB,reduceCtorEq]at h
   simp only[mL]at hl
   cases hi:Nat.beq i i' with
   |false=>rw[hi]at h;cases h
   |true=>
    rw[hi,B4]at h
    have:=B2 hi
    subst this
    split at h
    ·rename_i g xs1 g' os1 ys1 h1 h2
     simp only[B0,Prod.mk.injEq,B1]at h
     obtain⟨⟨rfl,rfl⟩,rfl,rfl⟩:=h
     simp only[bB,List.append_assoc,uZ h1,mD hl h2 r]
    ·cases h
  |_=>simp[mB]at h
 | .vec t o::ps,b::bs,ls,os,xs,hl,h,r=>by
  simp only[mB]at h
  cases b with
  |vec t' ys o'=>
   simp only[mL]at hl
   split at hl
   ·rename_i e he
    subst e
    cases ho:(cond o o' (not o'))with
    |false=>rw[ho]at hl;cases hl
    |true=>
     rw[ho,B4]at hl
     split at hl
     ·rename_i l' hl'
      simp only[B0]at hl
      subst hl
      have:o'=o:=by cases o<;>cases o'<;>simp at ho⊢
      subst this
      simp only[bB,mD hl' h r]
     ·cases hl
   ·cases hl
  |_=>simp[mL]at hl
 | .opq::ps,b::bs,ls,os,xs,hl,h,r=>by
  simp only[mB]at h
  simp only[mL]at hl
  split at h
  ·rename_i g os1 ys1 h1
   simp only[B0,Prod.mk.injEq]at h
   obtain⟨rfl,rfl,rfl⟩:=h
   simp only[bB,mD hl h1 r]
  ·cases h
 |_::_,[],_,_,_,hl,_,_=>by simp[mL]at hl
def mSt (P:Pat (X:=X)) (s:St (X:=X)):Option (Bool×List LV×List (Blk (X:=X))×List SV):=
 match mL P.hp s.hp with
 |some ls=>match mB (jR P.hp ls) P.hp s.hp,mS (jR P.hp ls) P.tm s.tm with
  |some (g,os,xs),some (g',ys)=>some (and g g',ls,os,xs++ys)
  |_,_=>none
 |none=>none
def bSt (P:Pat (X:=X)) (ls:List LV) (os:List (Blk (X:=X))) (xs:List SV):Option (St (X:=X)):=
 match bB (jR P.hp ls) P.hp ls os xs with
 |some (bs,r)=>match bS (jR P.hp ls) P.tm r with
  |some (tm,_)=>some {tm:=tm,hp:=bs}
  |none=>none
 |none=>none
theorem zh {P:Pat (X:=X)} {s:St (X:=X)} {ls:List LV} {os:List (Blk (X:=X))} {xs:List SV} (h:mSt P s=some (true,ls,os,xs)):bSt P ls os xs=some s:=by
 unfold mSt at h
 split at h
 ·rename_i ls1 h1
  split at h
  ·rename_i g os1 xs1 g' ys1 h2 h3
   simp only[B0,Prod.mk.injEq,B1]at h
   obtain⟨⟨rfl,rfl⟩,rfl,rfl,rfl⟩:=h
   have h4:=uZ h3 []
   rw[List.append_nil]at h4
   simp only[bSt,mD h1 h2 ys1,h4]
  ·cases h
 ·cases h
abbrev cg [X:aS]:=Option (Bool×List (Bool×Ex×St (X:=X))×Ex×St (X:=X))
def Pat.con (P:Pat (X:=X)) (f:List LV→List (Blk (X:=X))→List SV→cg) (s:St (X:=X)):cg:=
 match mSt P s with
 |some (g,ls,os,xs)=>match f ls os xs with
  |some (ok,l,e,s')=>some (and g ok,l,e,s')
  |none=>none
 |none=>none
def bY (kx:List Nat) (s:St (X:=X)):St (X:=X):={s with tm:=cK kx 0 s.tm}
noncomputable def fO (cfg:Cfg (X:=X)) (fuel d f p:Nat) (sp:bj (X:=X)) (kx:List Nat) (c:Code) (s:St (X:=X)):Option (Ex×St (X:=X)):=
 iter none (fun s' K'=>exec cfg none (bA cfg none fuel d) fuel f (2*p) c s' (aV none sp K')) fuel s (fun e s=>some (e,bY kx s))
variable {P:Program} {G:World→Prop} {cfg:Cfg (X:=X)}
theorem yX {ρ:List Loc} {kx:List Nat} {s:St (X:=X)} {a:Act} (hf:FR ρ s.tm a) (hn:ae s.tm):FR ρ (bY kx s).tm a∧ae (bY kx s).tm:=by
 refine⟨⟨by simp only[bY];rw[dY];exact hf.size,fun i sl hi=>?_,hf.defers⟩,fun i sl hi=>?_⟩
 ·rcases cY kx 0 s.tm i sl hi with rfl|hs
  ·trivial
  ·have:=hf.at_ i sl hs
   cases sl with
   |any=>trivial
   |is v=>exact this
   |opt ds v=>have:=hn i _ hs;simp[Slot.gh]at this
 ·rcases cY kx 0 s.tm i sl hi with rfl|hs
  ·rfl
  ·exact hn i sl hs
theorem yS (hp:Prog P G cfg) {f:Nat} {fn:Func} {body:Code} (hfn:P.funcs[f]?=some fn) (hbody:fn.body=some body) {ds:List Bool} {c:Code} (hc:aG ds body=some (.loop c)) {keep kx:List Nat} {m:Nat} {mv:List (Place×X.El)} {Q:Pat (X:=X)}
  (hm:m=(Q.hp.length-mv.length)) (hmv:mv.length≤Q.hp.length) {g:List LV→List (Blk (X:=X))→List SV→cg}
  (h:∀ls os xs l e s' s,bSt Q ls os xs=some s→g ls os xs=some (true,l,e,s')→∃fuel d,fO cfg fuel d f (num ds) {keep:=keep,m:=m,mv:=mv} kx c s=some (aQ Prod.mk l e s')):
  ∀c',Sub body (num ds) c'→uj P G c' m (Q.con g):=by
 intro c' hsub s l e s' hs w0 ρ a w hG hf hr hn
 have hcc:=hsub.eq hc
 subst hcc
 unfold Pat.con at hs
 split at hs
 ·rename_i gd ls os xs hmt
  split at hs
  ·rename_i ok l1 e1 s1 hg
   simp only[B0,Prod.mk.injEq,B1]at hs
   obtain⟨⟨rfl,rfl⟩,rfl,rfl,rfl⟩:=hs
   have hb:=zh hmt
   obtain⟨fuel,d,hrun⟩:=h ls os xs l1 e1 s1 s hb hg
   have hlen:s.hp.length=Q.hp.length:=by
    have:∀(ps:List (PB (X:=X))) (ls:List LV) (os bs:List (Blk (X:=X))) (xs r:List SV) (lens:List Nat),bB lens ps ls os xs=some (bs,r)→bs.length=ps.length:=by
     intro ps
     induction ps with
     |nil=>intro ls os bs xs r lens h;simp only[bB,B0,Prod.mk.injEq]at h;rw[←h.1];rfl
     |cons p ps ih=>
      intro ls os bs xs r lens h
      cases p with
      |dead=>
       simp only[bB]at h
       split at h
       ·rename_i h1;simp only[B0,Prod.mk.injEq]at h;rw[←h.1];simp[ih _ _ _ _ _ _ h1]
       ·cases h
      |raw qs=>
       simp only[bB]at h
       split at h
       ·split at h
        ·rename_i h1;simp only[B0,Prod.mk.injEq]at h;rw[←h.1];simp[ih _ _ _ _ _ _ h1]
        ·cases h
       ·cases h
      |dfr=>
       simp only[bB]at h
       split at h
       ·rename_i h1;simp only[B0,Prod.mk.injEq]at h;rw[←h.1];simp[ih _ _ _ _ _ _ h1]
       ·cases h
      |mark=>
       simp only[bB]at h
       split at h
       ·rename_i h1;simp only[B0,Prod.mk.injEq]at h;rw[←h.1];simp[ih _ _ _ _ _ _ h1]
       ·cases h
      |rcd i qs=>
       simp only[bB]at h
       split at h
       ·split at h
        ·rename_i h1;simp only[B0,Prod.mk.injEq]at h;rw[←h.1];simp[ih _ _ _ _ _ _ h1]
        ·cases h
       ·cases h
      |vec t o=>
       cases ls with
       |nil=>simp[bB]at h
       |cons y ls=>
        simp only[bB]at h
        split at h
        ·rename_i h1;simp only[B0,Prod.mk.injEq]at h;rw[←h.1];simp[ih _ _ _ _ _ _ h1]
        ·cases h
      |opq=>
       cases os with
       |nil=>simp[bB]at h
       |cons y os=>
        simp only[bB]at h
        split at h
        ·rename_i h1;simp only[B0,Prod.mk.injEq]at h;rw[←h.1];simp[ih _ _ _ _ _ _ h1]
        ·cases h
    unfold bSt at hb
    split at hb
    ·rename_i bs r hbb
     split at hb
     ·simp only[B0]at hb
      rw[←hb]
      exact this _ _ _ _ _ _ _ hbb
     ·cases hb
    ·cases hb
   let φ:Option (Ex×St (X:=X))→Prop:=fun r=>r=some (aQ Prod.mk l1 e1 s1)
   have hf0:¬φ none:=fun e=>by cases e
   have hd:cC P w0 cfg (none:Option (Ex×St (X:=X))) φ:=dT (w0:=w0) hp.mixed hf0 hp.toEOk hG
   have hci:=ft (w0:=w0) hf0 hp.toEOk hp.jN hp.ranges hp.plain hG hp.fns (fun w1 e c hc=>dT (w0:=w1) hp.mixed hf0 hc (by rw[e];exact hG)) (fuel:=fuel) d
   have hrl:(ρ.take m).length=m:=by rw[List.length_take,hr.len,hlen];omega
   have:=sZ (φ:=φ) hf0 hp.toEOk hG hci hd Sub.going (uK hp.jN hp.plain hfn hbody) (rO hp.ranges hfn hbody) (sp:={keep:=keep,m:=m,mv:=mv}) hsub hrl fuel s ρ a w hrun (List.take_prefix _ _) hf hr hn
   refine Code.wpIn_mono ?_ (wpIn_loop_rounds fuel this)
   intro e2 a2 w2 ⟨e3,s3,ρ3,k1,k2,k3,k4,k5,k6⟩
   simp only[φ,B0]at k2
   obtain⟨f1,f2⟩:=yX (kx:=kx) k4 k6
   exact⟨e3,bY kx s3,ρ3,k1,k2,k3,f1,k5,f2⟩
  ·cases hs
 ·cases hs
theorem Prog.gL (hp:Prog P G cfg) {f:Nat} {fn:Func} {body:Code} (hfn:P.funcs[f]?=some fn) (hbody:fn.body=some body) {ds:List Bool} {c:Code} (hc:aG ds body=some (.loop c)) {p:Nat} (hpn:num ds=p) {keep kx:List Nat} {m cx:Nat} {mv:List (Place×X.El)} {Q:Pat (X:=X)}
  (hm:m=(Q.hp.length-mv.length)) (hmv:mv.length≤Q.hp.length) {g:List LV→List (Blk (X:=X))→List SV→cg}
  (h:∀ls os xs l e s' s,bSt Q ls os xs=some s→g ls os xs=some (true,l,e,s')→∃fuel d,fO cfg fuel d f p {keep:=keep,m:=m,mv:=mv} kx c s=some (aQ Prod.mk l e s')):
  Prog P G {cfg with lp:=(f,p,{keep:=keep,m:=m,mv:=mv,ctx:=cx,con:=some (Q.con g)})::cfg.lp}:=by
 subst hpn
 refine{hp with jN:=fun f' p' cx' sp con hl eo fn' body' hfn' hbody' c' hsub=>?_}
 simp only[jM]at hl
 cases hb:and (Nat.beq f f') (and (Nat.beq (num ds) p') (Nat.beq cx cx'))with
 |true=>
  rw[hb,B4]at hl
  simp only[B0]at hl
  subst hl
  simp only[B0]at eo
  subst eo
  simp only[B1]at hb
  have e1:=B2 hb.1
  have e2:=B2 hb.2.1
  subst e1
  subst e2
  rw[hfn]at hfn'
  simp only[B0]at hfn'
  subst hfn'
  rw[hbody]at hbody'
  simp only[B0]at hbody'
  subst hbody'
  exact yS hp hfn hbody hc hm hmv h c' hsub
 |false=>
  rw[hb,B5]at hl
  exact hp.jN f' p' cx' sp con hl eo fn' body' hfn' hbody' c' hsub
end
end Go.Proofs.Ytdadgkgkdgnihaa.Px
