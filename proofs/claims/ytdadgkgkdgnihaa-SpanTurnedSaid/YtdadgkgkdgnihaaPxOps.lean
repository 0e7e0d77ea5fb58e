/- The evaluator's quiet operations, all of them. -/
import Derived.Test.YtdadgkgkdgnihaaPxPure
set_option linter.unusedVariables false
set_option linter.unusedSimpArgs false
namespace Go.Proofs.Ytdadgkgkdgnihaa.Px
open Go Go.RowKit
section
variable [X:aS]
def tK (P:Program) (G:World→Prop) (n:Nat) (con:yR (X:=X)):Prop:=
 qT P n∧∀args hp ok v,con args hp=some (ok,v)→ok=true→∀(w0:aN) ρ w xs,G w0.w→HR w0 ρ hp w→ab ρ args=some xs→
  ∃x,ah ρ v=some x∧Calls P n xs.toArray w (fun e w'=>e= .returned x∧Below w.heap.size w w')
def wN (w:World) (g:Nat) (cs:List AV):Prop:=g<w.heap.size∧∃ys,ab [] cs=some ys∧ys.all Value.oneCell'=true∧∀(j:Nat) y,ys[j]?=some y→w.cell? ⟨g,j,none⟩=some y
def Ay (P:Program) (t:TypeId):Prop:=P.concrete t=true∧P.built t []=some #[]
def AH (P:Program) (t:TypeId) (m:String) (n:FuncId):Prop:=qT P n∧∀v w,(method (P.types.size+Made.depth) t v m).run P w= .ok (n,v) w
structure QOk (P:Program) (G:World→Prop) (cfg:Cfg (X:=X)):Prop where
 elts:bd X
 types:eu P cfg.ti=true
 eqs:∀t i ks,look cfg.ti t=some i→i.eqk=some ks→∀(ρ:List Loc) (xs ys:List AV) (vx vy:List Value) (r:Bool) (w:World),ay ks xs ys=some r→ab ρ xs=some vx→ab ρ ys=some vy→
  P.eqGuardType P.depth t=false∧(Op.equalIn 10000 t (.agg vx.toArray) (.agg vy.toArray)).run P w= .ok r w
 calls:∀n con,look cfg.E n=some con→tK P G n con
 wL:∀g cs,look cfg.gl g=some cs→∀w,G w→wN w g cs
 uN:∀t,wC t cfg.vt=true→Ay P t
 uG:∀t m n,sN cfg.mt t m=some n→AH P t m n
omit X in
theorem ss {P:Program} {w:World} {op:BinOp} {t:Nat} {x y:Operand} {ty:Nat} {dst:Option Nat} {ty2:Nat} {pos:String} {after:Array Edge} {gd:Option (Nat×Bool)} {ev:Operand→Value} {k:IntKind} {a b:Int} {ok:Bool} {v:AV} {ρ:List Loc}
  (hx:ev x= .int k a) (hy:ev y= .int k b) (h:xH op k a b=some (ok,v)) (hok:ok=true):
  ∃z,ah ρ v=some z∧(execOp ev ⟨dst, .binOp op t x y ty,ty2,pos,after,gd⟩).run P w= .ok (.value z) w:=by
 subst hok
 cases op<;>simp only[xH,B0,Prod.mk.injEq,reduceCtorEq,true_and]at h
 case quo=>
  obtain⟨h1,rfl⟩:=h
  have hb:¬b=0:=by simpa using h1
  refine⟨_,rfl,?_⟩
  simp[execOp,hx,hy,eqGuard_quo,binOp_quo,Op.intDiv,hb]
 case rem=>
  obtain⟨h1,rfl⟩:=h
  have hb:¬b=0:=by simpa using h1
  refine⟨_,rfl,?_⟩
  simp[execOp,hx,hy,eqGuard_rem,binOp_rem,Op.intDiv,hb]
 all_goals(subst h;refine⟨_,rfl,?_⟩;simp[execOp,hx,hy,eqGuard_at_int,binOp_add,binOp_sub,binOp_mul,binOp_and,binOp_or,binOp_xor,binOp_andNot,binOp_eql,binOp_neq,binOp_lss,binOp_leq,binOp_gtr,binOp_geq,Op.intArith,intBits_and,intBits_or,intBits_xor,intBits_andNot])
theorem rE {P:Program} {G:World→Prop} {cfg:Cfg (X:=X)} (hq:QOk P G cfg) {w:World} {op:BinOp} {t:Nat} {x y:Operand} {ty:Nat} {dst:Option Nat} {ty2:Nat} {pos:String} {after:Array Edge} {gd:Option (Nat×Bool)} {ev:Operand→Value} {u1 u2:AV} {ok:Bool} {v:AV} {ρ:List Loc}
  (hx:ah ρ u1=some (ev x)) (hy:ah ρ u2=some (ev y)) (h:binop cfg op t u1 u2=some (ok,v)) (hok:ok=true):
  ∃z,ah ρ v=some z∧(execOp ev ⟨dst, .binOp op t x y ty,ty2,pos,after,gd⟩).run P w= .ok (.value z) w:=by
 unfold binop at h
 split at h
 ·rename_i k a k' b
  simp only[ah,B0]at hx hy
  split at h
  ·simp only[B0,Prod.mk.injEq]at h
   obtain⟨h1,rfl⟩:=h
   subst hok
   have hb:¬b<0:=by have:=of_decide_eq_true h1;omega
   refine⟨_,rfl,?_⟩
   simp[execOp,←hx,←hy,eqGuard_at_int,binOp_shl,Op.shift,hb]
  ·simp only[B0,Prod.mk.injEq]at h
   obtain⟨h1,rfl⟩:=h
   subst hok
   have hb:¬b<0:=by have:=of_decide_eq_true h1;omega
   refine⟨_,rfl,?_⟩
   simp[execOp,←hx,←hy,eqGuard_at_int,binOp_shr,Op.shift,hb]
  ·cases hk:kEq k k' with
   |false=>rw[hk]at h;cases h
   |true=>
    rw[hk]at h
    have:=bp hk
    subst this
    exact ss hx.symm hy.symm h hok
 ·rename_i a b
  simp only[ah,B0]at hx hy
  split at h
  ·rename_i i hl
   cases hb:i.isBool with
   |false=>rw[hb]at h;cases h
   |true=>
    rw[hb]at h
    simp only[B4,B0,Prod.mk.injEq]at h
    obtain⟨_,rfl⟩:=h
    refine⟨_,rfl,?_⟩
    have hu:=(ao hq.types t i hl).isBool hb
    simp only[execOp,←hx,←hy,eqGuard_at_bool,binOp,Op.equal,Op.maxDepth,Sem.run_bind,Sem.run_pure,Result.andThen_ok,run_equalIn_bool' (P:=P) _ 9999 t a b hu]
  ·rename_i i hl
   cases hb:i.isBool with
   |false=>rw[hb]at h;cases h
   |true=>
    rw[hb]at h
    simp only[B4,B0,Prod.mk.injEq]at h
    obtain⟨_,rfl⟩:=h
    refine⟨_,rfl,?_⟩
    have hu:=(ao hq.types t i hl).isBool hb
    simp only[execOp,←hx,←hy,eqGuard_at_bool,binOp,Op.equal,Op.maxDepth,Sem.run_bind,Sem.run_pure,Result.andThen_ok,run_equalIn_bool' (P:=P) _ 9999 t a b hu]
  ·cases h
 ·rename_i a b
  split at h
  ·rename_i i hl
   split at h
   ·rename_i ks hks
    split at h
    ·rename_i r hr
     obtain⟨vx,hvx,_,ex⟩:=bx.1 hx
     obtain⟨vy,hvy,_,ey⟩:=bx.1 hy
     obtain⟨hg,hrun⟩:=hq.eqs t i ks hl hks ρ a b vx vy r w hr hvx hvy
     split at h
     ·simp only[B0,Prod.mk.injEq]at h
      obtain⟨_,rfl⟩:=h
      refine⟨_,rfl,?_⟩
      simp only[execOp,ex,ey,Sem.run_bind,run_eqGuard_agg (P:=P) w _ t x y _ _ hg,Result.andThen_ok,run_eql_struct,hrun,Sem.run_pure]
     ·simp only[B0,Prod.mk.injEq]at h
      obtain⟨_,rfl⟩:=h
      refine⟨_,rfl,?_⟩
      simp only[execOp,ex,ey,Sem.run_bind,run_eqGuard_agg (P:=P) w _ t x y _ _ hg,Result.andThen_ok,run_neq_struct,hrun,Sem.run_pure]
     ·cases h
    ·cases h
   ·cases h
  ·cases h
 ·cases h
omit X in
theorem di {ρ:List Loc}:∀(vs:List AV) (xs:List Value) (cs:List AV) (ys:List Value) (o:Nat),ab ρ vs=some xs→ab ρ cs=some ys→ab ρ (aC cs o vs)=some (aC ys o xs)
 | [],xs,cs,ys,o,h1,h2=>by
  simp only[ab,B0]at h1
  subst h1
  exact h2
 |v::vs,xs,cs,ys,o,h1,h2=>by
  obtain⟨x,xs',hx,hxs,rfl⟩:=aa.1 h1
  simp only[aC,au]
  exact di vs xs' _ _ (o+1) hxs (pD _ h2 hx)
omit X in
theorem fK {p:Value→Bool}:∀(xs ys:List Value) (o:Nat),ys.all p=true→xs.all p=true→(aC ys o xs).all p=true
 | [],ys,o,h,_=>h
 |x::xs,ys,o,h,h'=>by
  simp only[List.all_cons,B1]at h'
  simp only[aC,au]
  refine fK xs _ (o+1) ?_ h'.2
  rw[List.all_eq_true]at h⊢
  intro z hz
  rcases List.mem_or_eq_of_mem_set hz with hz|rfl
  ·exact h z hz
  ·exact h'.1
omit X in
theorem jJ:∀(xs ys:List Value) (o k:Nat),(xs.zipIdx k).foldl (fun(c:Array Value) (p:Value×Nat)=>c.setIfInBounds (o+p.2) p.1) ys.toArray=(aC ys (o+k) xs).toArray
 | [],ys,o,k=>rfl
 |x::xs,ys,o,k=>by
  simp only[List.zipIdx_cons,List.foldl_cons,aC,au]
  have:=jJ xs (ys.set (o+k) x) o (k+1)
  rw[show o+k+1=o+(k+1) by omega,←this]
  simp
omit X in
theorem rz {x:Value} {xs ys:List Value} (o:Nat) (hx:x.cells=xs.toArray):x.cells.zipIdx.foldl (fun c (p:Value×Nat)=>c.setIfInBounds (o+p.2) p.1) ys.toArray=(aC ys o xs).toArray:=by
 rw[hx,←Array.foldl_toList,Array.toList_zipIdx]
 exact jJ xs ys o 0
omit X in
theorem gP {α:Type}:∀(vs A B:List α) (o:Nat),o+vs.length≤A.length→aC (A++B) o vs=aC A o vs++B
 | [],A,B,o,_=>rfl
 |v::vs,A,B,o,h=>by
  simp only[List.length_cons]at h
  simp only[aC,au]
  rw[List.set_append_left _ _ (by omega)]
  exact gP vs _ B (o+1) (by simp;omega)
omit X in
theorem dV {α:Type}:∀(vs A B:List α) (o:Nat),aC (A++B) (A.length+o) vs=A++aC B o vs
 | [],A,B,o=>rfl
 |v::vs,A,B,o=>by
  simp only[aC,au]
  rw[List.set_append_right _ _ (by omega),show A.length+o-A.length=o by omega,show A.length+o+1=A.length+(o+1) by omega]
  exact dV vs A _ (o+1)
def qc (v:AV):Prop:=∀vs,v≠ .tup vs
omit X in
theorem gO {ρ:List Loc} {place:Nat→Option (Nat×Nat)}:∀(l:List (Nat×AV)) (m:List (Nat×Value)) (cs:List AV) (ys:List Value) (go:List AV→List (Nat×AV)→Option (List AV)) (r:List AV),
  (∀cs,go cs []=some cs)→
  (∀cs i v l r,go cs ((i,v)::l)=some r→∃o n,place i=some (o,n)∧(cellsOf v).length=n∧o+n≤cs.length∧qc v∧go (aC cs o (cellsOf v)) l=some r)→
  l.length=m.length→(∀(j:Nat) (p:Nat×AV) (q:Nat×Value),l[j]?=some p→m[j]?=some q→p.1=q.1∧ah ρ p.2=some q.2)→ab ρ cs=some ys→ys.all Value.oneCell'=true→go cs l=some r→
  ∃zs,ab ρ r=some zs∧zs.all Value.oneCell'=true∧Instr.fill place ys.toArray m=some zs.toArray
 | [],m,cs,ys,go,r,h0,_,hl,_,hc,ha,hg=>by
  have:m=[]:=List.length_eq_zero_iff.1 hl.symm
  subst this
  rw[h0]at hg
  simp only[B0]at hg
  subst hg
  exact⟨ys,hc,ha,rfl⟩
 |(i,v)::l,m,cs,ys,go,r,h0,h1,hl,hm,hc,ha,hg=>by
  cases m with
  |nil=>simp at hl
  |cons q m=>
   obtain⟨j,x⟩:=q
   obtain⟨o,n,hp,hn,hle,htl,hg'⟩:=h1 cs i v l r hg
   obtain⟨e1,e2⟩:=hm 0 _ _ rfl rfl
   simp only at e1 e2
   subst e1
   obtain⟨xs,c1,c2,c3⟩:=eW e2 htl
   obtain⟨zs',f1,f2,f3⟩:=gO l m (aC cs o (cellsOf v)) (aC ys o xs) go r h0 h1 (by simpa using hl) (fun k p q hp hq=>hm (k+1) p q (by simpa using hp) (by simpa using hq)) (di _ _ _ _ _ c1 hc) (fK _ _ _ ha c2) hg'
   refine⟨zs',f1,f2,?_⟩
   simp only[Instr.fill,hp]
   have hs:x.cells.size=n:=by rw[c3,List.size_toArray,ar c1,hn]
   have hys:ys.length=cs.length:=ar hc
   rw[if_neg (by simp[hs,hys];omega),rz o c3]
   exact f3
end
end Go.Proofs.Ytdadgkgkdgnihaa.Px
