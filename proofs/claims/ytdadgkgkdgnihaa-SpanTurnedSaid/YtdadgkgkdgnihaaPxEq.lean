/- '==' of structs. -/
import Derived.Test.YtdadgkgkdgnihaaPxLaw
import Derived.ChangeKeysEq
set_option linter.unusedVariables false
set_option linter.unusedSimpArgs false
namespace Go.Proofs.Ytdadgkgkdgnihaa.Px
open Go Go.RowKit
def IsV (P:Program) (t:TypeId) (v:Value) (cs:List Value):Prop:=∃d,P.underlying t=some d∧((bE d=true∧v= .agg cs.toArray)∨(bE d=false∧cs=[v]))
theorem dE:∀{ks l:List (Option IntKind)} {xs ys:List AV} {r:Bool},ay (ks++l) xs ys=some r→∃r1 r2,ay ks (xs.take ks.length) (ys.take ks.length)=some r1∧ay l (xs.drop ks.length) (ys.drop ks.length)=some r2∧r=(r1&&r2)
 | [],l,xs,ys,r,h=>⟨true,r,by simp[ay],by simpa using h,by simp⟩
 |some k::ks,l,xs,ys,r,h=>by
  cases xs with
  |nil=>simp[ay]at h
  |cons x xs=>
   cases ys with
   |nil=>simp[ay]at h
   |cons y ys=>
    cases x<;>cases y<;>simp only[List.cons_append,ay]at h<;>try (cases h;done)
    rename_i k1 a k2 b
    cases hk:and (kEq k k1) (kEq k k2)with
    |false=>rw[hk]at h;simp at h
    |true=>
     rw[hk,B4]at h
     split at h
     ·rename_i q hq
      obtain⟨r1,r2,h1,h2,rfl⟩:=dE hq
      simp only[B0]at h
      refine⟨and (a==b) r1,r2,?_,by simpa using h2,by rw[←h,Bool.and_assoc]⟩
      simp only[List.length_cons,List.take_succ_cons,ay,hk,B4,h1]
     ·cases h
 |none::ks,l,xs,ys,r,h=>by
  cases xs with
  |nil=>simp[ay]at h
  |cons x xs=>
   cases ys with
   |nil=>simp[ay]at h
   |cons y ys=>
    cases x<;>cases y<;>simp only[List.cons_append,ay]at h<;>try (cases h;done)
    rename_i a b
    split at h
    ·rename_i q hq
     obtain⟨r1,r2,h1,h2,rfl⟩:=dE hq
     simp only[B0]at h
     refine⟨and (a==b) r1,r2,?_,by simpa using h2,by rw[←h,Bool.and_assoc]⟩
     simp only[List.length_cons,List.take_succ_cons,ay,h1]
    ·cases h
theorem dD:∀{ks:List (Option IntKind)} {xs ys:List AV} {r:Bool},ay ks xs ys=some r→xs.length=ks.length∧ys.length=ks.length
 | [],[],[],r,h=>⟨rfl,rfl⟩
 | [],_::_,_,r,h=>by simp[ay]at h
 | [],[],_::_,r,h=>by simp[ay]at h
 |some k::ks,xs,ys,r,h=>by
  cases xs with
  |nil=>simp[ay]at h
  |cons x xs=>
   cases ys with
   |nil=>simp[ay]at h
   |cons y ys=>
    cases x<;>cases y<;>simp only[ay]at h<;>try (cases h;done)
    rename_i k1 a k2 b
    cases hk:and (kEq k k1) (kEq k k2)with
    |false=>rw[hk]at h;simp at h
    |true=>
     rw[hk,B4]at h
     split at h
     ·rename_i q hq;obtain⟨h1,h2⟩:=dD hq;exact⟨by simp[h1],by simp[h2]⟩
     ·cases h
 |none::ks,xs,ys,r,h=>by
  cases xs with
  |nil=>simp[ay]at h
  |cons x xs=>
   cases ys with
   |nil=>simp[ay]at h
   |cons y ys=>
    cases x<;>cases y<;>simp only[ay]at h<;>try (cases h;done)
    split at h
    ·rename_i q hq;obtain⟨h1,h2⟩:=dD hq;exact⟨by simp[h1],by simp[h2]⟩
    ·cases h
theorem eH {P:Program} {w:World} {t:TypeId} {inf:TypeInfo} {d:TypeDesc} {cs:List Value} {o:Nat} (hi:P.info? t=some inf) (hd:P.underlying t=some d) (ho:o+inf.size≤cs.length) (h1:bE d=false→inf.size=1):
  ∃v,(Go.part t cs.toArray o).run P w= .ok v w∧IsV P t v ((cs.drop o).take inf.size):=by
 cases ha:bE d with
 |true=>
  refine⟨.agg ((cs.drop o).take inf.size).toArray,?_,d,hd, .inl ⟨ha,rfl⟩⟩
  simp only[Go.part,Sem.run_bind,dR hd,Result.andThen_ok,ha,if_true,a7 hi,Sem.run_pure]
  simp
 |false=>
  have hs:=h1 ha
  have hlt:o<cs.length:=by omega
  refine⟨cs[o],?_,d,hd, .inr ⟨ha,?_⟩⟩
  ·simp only[Go.part,Sem.run_bind,dR hd,Result.andThen_ok,ha,Bool.false_eq_true,if_false]
   simp[hlt]
  ·rw[hs,List.drop_eq_getElem_cons hlt];rfl
theorem mK {P:Program}:∀{d:Nat} {t:TypeId} {ks:List (Option IntKind)},fM P d t=some ks→∃inf dsc,P.info? t=some inf∧P.underlying t=some dsc∧inf.size=ks.length∧(bE dsc=false→ks.length=1)
 |0,t,ks,h=>by simp[fM]at h
 |d+1,t,ks,h=>by
  simp only[fM]at h
  split at h
  ·rename_i inf ks' hi hk
   cases hs:Nat.beq inf.size ks'.length with
   |false=>rw[hs]at h;cases h
   |true=>
    rw[hs,B4]at h
    simp only[B0]at h
    subst h
    have hs:=B2 hs
    split at hk
    ·rename_i n e hu;exact⟨inf,_,hi,hu,hs,fun e=>by simp[bE]at e⟩
    ·rename_i k hu;simp only[B0]at hk;subst hk;exact⟨inf,_,hi,hu,hs,fun _=>rfl⟩
    ·rename_i hu;simp only[B0]at hk;subst hk;exact⟨inf,_,hi,hu,hs,fun _=>rfl⟩
    ·rename_i fs hu;exact⟨inf,_,hi,hu,hs,fun e=>by simp[bE]at e⟩
    ·cases hk
  ·cases h
theorem jY {P:Program} {w:World} {d:Nat} {rec:TypeId→Option (List (Option IntKind))} {ρ:List Loc} {xs ys:List AV} {vx vy:List Value}
  (hrec:∀t ks,rec t=some ks→(∃inf dsc,P.info? t=some inf∧P.underlying t=some dsc∧inf.size=ks.length∧(bE dsc=false→ks.length=1))∧∀(as bs:List AV) (va vb:List Value) (a b:Value) (r:Bool),ay ks as bs=some r→ab ρ as=some va→ab ρ bs=some vb→IsV P t a va→IsV P t b vb→(Op.equalIn d t a b).run P w= .ok r w) (hvx:ab ρ xs=some vx) (hvy:ab ρ ys=some vy):
  ∀(fs:List Field) (o:Nat) (ks:List (Option IntKind)) (r:Bool),nQ rec fs o=some ks→ay ks (xs.drop o) (ys.drop o)=some r→(Op.eqFields d vx.toArray vy.toArray fs).run P w= .ok r w
 | [],o,ks,r,h,hc=>by
  simp only[nQ,B0]at h
  subst h
  generalize xs.drop o=p at hc
  generalize ys.drop o=q at hc
  cases p<;>cases q<;>simp[ay]at hc
  subst hc
  simp[Op.eqFields]
 |f::fs,o,ks,r,h,hc=>by
  simp only[nQ]at h
  split at h
  ·rename_i ks1 hn ho hr
   split at h
   ·rename_i l hl
    simp only[B0]at h
    subst h
    obtain⟨r1,r2,h1,h2,rfl⟩:=dE hc
    obtain⟨⟨inf,dsc,hi,hu,hsz,hone⟩,hrun⟩:=hrec f.type ks1 hr
    have ho:=B2 ho
    obtain⟨l1,l2⟩:=dD h1
    simp only[List.length_take,List.length_drop]at l1 l2
    have hlx:=ar hvx
    have hly:=ar hvy
    have key:∀(zs:List AV) (vz:List Value),ab ρ zs=some vz→min ks1.length (zs.length-o)=ks1.length→(o+inf.size≤vz.length∨ks1.length=0):=fun zs vz hz hm=>by
     have:=ar hz
     omega
    by_cases hk0:ks1.length=0
    ·-- a field of no cells
     have hag:bE dsc=true:=by
      cases ha:bE dsc with
      |true=>rfl
      |false=>have:=hone ha;omega
     have pz:∀(vz:List Value),(Go.part f.type vz.toArray f.offset).run P w= .ok (.agg #[]) w:=fun vz=>by
      simp only[Go.part,Sem.run_bind,dR hu,Result.andThen_ok,hag,if_true,a7 hi,Sem.run_pure,hsz,hk0]
      simp
     have he:=hrun [] [] [] [] (.agg #[]) (.agg #[]) r1 (by have e1:ks1=[]:=List.length_eq_zero_iff.1 hk0;rw[e1]at h1⊢;simpa using h1) rfl rfl ⟨dsc,hu, .inl ⟨hag,rfl⟩⟩ ⟨dsc,hu, .inl ⟨hag,rfl⟩⟩
     have ih:=jY hrec hvx hvy fs (o+ks1.length) l r2 hl (by rw[←List.drop_drop,←List.drop_drop];exact h2)
     have hn':f.name≠ "_" :=by simpa using hn
     simp only[Op.eqFields,if_pos hn',Sem.run_bind,pz,Result.andThen_ok,he,Sem.run_ite,ih]
     cases r1<;>simp
    ·have ox:=(key xs vx hvx (by omega)).resolve_right hk0
     have oy:=(key ys vy hvy (by omega)).resolve_right hk0
     rw[←ho]at ox oy
     obtain⟨a,pa,ia⟩:=eH (w:=w) hi hu ox (fun e=>by rw[hsz];exact hone e)
     obtain⟨b,pb,ib⟩:=eH (w:=w) hi hu oy (fun e=>by rw[hsz];exact hone e)
     rw[ho,hsz]at ia ib
     have he:=hrun _ _ _ _ a b r1 h1 (cr _ (cq _ hvx)) (cr _ (cq _ hvy)) ia ib
     have ih:=jY hrec hvx hvy fs (o+ks1.length) l r2 hl (by rw[←List.drop_drop,←List.drop_drop];exact h2)
     have hn':f.name≠ "_" :=by simpa using hn
     simp only[Op.eqFields,if_pos hn',Sem.run_bind,pa,pb,Result.andThen_ok,he,Sem.run_ite,ih]
     cases r1<;>simp
   ·cases h
  ·cases h
theorem mn {P:Program} {w:World} {d:Nat} {e:TypeId} {inf:TypeInfo} {dsc:TypeDesc} {ks:List (Option IntKind)} {ρ:List Loc} {xs ys:List AV} {vx vy:List Value} (hi:P.info? e=some inf) (hu:P.underlying e=some dsc) (hsz:inf.size=ks.length) (hone:bE dsc=false→ks.length=1) (hk0:ks.length≠0)
  (hrun:∀(as bs:List AV) (va vb:List Value) (a b:Value) (r:Bool),ay ks as bs=some r→ab ρ as=some va→ab ρ bs=some vb→IsV P e a va→IsV P e b vb→(Op.equalIn d e a b).run P w= .ok r w)
  (hvx:ab ρ xs=some vx) (hvy:ab ρ ys=some vy):
  ∀(n i:Nat) (r:Bool),ay (zm n ks) (xs.drop (i*ks.length)) (ys.drop (i*ks.length))=some r→(Op.eqItems d e (P.cellsOf e) vx.toArray vy.toArray (List.range' i n)).run P w= .ok r w
 |0,i,r,hc=>by
  simp only[zm]at hc
  generalize xs.drop (i*ks.length)=p at hc
  generalize ys.drop (i*ks.length)=q at hc
  cases p<;>cases q<;>simp[ay]at hc
  subst hc
  simp[Op.eqItems]
 |n+1,i,r,hc=>by
  have hcell:P.cellsOf e=ks.length:=by rw[←hsz];simp[Program.cellsOf,hi]
  obtain⟨r1,r2,h1,h2,rfl⟩:=dE hc
  obtain⟨l1,l2⟩:=dD h1
  simp only[List.length_take,List.length_drop]at l1 l2
  have hlx:=ar hvx
  have hly:=ar hvy
  obtain⟨a,pa,ia⟩:=eH (w:=w) (cs:=vx) (o:=i*ks.length) hi hu (by omega) (fun e=>by rw[hsz];exact hone e)
  obtain⟨b,pb,ib⟩:=eH (w:=w) (cs:=vy) (o:=i*ks.length) hi hu (by omega) (fun e=>by rw[hsz];exact hone e)
  rw[hsz]at ia ib
  have he:=hrun _ _ _ _ a b r1 h1 (cr _ (cq _ hvx)) (cr _ (cq _ hvy)) ia ib
  have ih:=mn hi hu hsz hone hk0 hrun hvx hvy n (i+1) r2 (by rw[Nat.add_mul,Nat.one_mul,←List.drop_drop,←List.drop_drop];exact h2)
  rw[List.range'_succ]
  rw[hcell]at ih⊢
  simp only[Op.eqItems,Sem.run_bind,pa,pb,he,Result.andThen_ok]
  cases r1
  ·simp
  ·simpa using ih
theorem jT {P:Program} {w:World} {ρ:List Loc}:∀(d m:Nat) (t:TypeId) (ks:List (Option IntKind)),fM P d t=some ks→∀(xs ys:List AV) (vx vy:List Value) (x y:Value) (r:Bool),ay ks xs ys=some r→ab ρ xs=some vx→ab ρ ys=some vy→IsV P t x vx→IsV P t y vy→
  (Op.equalIn (d+m) t x y).run P w= .ok r w
 |0,m,t,ks,h=>by simp[fM]at h
 |d+1,m,t,ks,h=>by
  intro xs ys vx vy x y r hc hx hy ix iy
  rw[show d+1+m=(d+m)+1 by omega]
  obtain⟨dx,ux,ix⟩:=ix
  obtain⟨dy,uy,iy⟩:=iy
  have hfull:=h
  simp only[fM]at h
  split at h
  case h_2=>cases h
  rename_i inf ks0 hinf h0
  cases hsz:Nat.beq inf.size ks0.length with
  |false=>rw[hsz]at h;cases h
  |true=>
  rw[hsz,B4]at h
  simp only[B0]at h
  subst h
  split at h0
  ·rename_i n e hu
   split at h0
   ·rename_i ks1 hks
    cases hz:Nat.beq ks1.length 0 with
    |true=>rw[hz]at h0;cases h0
    |false=>
     rw[hz,B5]at h0
     simp only[B0]at h0
     subst h0
     rw[hu]at ux uy
     simp only[B0]at ux uy
     subst ux;subst uy
     rcases ix with⟨_,rfl⟩|⟨e,_⟩
     case inr=>simp[bE]at e
     rcases iy with⟨_,rfl⟩|⟨e,_⟩
     case inr=>simp[bE]at e
     obtain⟨inf1,dsc1,i1,i2,i3,i4⟩:=mK hks
     rw[run_equalIn_array (P:=P) w (d+m) vx.toArray vy.toArray hu i1,List.range_eq_range']
     exact mn i1 i2 i3 i4 (by intro e;rw[e]at hz;simp at hz) (fun as bs va vb a b r h1 h2 h3 h4 h5=>jT d m e ks1 hks as bs va vb a b r h1 h2 h3 h4 h5) hx hy n 0 r (by simpa using hc)
   ·cases h0
  ·rename_i k hu
   simp only[B0]at h0
   subst h0
   rw[hu]at ux uy
   simp only[B0]at ux uy
   subst ux;subst uy
   rcases ix with⟨e,_⟩|⟨_,rfl⟩
   ·simp[bE]at e
   rcases iy with⟨e,_⟩|⟨_,rfl⟩
   ·simp[bE]at e
   cases xs with
   |nil=>simp[ay]at hc
   |cons a xs=>
    cases ys with
    |nil=>simp[ay]at hc
    |cons b ys=>
     obtain⟨a',as',ha,_,ea⟩:=aa.1 hx
     obtain⟨b',bs',hb,_,eb⟩:=aa.1 hy
     simp only[List.cons.injEq]at ea eb
     obtain⟨rfl,rfl⟩:=ea
     obtain⟨rfl,rfl⟩:=eb
     cases a<;>cases b<;>simp only[ay]at hc<;>try (cases hc;done)
     rename_i k1 p k2 q
     cases hk:and (kEq k k1) (kEq k k2)with
     |false=>rw[hk]at hc;simp at hc
     |true=>
      rw[hk,B4]at hc
      simp only[B1]at hk
      have e1:=bp hk.1
      have e2:=bp hk.2
      subst e1
      subst e2
      cases xs<;>cases ys<;>simp only[ay,B0,reduceCtorEq]at hc
      simp only[ah,B0]at ha hb
      subst ha;subst hb
      rw[run_equalIn_int (P:=P) w _ t _ _ p q hu,←hc,Bool.and_true]
  ·rename_i hu
   simp only[B0]at h0
   subst h0
   rw[hu]at ux uy
   simp only[B0]at ux uy
   subst ux;subst uy
   rcases ix with⟨e,_⟩|⟨_,rfl⟩
   ·simp[bE]at e
   rcases iy with⟨e,_⟩|⟨_,rfl⟩
   ·simp[bE]at e
   cases xs with
   |nil=>simp[ay]at hc
   |cons a xs=>
    cases ys with
    |nil=>simp[ay]at hc
    |cons b ys=>
     obtain⟨a',as',ha,_,ea⟩:=aa.1 hx
     obtain⟨b',bs',hb,_,eb⟩:=aa.1 hy
     simp only[List.cons.injEq]at ea eb
     obtain⟨rfl,rfl⟩:=ea
     obtain⟨rfl,rfl⟩:=eb
     cases a<;>cases b<;>simp only[ay]at hc<;>try (cases hc;done)
     rename_i p q
     cases xs<;>cases ys<;>simp only[ay,B0,reduceCtorEq]at hc
     simp only[ah,B0]at ha hb
     subst ha;subst hb
     rw[run_equalIn_bool' (P:=P) w _ t p q hu,←hc,Bool.and_true]
  ·rename_i fs hu
   split at h0
   ·rename_i hst
    rw[hu]at ux uy
    simp only[B0]at ux uy
    subst ux;subst uy
    rcases ix with⟨_,rfl⟩|⟨e,_⟩
    case inr=>simp[bE]at e
    rcases iy with⟨_,rfl⟩|⟨e,_⟩
    case inr=>simp[bE]at e
    have hfo:P.fieldsOf t=fs:=by simp[Program.fieldsOf,hu]
    rw[run_equalIn_struct (P:=P) w (d+m) t vx.toArray vy.toArray (by rw[hfo];exact hu) hst,hfo]
    exact jY (fun t ks ht=>⟨mK ht,fun as bs va vb a b r h1 h2 h3 h4 h5=>jT d m t ks ht as bs va vb a b r h1 h2 h3 h4 h5⟩) hx hy fs.toList 0 ks0 r h0 (by simpa using hc)
   ·cases h0
  ·cases h0
def ek:List (Option IntKind)→List (Option IntKind)→Bool
 | [],[]=>true
 |some k::l,some k'::m=>and (kEq k k') (ek l m)
 |none::l,none::m=>ek l m
 |_,_=>false
theorem iU:∀{l m:List (Option IntKind)},ek l m=true→l=m
 | [],[],_=>rfl
 |some k::l,some k'::m,h=>by
  simp only[ek,B1]at h
  rw[bp h.1,iU h.2]
 |none::l,none::m,h=>by simp only[ek]at h;rw[iU h]
 | [],some _::_,h=>by simp[ek]at h
 | [],none::_,h=>by simp[ek]at h
 |some _::_,[],h=>by simp[ek]at h
 |none::_,[],h=>by simp[ek]at h
 |some _::_,none::_,h=>by simp[ek]at h
 |none::_,some _::_,h=>by simp[ek]at h
section
variable [X:aS]
def pI (P:Program) (d:Nat):List (Nat×TI (X:=X))→Bool
 | []=>true
 |(t,i)::l=>and (match i.eqk with
  |none=>true
  |some ks=>and i.agg (and (not (P.eqGuardType P.depth t)) (match fM P d t with
   |some ks'=>ek ks ks'
   |none=>false))) (pI P d l)
theorem o8 {P:Program} {d:Nat}:∀{l:List (Nat×TI (X:=X))},pI P d l=true→∀t i ks,look l t=some i→i.eqk=some ks→i.agg=true∧P.eqGuardType P.depth t=false∧fM P d t=some ks
 | [],_,t,i,ks,h,_=>by simp[look]at h
 |(k,x)::l,h,t,i,ks,e,hk=>by
  simp only[pI,B1]at h
  simp only[look]at e
  cases hb:Nat.beq k t with
  |true=>
   rw[hb,B4]at e
   simp only[B0]at e
   subst e
   have h1:=h.1
   rw[hk]at h1
   simp only[B1,Bool.not_eq_true']at h1
   obtain⟨a1,a2,a3⟩:=h1
   have ht:=B2 hb
   subst ht
   refine⟨a1,a2,?_⟩
   split at a3
   ·rename_i ks' he;rw[he,iU a3]
   ·cases a3
  |false=>
   rw[hb,B5]at e
   exact o8 h.2 t i ks e hk
theorem xx {P:Program} {ti:List (Nat×TI (X:=X))} {d:Nat} (hd:d≤10000) (ht:eu P ti=true) (he:pI P d ti=true):
  ∀t i ks,look ti t=some i→i.eqk=some ks→∀(ρ:List Loc) (xs ys:List AV) (vx vy:List Value) (r:Bool) (w:World),ay ks xs ys=some r→ab ρ xs=some vx→ab ρ ys=some vy→
  P.eqGuardType P.depth t=false∧(Op.equalIn 10000 t (.agg vx.toArray) (.agg vy.toArray)).run P w= .ok r w:=by
 intro t i ks h1 h2 ρ xs ys vx vy r w hc hx hy
 obtain⟨a1,a2,a3⟩:=o8 he t i ks h1 h2
 obtain⟨dsc,u1,u2⟩:=(ao ht t i h1).und
 refine⟨a2,?_⟩
 have:=jT (w:=w) d (10000-d) t ks a3 xs ys vx vy (.agg vx.toArray) (.agg vy.toArray) r hc hx hy ⟨dsc,u1, .inl ⟨by rw[u2];exact a1,rfl⟩⟩ ⟨dsc,u1, .inl ⟨by rw[u2];exact a1,rfl⟩⟩
 rwa[show d+(10000-d)=10000 by omega]at this
end
end Go.Proofs.Ytdadgkgkdgnihaa.Px
