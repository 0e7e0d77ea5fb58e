/- Regions that draw their order, whose operations turn nothing. -/
import Derived.Test.YtdadgkgkdgnihaaPxSound
import Derived.Deep.Quiet
set_option linter.unusedVariables false
set_option linter.unusedSimpArgs false
namespace Go.Proofs.Ytdadgkgkdgnihaa.Px
open Go Go.RowKit
section
variable [X:aS] {P:Program} {G:World→Prop} {cfg:Cfg (X:=X)} {w0:aN} {R:Type} {fail:R} {φ:R→Prop}
def lS (op:Op):Prop:=aq op=some 0∨aq op=some 1∨aq op=some 2
def eI (cfg:Cfg (X:=X)):Cfg (X:=X):={cfg with H:=[],apn:=false}
theorem QOk.q (h:QOk P G cfg):QOk P G (eI cfg):={h with}
theorem ke {hp:List (Blk (X:=X))} {tm:List Slot} {cs:List (Nat×Bool)} {op:Op} (h:lS op):aA (eI cfg) hp tm cs op=none:=by
 cases op<;>simp[lS,aq]at h<;>simp only[aA]
 rename_i c
 split
 ·split
  ·split
   ·split
    ·split
     ·rename_i el _
      simp[eI]
     ·rfl
    ·rfl
   ·rfl
  ·split
   ·rfl
   ·rfl
  ·rfl
 ·rfl
theorem eZ {ρ:List Loc} {hp:List (Blk (X:=X))} {a:Act} {w:World} {o:Oper} {x:Value} (hr:HR w0 ρ hp w) (h:dw P w x ((execOp a.eval o).run P w)):o.quietAt P a (HR w0 ρ hp) w x:=by
 unfold Oper.quietAt
 generalize (execOp a.eval o).run P w=r at*
 cases r with
 |halt y w'=>simp only[dw]at h
 |ok n w'=>
  cases n<;>simp only[dw]at h<;>simp only[Oper.quietUpon]
  case value u=>exact h
  case enter f args=>exact⟨h.1,h.2.mono fun e w'' ⟨he,hb⟩=>⟨he,hr.grow hb⟩⟩
theorem hU (hf0:¬φ fail) (hq:QOk P G cfg) (hG:G w0.w) {hasG:Bool} {cs:List (Nat×Bool)} {o:Oper} {s:St (X:=X)} {K:St (X:=X)→R} {ρ:List Loc} {a:Act} {w1:World}
  (hk:lS o.op) (h:φ (iL (eI cfg) fail (fun _ _ _ _=>fail) hasG cs o s K)) (hf:FR ρ s.tm a) (h1:HR w0 ρ s.hp w1) (hc:ai s.tm cs=true) (hg:hasG=false→ae s.tm):
  ∃x,(∀w,HR w0 ρ s.hp w→o.quietAt P a (HR w0 ρ s.hp) w x)∧∃s',φ (K s')∧FR ρ s'.tm (a.put o.dst x)∧s'.hp=s.hp∧(hasG=false→ae s'.tm):=by
 rw[gg]at h
 unfold kp at h
 split at h
 ·rename_i ok v hp
  cases ok with
  |false=>exact absurd h hf0
  |true=>
   rw[B4]at h
   obtain⟨x,hx,_⟩:=bg (cfg:=eI cfg) hq.q hG hf hc h1 hp rfl
   refine⟨x,fun w hw=>?_,dq hf0 h hf hg hx⟩
   obtain⟨y,hy,hres⟩:=bg (cfg:=eI cfg) hq.q hG hf hc hw hp rfl
   rw[hx]at hy
   simp only[B0]at hy
   subst hy
   exact eZ hw hres
 ·split at h
  ·rename_i c x y hop
   split at h
   ·rename_i v hv
    obtain⟨dst,op,ty,pos,after,gd⟩:=o
    simp only at hop
    subst hop
    obtain⟨z,hz,_⟩:=dU (P:=P) (w:=w1) (dst:=dst) (ty:=ty) (pos:=pos) (after:=after) (gd:=gd) hf hc hv
    refine⟨z,fun w hw=>?_,dq hf0 h hf hg hz⟩
    obtain⟨z',hz',hrun⟩:=dU (P:=P) (w:=w) (dst:=dst) (ty:=ty) (pos:=pos) (after:=after) (gd:=gd) hf hc hv
    rw[hz]at hz'
    simp only[B0]at hz'
    subst hz'
    exact eZ hw (.value hrun)
   ·split at h
    ·rename_i t _
     split at h
     ·rename_i ds g hb
      cases hds:ds.all (bW cs)with
      |false=>rw[hds]at h;exact absurd h hf0
      |true=>
       rw[hds,B4]at h
       obtain⟨dst,op,ty,pos,after,gd⟩:=o
       simp only at hop
       subst hop
       have key:∃v,rd s.tm ((t,g)::cs) (if g then x else y)=some v∧φ (du fail hasG ⟨dst, .pick (.tmp t) x y,ty,pos,after,gd⟩ (.is v) s K):=by
        cases g with
        |true=>
         rw[B4]at h
         split at h
         ·rename_i v hv;exact⟨v,hv,h⟩
         ·exact absurd h hf0
        |false=>
         rw[B5]at h
         split at h
         ·rename_i v hv;exact⟨v,hv,h⟩
         ·exact absurd h hf0
       obtain⟨v,hv,h⟩:=key
       obtain⟨z,hz,_⟩:=ir (P:=P) (w:=w1) (dst:=dst) (ty:=ty) (pos:=pos) (after:=after) (gd:=gd) hf hc hb hds hv
       refine⟨z,fun w hw=>?_,dq hf0 h hf hg hz⟩
       obtain⟨z',hz',hrun⟩:=ir (P:=P) (w:=w) (dst:=dst) (ty:=ty) (pos:=pos) (after:=after) (gd:=gd) hf hc hb hds hv
       rw[hz]at hz'
       simp only[B0]at hz'
       subst hz'
       exact eZ hw (.value hrun)
     ·exact absurd h hf0
    ·exact absurd h hf0
  ·rw[ke hk]at h
   simp only at h
   split at h
   ·split at h
    ·split at h
     ·rw[Bool.cond_self]at h;exact absurd h hf0
     ·exact absurd h hf0
     ·exact absurd h hf0
    ·split at h
     ·split at h
      ·rw[Bool.cond_self]at h;exact absurd h hf0
      ·exact absurd h hf0
     ·exact absurd h hf0
    ·exact absurd h hf0
   ·exact absurd h hf0
theorem iN (hf0:¬φ fail) (hq:QOk P G cfg) (hG:G w0.w) {ops:Array Oper} {hasG:Bool} {hp:List (Blk (X:=X))} {ρ:List Loc} {w1:World} (h1:HR w0 ρ hp w1) {K:St (X:=X)→R}:∀(l:List Oper),(∀o∈l,lS o.op)→∀{s:St (X:=X)} {a:Act},
  φ (cn (eI cfg) fail (fun _ _ _ _=>fail) ops.toList hasG l s K)→s.hp=hp→FR ρ s.tm a→(hasG=false→ae s.tm)→
  wpQuiet P ops (HR w0 ρ hp) (fun a'=>∃s',φ (K s')∧FR ρ s'.tm a'∧s'.hp=hp∧(hasG=false→ae s'.tm)) l a
 | [],_,s,a,h,hh,hf,hg=>⟨s,h,hf,hh,hg⟩
 |o::l,hk,s,a,h,hh,hf,hg=>by
  have hko:=hk o (List.mem_cons_self ..)
  have hkl:∀o∈l,lS o.op:=fun o ho=>hk o (List.mem_cons_of_mem _ ho)
  subst hh
  have next:∀(x:Value),(∃s',φ (cn (eI cfg) fail (fun _ _ _ _=>fail) ops.toList hasG l s' K)∧FR ρ s'.tm (a.put o.dst x)∧s'.hp=s.hp∧(hasG=false→ae s'.tm))→
    wpQuiet P ops (HR w0 ρ s.hp) (fun a'=>∃s',φ (K s')∧FR ρ s'.tm a'∧s'.hp=s.hp∧(hasG=false→ae s'.tm)) l (a.put o.dst x):=by
   rintro x ⟨s',b1,b2,b3,b4⟩
   exact iN hf0 hq hG h1 l hkl b1 b3 b2 b4
  unfold wpQuiet
  unfold cn fR at h
  split at h
  ·rename_i hgd
   rw[if_pos (by simp[Region.wanted,hgd])]
   obtain⟨x,hx,hn⟩:=hU hf0 hq hG hko h hf h1 rfl hg
   exact⟨x,hx,next x hn⟩
  ·rename_i g pol hgd
   split at h
   ·rename_i og hog
    split at h
    ·rename_i tg htg
     split at h
     ·rename_i ds b hb
      rw[ak]at hog
      have hog':ops[g]?=some og:=by simpa using hog
      have hwant:=mh hf hgd hog' htg hb
      rw[hwant]
      split at h
      ·rename_i ok v hp
       cases hhb:ai s.tm (ds++[(tg,pol)])with
       |true=>
        rw[hhb]at h
        cases ok with
        |false=>exact absurd h hf0
        |true=>
         simp only[Bool.not_true,Bool.or_false,B4]at h
         simp only[if_true]
         obtain⟨x,hx,_⟩:=bg (cfg:=eI cfg) hq.q hG hf hhb h1 hp rfl
         refine⟨x,fun w hw=>?_,next x (dq hf0 h hf hg ⟨fun _=>hx,(fun e=>by rw[hhb]at e;cases e)⟩)⟩
         obtain⟨y,hy,hres⟩:=bg (cfg:=eI cfg) hq.q hG hf hhb hw hp rfl
         rw[hx]at hy
         simp only[B0]at hy
         subst hy
         exact eZ hw hres
       |false=>
        rw[hhb]at h
        simp only[Bool.not_false,Bool.or_true,B4]at h
        simp only[Bool.false_eq_true,if_false]
        exact next undef (dq hf0 h hf hg ⟨(fun e=>by rw[hhb]at e;cases e),fun _=>rfl⟩)
      ·split at h
       ·rename_i c x y hop
        split at h
        ·rename_i v hv
         cases hhb:ai s.tm (ds++[(tg,pol)])with
         |true=>
          simp only[if_true]
          obtain⟨dst,op,ty,pos,after,gd⟩:=o
          simp only at hop
          subst hop
          obtain⟨z,hz,_⟩:=dU (P:=P) (w:=w1) (dst:=dst) (ty:=ty) (pos:=pos) (after:=after) (gd:=gd) hf hhb hv
          refine⟨z,fun w hw=>?_,next z (dq hf0 h hf hg ⟨fun _=>hz,(fun e=>by rw[hhb]at e;cases e)⟩)⟩
          obtain⟨z',hz',hrun⟩:=dU (P:=P) (w:=w) (dst:=dst) (ty:=ty) (pos:=pos) (after:=after) (gd:=gd) hf hhb hv
          rw[hz]at hz'
          simp only[B0]at hz'
          subst hz'
          exact eZ hw (.value hrun)
         |false=>
          simp only[Bool.false_eq_true,if_false]
          exact next undef (dq hf0 h hf hg ⟨(fun e=>by rw[hhb]at e;cases e),fun _=>rfl⟩)
        ·cases hhb:ai s.tm (ds++[(tg,pol)])with
         |true=>
          rw[hhb,B4]at h
          simp only[if_true]
          obtain⟨x,hx,hn⟩:=hU hf0 hq hG hko h hf h1 hhb hg
          exact⟨x,hx,next x hn⟩
         |false=>
          rw[hhb,B5]at h
          simp only[Bool.false_eq_true,if_false]
          exact next undef (dq hf0 h hf hg ⟨(fun e=>by rw[hhb]at e;cases e),fun _=>rfl⟩)
       ·cases hhb:ai s.tm (ds++[(tg,pol)])with
        |true=>
         rw[hhb,B4]at h
         simp only[if_true]
         obtain⟨x,hx,hn⟩:=hU hf0 hq hG hko h hf h1 hhb hg
         exact⟨x,hx,next x hn⟩
        |false=>
         rw[hhb,B5]at h
         simp only[Bool.false_eq_true,if_false]
         exact next undef (dq hf0 h hf hg ⟨(fun e=>by rw[hhb]at e;cases e),fun _=>rfl⟩)
     ·exact absurd h hf0
    ·exact absurd h hf0
   ·exact absurd h hf0
theorem fA {ρ:List Loc} {hp:List (Blk (X:=X))} {w:World} (h:HR w0 ρ hp w):HR w0 ρ hp {w with drawn:=w.drawn+1}:=h.grow ⟨rfl,rfl,rfl,Nat.le_refl _,fun _ _=>rfl⟩
omit X in
theorem o6 {P:Program} {ops:Array Oper} {C:World→Prop} {rn:Option Nat} (hnd:∀o∈ops.toList,∀c,o.op≠ .defer c) {i:Nat} {a:Act} {K:Act→Prop} {K':Act→World→Prop} {Q':Exit→Act→World→Prop} {w:World} (hC:C w) (h:∀a w',C w'→K a→K' a w') (hh:qOp P ops C i K a):wpOpIn (Wd rn) 0 P ops Q' i K' a w:=by
 unfold qOp at hh
 unfold wpOpIn
 split
 ·rename_i ho;simp only[ho]at hh;exact h _ _ hC hh
 ·rename_i o ho
  simp only[ho]at hh
  split
  ·rename_i hw;simp only[hw,if_true]at hh;exact inW (Oper.wp_of_quiet hC h hh) (hnd o (by simpa using Array.mem_of_getElem? ho))
  ·rename_i hw;simp only[hw]at hh;exact⟨fun _ _=>trivial,h _ _ hC hh⟩
omit X in
theorem fL {P:Program} {ops:Array Oper} {C:World→Prop} {rn:Option Nat} (hnd:∀o∈ops.toList,∀c,o.op≠ .defer c) {md:Region.Mode} {Q:Act→Prop} {Q':Exit→Act→World→Prop} (hQ:∀a w,C w→Q a→Q' .normal a w):∀(fuel:Nat) (listed:Array Bool) (a:Act) (w:World),C w→
  wpAnyQ P md ops C Q fuel listed a→wpAnyIn (Wd rn) 0 P md ops Q' fuel listed a w
 |0,_,_,_,hw,h=>⟨h.1,hQ _ _ hw h.2⟩
 |fuel+1,_,_,_,hw,h=>⟨fun h0=>hQ _ _ hw (h.1 h0),fun i hi=>o6 hnd hw (fun a' w' hw'=>fL hnd hQ fuel _ a' w' hw') (h.2 i hi)⟩
omit X in
theorem j8 {P:Program} {ops:Array Oper} {C:World→Prop} {rn:Option Nat} (hnd:∀o∈ops.toList,∀c,o.op≠ .defer c) {id:Nat} {Q:Exit→Act→World→Prop} {a:Act} {w:World} (hm:P.follows .mixedOrders=true) (hB:Region.lexB .any ops=true) (hC:C {w with drawn:=w.drawn+1})
  (h:wpQuiet P ops C (fun a'=>∀w',C w'→Q .normal a' w') ops.toList a):(Code.region id ops true).wpIn (Wd rn) 0 P Q a w:=by
 simp only[Region.lexB,B1]at hB
 refine wpIn_region_any hm (fL hnd (Q:=fun a'=>∀w',C w'→Q .normal a' w') (fun _ w' hw' h=>h w' hw') _ _ _ _ hC ?_)
 have:=wpAnyQ_lex (C:=C) (md:= .any) hB.1 ops.toList 0 (Array.replicate ops.size false) a (by simp) (by simpa using hB.2) h
 simpa using this
theorem uc (hm:P.follows .mixedOrders=true) (hf0:¬φ fail) (hq:QOk P G cfg) (hG:G w0.w) {id:Nat} {ops:Array Oper} {s:St (X:=X)} {K:St (X:=X)→R} {ρ:List Loc} {a:Act} {w:World} {rn:Option Nat}
  (hk:jj ops.toList=true) (h:φ (bD (eI cfg) fail (fun _ _ _ _=>fail) ops.toList s K)) (hf:FR ρ s.tm a) (hr:HR w0 ρ s.hp w) (hg:ae s.tm):(Code.region id ops true).wpIn (Wd rn) 0 P (bw (Next w0 φ ρ false K)) a w:=by
 simp only[jj,B1,List.all_eq_true]at hk
 obtain⟨hk1,hk2⟩:=hk
 have hk3:∀o∈ops.toList,lS o.op:=by
  intro o ho
  have:=hk1 o ho
  split at this
  ·rename_i e;exact .inl e
  ·rename_i e;exact .inr (.inl e)
  ·rename_i e;exact .inr (.inr e)
  ·cases this
 have hnd:∀o∈ops.toList,∀c,o.op≠ .defer c:=fun o ho c e=>by
  have:=hk1 o ho
  rw[e]at this
  simp[aq]at this
 refine j8 hnd (C:=HR w0 ρ s.hp) hm (by simpa using hk2) (fA hr) ?_
 have mono:∀(l:List Oper) (a:Act) (Q Q':Act→Prop),(∀a,Q a→Q' a)→wpQuiet P ops (HR w0 ρ s.hp) Q l a→wpQuiet P ops (HR w0 ρ s.hp) Q' l a:=by
  intro l
  induction l with
  |nil=>intro a Q Q' hQ h;exact hQ _ h
  |cons o l ih=>
   intro a Q Q' hQ h
   unfold wpQuiet at h⊢
   split
   ·rename_i hw;rw[if_pos hw]at h;exact Oper.quiet_mono (fun a h=>ih a Q Q' hQ h) h
   ·rename_i hw;rw[if_neg hw]at h;exact ih _ Q Q' hQ h
 rw[ec]at h
 unfold dK at h
 split at h
 ·refine mono _ _ _ _ ?_ (iN hf0 hq hG hr ops.toList hk3 h rfl hf (fun _=>hg))
  rintro a' ⟨s',b1,b2,b3,_⟩ w' hw'
  exact⟨_,ρ,b1,List.prefix_refl _,b2.clear,by simp only[b3];exact hw',fun _=>bR _⟩
 ·refine mono _ _ _ _ ?_ (iN hf0 hq hG hr ops.toList hk3 h rfl hf (fun _=>hg))
  rintro a' ⟨s',b1,b2,b3,b4⟩ w' hw'
  exact⟨s',ρ,b1,List.prefix_refl _,b2,by rw[b3];exact hw',b4⟩
end
end Go.Proofs.Ytdadgkgkdgnihaa.Px


namespace Go.Proofs.Ytdadgkgkdgnihaa.Px
open Go Go.RowKit
section
variable [X:aS] {P:Program} {G:World→Prop} {cfg:Cfg (X:=X)} {w0:aN} {R:Type} {fail:R} {φ:R→Prop}
inductive cP (cfg:Cfg (X:=X)) (o:Oper) (s:St (X:=X)):St (X:=X)→Prop where
 |pure (v:AV) (h:af (eI cfg) s.hp s.tm [] o.op=some (true,v)) (hk:aq o.op≠some 3):cP cfg o s (cD s o.dst (.is v))
 |store (hp:List (Blk (X:=X))) (h:aA (eI cfg) s.hp s.tm [] o.op=some (true,none,hp)) (hd:o.dst=none) (hk:aq o.op=some 3):cP cfg o s {s with hp:=hp}
theorem gn {hp:List (Blk (X:=X))} {tm:List Slot} {cs:List (Nat×Bool)} {op:Op} (h:aq op=some 3):af cfg hp tm cs op=none:=by
 cases op<;>simp[aq]at h<;>rfl
theorem tp (hf0:¬φ fail) {o:Oper} {i:Nat} (hone:iE i o=true) {s:St (X:=X)} {K:St (X:=X)→R} (h:φ (iL (eI cfg) fail (fun _ _ _ _=>fail) false [] o s K)):∃s',cP cfg o s s'∧φ (K s'):=by
 simp only[iE,B1]at hone
 obtain⟨_,_,hkind⟩:=hone
 rw[gg]at h
 unfold kp at h
 split at h
 ·rename_i ok v hp
  cases ok with
  |false=>exact absurd h hf0
  |true=>
   rw[B4]at h
   have hk:aq o.op≠some 3:=fun e=>by have:=gn (cfg:=eI cfg) (hp:=s.hp) (tm:=s.tm) (cs:=[]) e;rw[this]at hp;cases hp
   refine⟨_, .pure v hp hk,?_⟩
   rw[gK]at h
   unfold lX at h
   unfold cD
   split at h
   ·rename_i hd;rw[hd];exact h
   ·rename_i d hd;rw[hd];exact h
 ·split at h
  ·rename_i c x y hop
   rw[hop]at hkind
   simp at hkind
  ·rename_i hnp
   split at h
   ·rename_i ok v hp' he
    -- only a store is there, and it yields nothing
    cases hop:o.op<;>rw[hop]at hkind he<;>simp[aq]at hkind<;>simp only[aA]at he<;>try (cases he;done)
    ·rename_i t x y
     split at he
     ·simp only[Option.map_eq_some_iff,Prod.mk.injEq]at he
      obtain⟨⟨_,_⟩,_,_,e,_⟩:=he
      cases e
     ·cases he
    ·rename_i c
     have:=ke (cfg:=cfg) (hp:=s.hp) (tm:=s.tm) (cs:=[]) (op:= .call c) (.inr (.inr rfl))
     simp only[aA]at this
     rw[this]at he
     cases he
   ·rename_i ok hp' he
    cases ok with
    |false=>exact absurd h hf0
    |true=>
     rw[B4]at h
     have hk:aq o.op=some 3:=by
      cases hop:o.op<;>rw[hop]at hkind he<;>simp[aq]at hkind<;>simp only[aA]at he<;>try (cases he;done)
      ·rfl
      ·rename_i c
       have:=ke (cfg:=cfg) (hp:=s.hp) (tm:=s.tm) (cs:=[]) (op:= .call c) (.inr (.inr rfl))
       simp only[aA]at this
       rw[this]at he
       cases he
     have hd:o.dst=none:=by
      cases hop:o.op<;>rw[hop]at hk<;>simp[aq]at hk
      rw[hop]at hkind
      simp only[aq]at hkind
      split at hkind
      ·assumption
      ·cases hkind
     refine⟨_, .store hp' he hd hk,?_⟩
     rw[gK]at h
     unfold lX at h
     rw[hd]at h
     exact h
   ·split at h
    ·split at h
     ·split at h
      ·simp only[Bool.cond_self]at h;exact absurd h hf0
      ·exact absurd h hf0
      ·exact absurd h hf0
     ·split at h
      ·split at h
       ·simp only[Bool.cond_self]at h;exact absurd h hf0
       ·exact absurd h hf0
      ·exact absurd h hf0
     ·exact absurd h hf0
    ·exact absurd h hf0
theorem sq (hf0:¬φ fail) {ops:List Oper}:∀(l:List Oper) (i:Nat),(∀j o,l[j]?=some o→iE (i+j) o=true)→∀{s:St (X:=X)} {K:St (X:=X)→R},φ (cn (eI cfg) fail (fun _ _ _ _=>fail) ops false l s K)→
  ∃S:Nat→St (X:=X),S 0=s∧(∀k o,l[k]?=some o→cP cfg o (S k) (S (k+1)))∧φ (K (S l.length))
 | [],i,_,s,K,h=>⟨fun _=>s,rfl,fun k o hk=>by simp at hk,h⟩
 |o::l,i,hone,s,K,h=>by
  have h0:=hone 0 o rfl
  unfold cn fR at h
  have hgd:o.guard=none:=by
   simp only[iE,B1]at h0
   have:=h0.1
   split at this
   ·assumption
   ·cases this
  rw[hgd]at h
  obtain⟨s1,hs1,h1⟩:=tp (cfg:=cfg) hf0 h0 h
  obtain⟨S,hS0,hS,hK⟩:=sq hf0 l (i+1) (fun j o hj=>by have:=hone (j+1) o (by simpa using hj);rwa[show i+(j+1)=i+1+j by omega]at this) h1
  refine⟨fun k=>match k with
   |0=>s
   |k+1=>S k,rfl,fun k o' hk=>?_,hK⟩
  cases k with
  |zero=>simp only[List.getElem?_cons_zero,B0]at hk;subst hk;show cP cfg o s (S 0);rw[hS0];exact hs1
  |succ k=>exact hS k o' (by simpa using hk)
theorem cP.AF {o:Oper} {s s':St (X:=X)} (h:cP cfg o s s'):s'.tm.length=s.tm.length:=by
 cases h with
 |pure v _ _=>unfold cD;split<;>simp[au]
 |store=>rfl
theorem cP.xn {o:Oper} {s s':St (X:=X)} (h:cP cfg o s s') {t:Nat} (ht:o.dst≠some t):s'.tm[t]?=s.tm[t]?:=by
 cases h with
 |pure v _ _=>
  unfold cD
  split
  ·rename_i d hd
   simp only[au]
   rw[List.getElem?_set_ne (fun e=>ht (by rw[hd,e]))]
  ·rfl
 |store=>rfl
theorem cP.gI {o:Oper} {s s':St (X:=X)} (h:cP cfg o s s') (hk:aq o.op≠some 3):s'.hp=s.hp:=by
 cases h with
 |pure v _ _=>unfold cD;split<;>rfl
 |store _ _ _ hk'=>exact absurd hk' hk
theorem cP.ae {o:Oper} {s s':St (X:=X)} (h:cP cfg o s s') (hn:ae s.tm):ae s'.tm:=by
 cases h with
 |pure v _ _=>
  unfold cD
  split
  ·simp only[au];exact eS hn rfl
  ·exact hn
 |store=>exact hn
def iG (o:Oper) (tm tm':List Slot):Prop:=∀t,a6 o t=true→tm'[t]?=tm[t]?
omit X in
theorem aw {tm tm':List Slot} {cs:List (Nat×Bool)} {x:Operand} (h:∀t,x= .tmp t→tm'[t]?=tm[t]?):rd tm' cs x=rd tm cs x:=by
 cases x with
 |tmp t=>simp only[rd,ak,h t rfl]
 |_=>rfl
omit X in
theorem fW {tm tm':List Slot} {cs:List (Nat×Bool)}:∀{l:List Operand},(∀t, .tmp t∈l→tm'[t]?=tm[t]?)→rds tm' cs l=rds tm cs l
 | [],_=>rfl
 |x::l,h=>by
  simp only[rds]
  rw[aw (fun t e=>h t (by rw[e];exact List.mem_cons_self ..)),fW (fun t ht=>h t (List.mem_cons_of_mem _ ht))]
omit X in
theorem iq {tm tm':List Slot} {cs:List (Nat×Bool)}:∀{l:List (Nat×Operand)},(∀t, .tmp t∈l.map (·.2)→tm'[t]?=tm[t]?)→parts tm' cs l=parts tm cs l
 | [],_=>rfl
 |(i,x)::l,h=>by
  simp only[parts]
  rw[aw (fun t e=>h t (by rw[←e];exact List.mem_cons_self ..)),iq (fun t ht=>h t (List.mem_cons_of_mem _ ht))]
omit X in
theorem fV {o:Oper} {tm tm':List Slot} (h:iG o tm tm') (t:Nat) (ht: .tmp t∈o.op.operands.toList):tm'[t]?=tm[t]?:=by
 refine h t ?_
 simp only[a6,List.any_eq_true]
 exact⟨.tmp t,ht,by simp⟩
omit X in
theorem dk {tm tm':List Slot} {cs:List (Nat×Bool)} {d:Int} {o:Option Operand} (h:∀x,o=some x→rd tm' cs x=rd tm cs x):cM tm' cs d o=cM tm cs d o:=by
 cases o with
 |none=>rfl
 |some x=>simp only[cM,h x rfl]
theorem cA {cs:List (Nat×Bool)} {o:Oper} {hp hp':List (Blk (X:=X))} {tm tm':List Slot} (h:iG o tm tm') (hm:aq o.op=some 0∨hp'=hp∨(∃t x,o.op= .load t x∧∀(v:AV) (i:Bool×Nat),rd tm cs x=some v→loadAt (X:=X) i.1 i.2 hp' v=loadAt i.1 i.2 hp v)):
  af cfg hp' tm' cs o.op=af cfg hp tm cs o.op:=by
 have hr:=fV h
 obtain⟨dst,op,ty,pos,after,gd⟩:=o
 simp only at*
 cases op with
 |move x=>simp only[af];rw[aw (fun t e=>hr t (by simp[Op.operands,e]))]
 |assign x=>simp only[af];rw[aw (fun t e=>hr t (by simp[Op.operands,e]))]
 |nilCheck x=>simp only[af];rw[aw (fun t e=>hr t (by simp[Op.operands,e]))]
 |binOp op t x y ty2=>simp only[af];rw[aw (x:=x) (fun t e=>hr t (by simp[Op.operands,e])),aw (x:=y) (fun t e=>hr t (by simp[Op.operands,e]))]
 |unOp op t x=>simp only[af];rw[aw (fun t e=>hr t (by simp[Op.operands,e]))]
 |convert s d x=>simp only[af];rw[aw (fun t e=>hr t (by simp[Op.operands,e]))]
 |field t x f=>simp only[af];rw[aw (fun t e=>hr t (by simp[Op.operands,e]))]
 |index t x y=>simp only[af];rw[aw (x:=x) (fun t e=>hr t (by simp[Op.operands,e])),aw (x:=y) (fun t e=>hr t (by simp[Op.operands,e]))]
 |extract x i=>simp only[af];rw[aw (fun t e=>hr t (by simp[Op.operands,e]))]
 |fieldAddr t x f=>simp only[af];rw[aw (fun t e=>hr t (by simp[Op.operands,e]))]
 |indexAddr t x y=>simp only[af];rw[aw (x:=x) (fun t e=>hr t (by simp[Op.operands,e])),aw (x:=y) (fun t e=>hr t (by simp[Op.operands,e]))]
 |build t ps=>simp only[af];rw[iq (fun t ht=>hr t (by simpa[Op.operands]using ht))]
 |makeFunc fn f c=>
  cases fn<;>simp only[af]
  rw[fW (l:=f.toList) (fun t ht=>hr t (by simp[Op.operands];exact .inl (by simpa using ht))),fW (l:=c.toList) (fun t ht=>hr t (by simp[Op.operands];exact .inr (by simpa using ht)))]
 |lookup t x ix ok2=>
  cases ok2 with
  |false=>simp only[af]
  |true=>
   rcases hm with h0|rfl|⟨_,_,h0,_⟩
   ·simp[aq]at h0
   ·simp only[af];rw[aw (x:=x) (fun t e=>hr t (by simp[Op.operands,e])),aw (x:=ix) (fun t e=>hr t (by simp[Op.operands,e]))]
   ·cases h0
 |makeInterface t x=>simp only[af];rw[aw (fun t e=>hr t (by simp[Op.operands,e]))]
 |slice t x lo hi mx=>
  cases mx with
  |some m=>simp only[af]
  |none=>
   rcases hm with h0|rfl|⟨_,_,h0,_⟩
   ·simp[aq]at h0
   ·simp only[af]
    rw[aw (x:=x) (fun t e=>hr t (by simp[Op.operands,e])),dk (o:=lo) (fun y e=>aw (fun t e'=>hr t (by simp[Op.operands,e,e']))),dk (o:=hi) (fun y e=>aw (fun t e'=>hr t (by simp[Op.operands,e,e'])))]
   ·cases h0
 |load t x=>
  have e1:rd tm' cs x=rd tm cs x:=aw (fun t e=>hr t (by simp[Op.operands,e]))
  simp only[af,e1]
  rcases hm with hm|rfl|⟨t',x',e,hl⟩
  ·simp[aq]at hm
  ·rfl
  ·simp only[Op.load.injEq]at e
   obtain⟨rfl,rfl⟩:=e
   split
   ·rename_i v i hv _
    rw[hl v (i.agg,i.size) hv]
   ·rfl
 |call c=>
  have e1:rds tm' cs c.args.toList=rds tm cs c.args.toList:=fW (fun t ht=>hr t (by simp[Op.operands,Call.operands];exact .inr (by simpa using ht)))
  rcases hm with hm|rfl|⟨t',x',e,_⟩
  ·simp[aq]at hm
  ·simp only[af,e1]
   split
   ·split
    ·rfl
    ·rename_i f hcal
     rw[aw (x:=f) (fun t e=>hr t (by simp[Op.operands,Call.operands,hcal,e]))]
    ·rename_i f m hcal
     rw[aw (x:=f) (fun t e=>hr t (by simp[Op.operands,Call.operands,hcal,e]))]
   ·rfl
  ·cases e
 |_=>simp only[af]
theorem iQ {o:Oper} {hp:List (Blk (X:=X))} {tm tm':List Slot} (h:iG o tm tm') (hk:aq o.op=some 3):aA (eI cfg) hp tm' [] o.op=aA (eI cfg) hp tm [] o.op:=by
 have hr:=fV h
 obtain⟨dst,op,ty,pos,after,gd⟩:=o
 simp only at*
 cases op<;>simp[aq]at hk
 rename_i t x y
 simp only[aA]
 rw[aw (x:=x) (fun t e=>hr t (by simp[Op.operands,e])),aw (x:=y) (fun t e=>hr t (by simp[Op.operands,e]))]
end
end Go.Proofs.Ytdadgkgkdgnihaa.Px


namespace Go.Proofs.Ytdadgkgkdgnihaa.Px
open Go Go.RowKit
section
variable [X:aS] {P:Program} {G:World→Prop} {cfg:Cfg (X:=X)} {w0:aN} {R:Type} {fail:R} {φ:R→Prop}
omit X in
theorem cE {α:Type}:∀(l:List α) (i j:Nat) (x:α),l[j]?=some x→(i+j,x)∈idx i l
 | [],i,j,x,h=>by simp at h
 |y::l,i,0,x,h=>by simp only[List.getElem?_cons_zero,B0]at h;subst h;simp[idx]
 |y::l,i,j+1,x,h=>by
  have:=cE l (i+1) j x (by simpa using h)
  rw[show i+(j+1)=i+1+j by omega]
  simp only[idx,List.mem_cons]
  exact .inr this
structure SK (ops:List Oper) (s:St (X:=X)):Prop where
 one:∀(i:Nat) (o:Oper),ops[i]?=some o→iE i o=true
 pair:∀(i j:Nat) (o p:Oper),ops[i]?=some o→ops[j]?=some p→qU ops s i o j p=true
theorem SK.of {ops:List Oper} {s:St (X:=X)} (h:jb ops s=true):SK ops s:=by
 simp only[jb,List.all_eq_true,B1]at h
 refine⟨fun i o hi=>?_,fun i j o p hi hj=>?_⟩
 ·have:=cE ops 0 i o hi
  rw[Nat.zero_add]at this
  exact(h _ this).1
 ·have h1:=cE ops 0 i o hi
  have h2:=cE ops 0 j p hj
  rw[Nat.zero_add]at h1 h2
  exact(h _ h1).2 _ h2
variable {ops:List Oper} {s0:St (X:=X)} {S:Nat→St (X:=X)}
theorem SK.look (hk:SK ops s0) {i j:Nat} {o p:Oper} (hi:ops[i]?=some o) (hj:ops[j]?=some p) (hne:i≠j) {d:Nat} (hd:p.dst=some d):(a6 o d=true→j<i∧aW o j=true)∧o.dst≠some d:=by
 have h:=hk.pair i j o p hi hj
 unfold qU at h
 have hb:Nat.beq i j=false:=by
  cases hb:Nat.beq i j with
  |false=>rfl
  |true=>exact absurd (B2 hb) hne
 rw[hb,B5,B1]at h
 have h1:=h.1
 rw[hd]at h1
 simp only[B1]at h1
 refine⟨fun hl=>?_,fun e=>?_⟩
 ·have:=h1.1
  rw[hl,B4,B1]at this
  exact⟨by have:=this.1;simpa[Nat.blt_eq]using this,this.2⟩
 ·have:=h1.2
  rw[e]at this
  simp at this
theorem SK.mem (hk:SK ops s0) {i j:Nat} {o p:Oper} (hi:ops[i]?=some o) (hj:ops[j]?=some p) (hne:i≠j) (hp:aq p.op=some 3):
  (aq o.op=some 3→j<i→aW o j=true)∧(aq o.op=some 1→(j<i∧aW o j=true)∨(i<j∧aW p i=true)∨lz ops s0 o.op p.op=true)∧(aq o.op=some 2→(j<i∧aW o j=true)∨(i<j∧aW p i=true)):=by
 have h:=hk.pair i j o p hi hj
 unfold qU at h
 have hb:Nat.beq i j=false:=by
  cases hb:Nat.beq i j with
  |false=>rfl
  |true=>exact absurd (B2 hb) hne
 rw[hb,B5,B1]at h
 have h2:=h.2
 rw[hp]at h2
 refine⟨fun e hlt=>?_,fun e=>?_,fun e=>?_⟩
 ·rw[e]at h2
  have:Nat.blt j i=true:=by rw[Nat.blt_eq];exact hlt
  simpa[this]using h2
 ·rw[e]at h2
  simp only[Bool.or_eq_true,B1,Nat.blt_eq]at h2
  rcases h2 with(h2|h2)|h2
  ·exact .inl h2
  ·exact .inr (.inl h2)
  ·exact .inr (.inr h2)
 ·rw[e]at h2
  simp only[Bool.or_eq_true,B1,Nat.blt_eq]at h2
  exact h2
structure Run (cfg:Cfg (X:=X)) (ops:List Oper) (s0:St (X:=X)) (S:Nat→St (X:=X)):Prop where
 begin:S 0=s0
 step:∀(k:Nat) (o:Oper),ops[k]?=some o→cP cfg o (S k) (S (k+1))
theorem Run.len (hr:Run cfg ops s0 S):∀k,k≤ops.length→(S k).tm.length=s0.tm.length
 |0,_=>by rw[hr.begin]
 |k+1,h=>by rw[(hr.step k ops[k] (List.getElem?_eq_getElem (by omega))).AF];exact hr.len k (by omega)
theorem Run.ae (hr:Run cfg ops s0 S) (h0:ae s0.tm):∀k,k≤ops.length→ae (S k).tm
 |0,_=>by rw[hr.begin];exact h0
 |k+1,h=>(hr.step k ops[k] (List.getElem?_eq_getElem (by omega))).ae (hr.ae h0 k (by omega))
theorem Run.gT (hr:Run cfg ops s0 S) {t i:Nat}:∀j,i≤j→j≤ops.length→(∀k o,i≤k→k<j→ops[k]?=some o→o.dst≠some t)→(S j).tm[t]?=(S i).tm[t]?
 |0,hij,_,_=>by rw[show i=0 by omega]
 |j+1,hij,hj,h=>by
  by_cases e:i=j+1
  ·rw[e]
  ·have hlt:j<ops.length:=by omega
   rw[(hr.step j ops[j] (List.getElem?_eq_getElem hlt)).xn (h j ops[j] (by omega) (by omega) (List.getElem?_eq_getElem hlt))]
   exact hr.gT j (by omega) (by omega) (fun k o h1 h2 h3=>h k o h1 (by omega) h3)
theorem Run.aY (hr:Run cfg ops s0 S) {i:Nat}:∀j,i≤j→j≤ops.length→(∀k o,i≤k→k<j→ops[k]?=some o→aq o.op≠some 3)→(S j).hp=(S i).hp
 |0,hij,_,_=>by rw[show i=0 by omega]
 |j+1,hij,hj,h=>by
  by_cases e:i=j+1
  ·rw[e]
  ·have hlt:j<ops.length:=by omega
   rw[(hr.step j ops[j] (List.getElem?_eq_getElem hlt)).gI (h j ops[j] (by omega) (by omega) (List.getElem?_eq_getElem hlt))]
   exact hr.aY j (by omega) (by omega) (fun k o h1 h2 h3=>h k o h1 (by omega) h3)
theorem Run.written (hr:Run cfg ops s0 S) (hk:SK ops s0) {k t j:Nat} {o:Oper} (ho:ops[k]?=some o) (hd:o.dst=some t) (hkj:k<j) (hj:j≤ops.length):(S j).tm[t]?=(S ops.length).tm[t]?:=
 (hr.gT ops.length (i:=j) hj (Nat.le_refl _) (fun k' o' h1 h2 h3 e=>(hk.look h3 ho (by omega) hd).2 e)).symm
theorem Run.cF (hr:Run cfg ops s0 S) {t j:Nat} (hj:j≤ops.length) (h:∀k o,k<j→ops[k]?=some o→o.dst≠some t):(S j).tm[t]?=s0.tm[t]?:=by
 rw[hr.gT j (i:=0) (Nat.zero_le _) hj (fun k o _ h2 h3=>h k o h2 h3),hr.begin]
structure At (ops:List Oper) (s0:St (X:=X)) (S:Nat→St (X:=X)) (Y:Nat→Prop) (s:St (X:=X)):Prop where
 len:s.tm.length=s0.tm.length
 done:∀(k t:Nat) (o:Oper),ops[k]?=some o→Y k→o.dst=some t→s.tm[t]?=(S ops.length).tm[t]?
 rest:∀t,(∀(k:Nat) (o:Oper),ops[k]?=some o→Y k→o.dst≠some t)→s.tm[t]?=s0.tm[t]?
 heap:∃m,m≤ops.length∧s.hp=(S m).hp∧∀(k:Nat) (o:Oper),ops[k]?=some o→aq o.op=some 3→(Y k↔k<m)
theorem pk {n:Nat} {hp hp':List (Blk (X:=X))} {k o:Nat} {v:AV} {ok:Bool} (h:storeAt n hp (.ptr k o) v=some (ok,hp')) {b:Nat} (hb:b≠k):hp'[b]?=hp[b]?:=by
 simp only[storeAt,ak,au]at h
 split at h
 ·rename_i c hk
  cases hc:(and (Nat.ble 1 n) (and (Nat.beq (cellsOf v).length n) (Nat.ble (o+n) c.length)))with
  |false=>rw[hc]at h;cases h
  |true=>
   rw[hc,B4]at h
   simp only[B0,Prod.mk.injEq]at h
   obtain⟨_,rfl⟩:=h
   rw[List.getElem?_set_ne (fun e=>hb e.symm)]
 ·cases h
theorem cP.lU {s s':St (X:=X)} {o:Oper} (h:cP cfg o s s') (hm:aq o.op=some 3) {kk:Nat} (ha:∀t x y v,o.op= .store t x y→rd s.tm [] x=some v→∃oq,v= .ptr kk oq) {b:Nat} (hb:b≠kk):s'.hp[b]?=s.hp[b]?:=by
 cases h with
 |pure v h hk=>exact absurd hm hk
 |store hp h hd _=>
  cases hop:o.op<;>rw[hop]at hm<;>simp[aq]at hm
  rename_i t x y
  rw[hop]at h
  simp only[aA]at h
  split at h
  ·rename_i p v i hp' hv ht
   obtain⟨oq,rfl⟩:=ha t x y _ hop hp'
   simp only[Option.map_eq_some_iff,Prod.mk.injEq]at h
   obtain⟨⟨ok,h'⟩,hs,_,_,rfl⟩:=h
   exact pk hs hb
  ·cases h
theorem cP.slot {o:Oper} {s s':St (X:=X)} (h:cP cfg o s s') {t:Nat} (hd:o.dst=some t) (hm:aq o.op=some 0):∃v,af (eI cfg) s.hp s.tm [] o.op=some (true,v)∧s'.tm=cO s.tm t (.is v):=by
 cases h with
 |pure v h _=>exact⟨v,h,by rw[hd];rfl⟩
 |store _ _ _ hk=>rw[hm]at hk;cases hk
theorem Run.A4 (hr:Run cfg ops s0 S) (hk:SK ops s0) {t q i:Nat} {p:Oper} (hq:ops[q]?=some p) (hd:p.dst=some t) (hqi:q<i) (hi:i≤ops.length):(S i).tm[t]?=(S (q+1)).tm[t]?:=
 hr.gT i (i:=q+1) hqi hi (fun k' o' h1 h2 h3 e=>(hk.look h3 hq (by omega) hd).2 e)
theorem Run.tz (hr:Run cfg ops s0 S) (hk:SK ops s0):∀(n t i:Nat) (o:Oper) (kk:Nat),ops[i]?=some o→a6 o t=true→yA ops s0 n t=some kk→∀v,rd (S i).tm [] (.tmp t)=some v→∃oq,v= .ptr kk oq
 |0,_,_,_,_,_,_,h,_,_=>by simp[yA]at h
 |n+1,t,i,o,kk,ho,hl,h,v,hv=>by
  have hlt:i<ops.length:=(List.getElem?_eq_some_iff.1 ho).1
  unfold yA A0 at h
  cases hf:ops.find? (fw t)with
  |none=>
   rw[hf]at h
   simp only at h
   have hun:∀(k:Nat) (p:Oper),ops[k]?=some p→p.dst≠some t:=by
    intro k p hkp e
    rw[List.find?_eq_none]at hf
    have:=hf p (List.mem_of_getElem? hkp)
    simp[fw,e]at this
   rw[ak]at h
   split at h
   ·rename_i k oq hq
    simp only[B0]at h
    subst h
    simp only[rd,ak,hr.cF (Nat.le_of_lt hlt) (fun k' o' _ h3=>hun k' o' h3),hq,iu,B0]at hv
    exact⟨oq,hv.symm⟩
   ·cases h
  |some p=>
   rw[hf]at h
   simp only at h
   have hpd:p.dst=some t:=by
    have:=List.find?_some hf
    unfold fw at this
    split at this
    ·rename_i d hd
     rw[hd,B2 this]
    ·cases this
   obtain⟨q,hq⟩:=List.getElem?_of_mem (List.mem_of_find?_eq_some hf)
   split at h
   ·rename_i e;cases e
   ·rename_i ty u f e
    simp only[B0]at e
    cases hut:Nat.beq u t with
    |true=>rw[hut]at h;cases h
    |false=>
     rw[hut,B5]at h
     have hne:i≠q:=fun e'=>by
      subst e'
      rw[ho]at hq
      simp only[B0]at hq
      subst hq
      simp[a6,e,Op.operands]at hl
      subst hl
      simp at hut
     obtain⟨hqi,_⟩:=(hk.look ho hq hne hpd).1 hl
     have hlu:a6 p u=true:=by
      unfold a6
      rw[e]
      simp[Op.operands]
     have ih:=hr.tz hk n u q p kk hq hlu h
     have hat:=hr.A4 hk hq hpd hqi (Nat.le_of_lt hlt)
     obtain⟨w,hw,htm⟩:=(hr.step q p hq).slot hpd (by rw[e];simp[aq])
     rw[htm,au]at hat
     simp only[rd,ak,hat]at hv
     rw[List.getElem?_set_self']at hv
     cases hx:(S q).tm[t]? with
     |none=>rw[hx]at hv;simp at hv
     |some x=>
      rw[hx]at hv
      simp only[Functor.map,Option.map_some,Function.const,iu,B0]at hv
      subst hv
      rw[e]at hw
      simp only[af]at hw
      split at hw
      ·rename_i hu _
       obtain⟨oq,e'⟩:=ih _ hu
       simp only[AV.ptr.injEq]at e'
       obtain⟨rfl,rfl⟩:=e'
       simp only[Option.map_eq_some_iff,Prod.mk.injEq,true_and]at hw
       obtain⟨_,_,rfl⟩:=hw
       exact⟨_,rfl⟩
      ·rename_i hu _
       obtain⟨oq,e'⟩:=ih _ hu
       cases e'
      ·cases hw
   ·cases h
theorem Run.vl (hr:Run cfg ops s0 S) (hk:SK ops s0) {i kk:Nat} {o:Oper} (ho:ops[i]?=some o) (ha:eJ ops s0 o.op=some kk):∃t tt,((∃y,o.op= .store t (.tmp tt) y)∨o.op= .load t (.tmp tt))∧∀v,rd (S i).tm [] (.tmp tt)=some v→∃oq,v= .ptr kk oq:=by
 unfold eJ at ha
 split at ha
 ·rename_i t tt e
  exact⟨t,tt, .inr e,hr.tz hk 4 tt i o kk ho (by simp[a6,e,Op.operands]) ha⟩
 ·rename_i t tt y e
  exact⟨t,tt, .inl ⟨y,e⟩,hr.tz hk 4 tt i o kk ho (by simp[a6,e,Op.operands]) ha⟩
 ·cases ha
theorem Run.lU (hr:Run cfg ops s0 S) (hsk:SK ops s0) {k kk:Nat} {o:Oper} (ho:ops[k]?=some o) (hm:aq o.op=some 3) (ha:eJ ops s0 o.op=some kk) {b:Nat} (hb:b≠kk):(S (k+1)).hp[b]?=(S k).hp[b]?:=by
 obtain⟨t,tt,hop,hun⟩:=hr.vl hsk ho ha
 refine(hr.step k o ho).lU hm (kk:=kk) (fun t' x' y' v e hv=>?_) hb
 rcases hop with⟨y,hop⟩|hop
 ·rw[hop]at e
  simp only[Op.store.injEq]at e
  obtain⟨_,rfl,_⟩:=e
  exact hun v hv
 ·rw[hop]at e;cases e
theorem Run.iT (hr:Run cfg ops s0 S) (hsk:SK ops s0) {b i:Nat}:∀j,i≤j→j≤ops.length→(∀k o,i≤k→k<j→ops[k]?=some o→aq o.op=some 3→∃kk,eJ ops s0 o.op=some kk∧b≠kk)→(S j).hp[b]?=(S i).hp[b]?
 |0,hij,_,_=>by rw[show i=0 by omega]
 |j+1,hij,hj,h=>by
  by_cases e:i=j+1
  ·rw[e]
  ·have hlt:j<ops.length:=by omega
   have ho:=List.getElem?_eq_getElem hlt
   have ih:=hr.iT hsk j (by omega) (by omega) (fun k o h1 h2 h3=>h k o h1 (by omega) h3)
   by_cases hm:aq ops[j].op=some 3
   ·obtain⟨kk,ha,hb⟩:=h j _ (by omega) (by omega) ho hm
    rw[hr.lU hsk ho hm ha hb]
    exact ih
   ·rw[(hr.step j _ ho).gI hm]
    exact ih
theorem oM {agg:Bool} {n:Nat} {hp hp':List (Blk (X:=X))} {k o:Nat} (h:hp'[k]?=hp[k]?):loadAt agg n hp' (.ptr k o)=loadAt agg n hp (.ptr k o):=by
 simp only[loadAt,ak,h]
theorem At.next (hr:Run cfg ops s0 S) (hk:SK ops s0) {Y:Nat→Prop} {s:St (X:=X)} (ha:At ops s0 S Y s) {i:Nat} {o:Oper} (ho:ops[i]?=some o) (hY:¬Y i) (hready:∀k,aW o k=true→Y k)
  (hclosed:∀(k:Nat) (p:Oper),ops[k]?=some p→Y k→∀j,aW p j=true→Y j):∃s',cP cfg o s s'∧At ops s0 S (fun k=>Y k∨k=i) s':=by
 have hlt:i<ops.length:=(List.getElem?_eq_some_iff.1 ho).1
 -- what it looks at
 have hag:iG o (S i).tm s.tm:=by
  intro t ht
  by_cases hw:∃(j:Nat) (p:Oper),ops[j]?=some p∧p.dst=some t∧j≠i
  ·obtain⟨j,p,hj,hd,hne⟩:=hw
   obtain⟨hl,hh⟩:=(hk.look ho hj (fun e=>hne e.symm) hd).1 ht
   rw[ha.done j t p hj (hready j hh) hd,hr.written hk hj hd hl (by omega)]
  ·have hno:∀(k:Nat) (p:Oper),ops[k]?=some p→k≠i→p.dst≠some t:=fun k p hkp hki e=>hw ⟨k,p,hkp,e,hki⟩
   rw[ha.rest t (fun k p hkp hyk=>hno k p hkp (fun e=>hY (e▸hyk))),hr.cF (by omega) (fun k p hki hkp=>hno k p hkp (by omega))]
 obtain⟨m,hm,hhp,hst⟩:=ha.heap
 -- stores that are in the set, and those ahead of i in the text
 have hstep:=hr.step i o ho
 obtain⟨s1,hs1⟩:∃s1,S (i+1)=s1:=⟨_,rfl⟩
 have putAt:∀v,(S (i+1)).tm=(cD (S i) o.dst (.is v)).tm→∀(hp':List (Blk (X:=X))),(∃m',m'≤ops.length∧hp'=(S m').hp∧∀(k:Nat) (p:Oper),ops[k]?=some p→aq p.op=some 3→((Y k∨k=i)↔k<m'))→At ops s0 S (fun k=>Y k∨k=i) {(cD s o.dst (.is v))with hp:=hp'}:=by
  intro v hv hp' hh
  cases hd:o.dst with
  |none=>
   simp only[cD]
   refine⟨ha.len,fun k t p hkp hy hdp=>?_,fun t hno=>?_,hh⟩
   ·rcases hy with hy|rfl
    ·exact ha.done k t p hkp hy hdp
    ·rw[ho]at hkp;simp only[B0]at hkp;subst hkp;rw[hd]at hdp;cases hdp
   ·exact ha.rest t (fun k p hkp hy=>hno k p hkp (.inl hy))
  |some d=>
   rw[hd]at hv
   simp only[cD,au]at hv⊢
   have hfin:∀t,t=d→(S ops.length).tm[t]?=(s.tm.set d (.is v))[t]?:=by
    rintro t rfl
    rw[←hr.written hk ho hd (Nat.lt_succ_self i) (by omega),hv]
    by_cases hl:t<s.tm.length
    ·rw[List.getElem?_set_self hl,List.getElem?_set_self (by rw[hr.len i (by omega),←ha.len];exact hl)]
    ·have hl2:¬t<(S i).tm.length:=by rw[hr.len i (Nat.le_of_lt hlt),←ha.len];exact hl
     rw[List.getElem?_eq_none (by rw[List.length_set];exact Nat.le_of_not_lt hl2),List.getElem?_eq_none (by rw[List.length_set];exact Nat.le_of_not_lt hl)]
   refine⟨by simpa using ha.len,fun k t p hkp hy hdp=>?_,fun t hno=>?_,hh⟩
   ·by_cases e:t=d
    ·exact(hfin t e).symm
    ·rw[List.getElem?_set_ne (fun h=>e h.symm)]
     rcases hy with hy|rfl
     ·exact ha.done k t p hkp hy hdp
     ·rw[ho]at hkp
      simp only[B0]at hkp
      subst hkp
      rw[hd]at hdp
      simp only[B0]at hdp
      exact absurd hdp.symm e
   ·have hne:t≠d:=fun e=>hno i o ho (.inr rfl) (by rw[hd,e])
    rw[List.getElem?_set_ne (fun h=>hne h.symm)]
    exact ha.rest t (fun k p hkp hy=>hno k p hkp (.inl hy))
 have storeOrd:∀(k:Nat) (p:Oper),ops[k]?=some p→aq p.op=some 3→k≠i→((k<i∧aW o k=true)→k<m)∧((i<k∧aW p i=true)→m≤k):=by
  intro k p hkp hp hne
  refine⟨fun⟨_,h⟩=>(hst k p hkp hp).1 (hready k h),fun⟨_,h⟩=>?_⟩
  rcases Nat.lt_or_ge k m with h'|h'
  ·exact absurd (hclosed k p hkp ((hst k p hkp hp).2 h') i h) hY
  ·exact h'
 cases hmo:aq o.op with
 |none=>
  have:=hk.one i o ho
  simp only[iE,B1]at this
  have h3:=this.2.2
  rw[hmo]at h3
  cases hop:o.op<;>rw[hop]at h3 hmo<;>simp[aq]at hmo<;>simp at h3
 |some c=>
  by_cases hc3:c=3
  ·-- a store
   subst hc3
   have hhs:(S m).hp=(S i).hp:=by
    have hord:∀(k:Nat) (p:Oper),ops[k]?=some p→aq p.op=some 3→k<i→k<m:=fun k p hkp hp hki=>
     (storeOrd k p hkp hp (by omega)).1 ⟨hki,(hk.mem ho hkp (by omega) hp).1 hmo hki⟩
    have hmi:∀(k:Nat) (p:Oper),ops[k]?=some p→aq p.op=some 3→i≤k→m≤k:=by
     intro k p hkp hp hik
     rcases Nat.lt_or_ge k m with h'|h'
     ·exfalso
      by_cases e:k=i
      ·subst e;exact hY ((hst k p hkp hp).2 h')
      ·exact hY (hclosed k p hkp ((hst k p hkp hp).2 h') i ((hk.mem hkp ho e hmo).1 hp (by omega)))
     ·exact h'
    rcases Nat.le_total m i with hle|hle
    ·exact(hr.aY i hle (by omega) (fun k p h1 h2 h3 h4=>by have:=hord k p h3 h4 h2;omega)).symm
    ·exact hr.aY m hle hm (fun k p h1 h2 h3 h4=>by have:=hmi k p h3 h4 h1;omega)
   rw[hs1]at hstep
   cases hstep with
   |pure v h hk'=>exact absurd hmo hk'
   |store hp' h hd _=>
    refine⟨{s with hp:=hp'}, .store hp' ?_ hd hmo,?_⟩
    ·rw[iQ hag hmo,hhp,hhs]
     exact h
    ·have:=putAt (.bool true) (by rw[hs1,hd];rfl) hp' ⟨i+1,by omega,by rw[hs1],fun k p hkp hp=>?_⟩
     ·rw[hd]at this
      exact this
     ·constructor
      ·rintro (hy|rfl)
       ·have hkm:=(hst k p hkp hp).1 hy
        rcases Nat.lt_or_ge i k with h'|h'
        ·exact absurd (hclosed k p hkp hy i ((hk.mem hkp ho (by omega) hmo).1 hp h')) hY
        ·omega
       ·omega
      ·intro hlt'
       by_cases e:k=i
       ·exact .inr e
       ·have:=(storeOrd k p hkp hp e).1 ⟨by omega,(hk.mem ho hkp (fun h=>e h.symm) hp).1 hmo (by omega)⟩
        exact .inl ((hst k p hkp hp).2 this)
  ·-- it turns no memory
   have hne3:aq o.op≠some 3:=by rw[hmo];simpa using hc3
   have hpure:∀hpv:AV,af (eI cfg) (S i).hp (S i).tm [] o.op=some (true,hpv)→af (eI cfg) s.hp s.tm [] o.op=some (true,hpv):=by
    intro v hv
    rw[←hv]
    by_cases h0:c=0
    ·exact cA hag (.inl (by rw[hmo,h0]))
    ·by_cases h2:c=2
     ·subst h2
      refine cA hag (.inr (.inl ?_))
      rw[hhp]
      have hord:∀(k:Nat) (p:Oper),ops[k]?=some p→aq p.op=some 3→(k<i→k<m)∧(i≤k→m≤k):=by
       intro k p hkp hp
       have hne:k≠i:=fun e=>by subst e;rw[ho]at hkp;simp only[B0]at hkp;subst hkp;exact hne3 hp
       rcases(hk.mem ho hkp (fun h=>hne h.symm) hp).2.2 hmo with h|h
       ·have:=(storeOrd k p hkp hp hne).1 h
        exact⟨fun _=>this,fun _=>by omega⟩
       ·have:=(storeOrd k p hkp hp hne).2 h
        exact⟨fun _=>by omega,fun _=>this⟩
      rcases Nat.le_total m i with hle|hle
      ·exact(hr.aY i hle (by omega) (fun k p h1 h2 h3 h4=>by have:=(hord k p h3 h4).1 h2;omega)).symm
      ·exact hr.aY m hle hm (fun k p h1 h2 h3 h4=>by have:=(hord k p h3 h4).2 h1;omega)
     ·have h1:c=1:=by
       have:=hmo
       unfold aq at this
       split at this<;>simp only[B0,reduceCtorEq]at this<;>omega
      subst h1
      obtain⟨tl,xl,hload⟩:∃t x,o.op= .load t x:=by
       have:=hmo
       cases hop:o.op<;>rw[hop]at this<;>simp[aq]at this
       exact⟨_,_,rfl⟩
      refine cA hag (.inr (.inr ⟨tl,xl,hload,fun v' iv hv'=>?_⟩))
      -- stores that stand between in one of the two orders write another block
      have hbetween:∀(k:Nat) (p:Oper),ops[k]?=some p→aq p.op=some 3→((m≤k∧k<i)∨(i≤k∧k<m))→lz ops s0 o.op p.op=true:=by
       intro k p hkp hp hb
       have hne:k≠i:=fun e=>by subst e;rw[ho]at hkp;simp only[B0]at hkp;subst hkp;exact hne3 hp
       rcases(hk.mem ho hkp (fun h=>hne h.symm) hp).2.1 hmo with h|h|h
       ·have:=(storeOrd k p hkp hp hne).1 h;omega
       ·have:=(storeOrd k p hkp hp hne).2 h;omega
       ·exact h
      by_cases hex:∃(k:Nat) (p:Oper),ops[k]?=some p∧aq p.op=some 3∧((m≤k∧k<i)∨(i≤k∧k<m))
      ·obtain⟨k,p,hkp,hp,hb⟩:=hex
       have hap:=hbetween k p hkp hp hb
       unfold lz at hap
       split at hap
       ·rename_i kb kk hbl hbk
        obtain⟨t,tt,hop,hun⟩:=hr.vl hk ho hbl
        have hop':o.op= .load t (.tmp tt):=by
         rcases hop with⟨y,hop⟩|hop
         ·rw[hop]at hload;cases hload
         ·exact hop
        rw[hop']at hload
        simp only[Op.load.injEq]at hload
        obtain⟨_,rfl⟩:=hload
        obtain⟨oq,rfl⟩:=hun v' hv'
        refine oM ?_
        rw[hhp]
        have hother:∀(k:Nat) (p:Oper),ops[k]?=some p→aq p.op=some 3→((m≤k∧k<i)∨(i≤k∧k<m))→∃kk,eJ ops s0 p.op=some kk∧kb≠kk:=by
         intro k p hkp hp hb
         have hap:=hbetween k p hkp hp hb
         unfold lz at hap
         rw[hbl]at hap
         split at hap
         ·rename_i k1 k2 e1 e2
          simp only[B0]at e1
          subst e1
          refine⟨k2,e2,fun e=>?_⟩
          rw[e]at hap
          simp at hap
         ·cases hap
        rcases Nat.le_total m i with hle|hle
        ·exact(hr.iT hk i hle (by omega) (fun k p h1 h2 h3 h4=>hother k p h3 h4 (.inl ⟨h1,h2⟩))).symm
        ·exact hr.iT hk m hle hm (fun k p h1 h2 h3 h4=>hother k p h3 h4 (.inr ⟨h1,h2⟩))
       ·cases hap
      ·have:s.hp=(S i).hp:=by
        rw[hhp]
        rcases Nat.le_total m i with hle|hle
        ·exact(hr.aY i hle (by omega) (fun k p h1 h2 h3 h4=>hex ⟨k,p,h3,h4, .inl ⟨h1,h2⟩⟩)).symm
        ·exact hr.aY m hle hm (fun k p h1 h2 h3 h4=>hex ⟨k,p,h3,h4, .inr ⟨h1,h2⟩⟩)
       rw[this]
   rw[hs1]at hstep
   cases hstep with
   |store hp' h hd hk'=>exact absurd hk' hne3
   |pure v h hk'=>
    refine⟨cD s o.dst (.is v), .pure v (hpure v h) hne3,?_⟩
    have hsame:(cD s o.dst (.is v)).hp=s.hp:=by unfold cD;split<;>rfl
    have:=putAt v (by rw[hs1]) (cD s o.dst (.is v)).hp ⟨m,hm,by rw[hsame];exact hhp,fun k p hkp hp=>?_⟩
    ·exact this
    ·constructor
     ·rintro (hy|rfl)
      ·exact(hst k p hkp hp).1 hy
      ·rw[ho]at hkp;simp only[B0]at hkp;subst hkp;exact absurd hp hne3
     ·exact fun h=> .inl ((hst k p hkp hp).2 h)
theorem At.start (hr:Run cfg ops s0 S):At ops s0 S (fun _=>False) s0:=
 ⟨rfl,fun _ _ _ _ h=>h.elim,fun _ _=>rfl,0,Nat.zero_le _,by rw[hr.begin],fun k o _ _=>⟨fun h=>h.elim,fun h=>by omega⟩⟩
theorem At.all (hr:Run cfg ops s0 S) {Y:Nat→Prop} {s:St (X:=X)} (ha:At ops s0 S Y s) (bc:∀k,k<ops.length→Y k):s=S ops.length:=by
 obtain⟨m,hm,hhp,hst⟩:=ha.heap
 have h1:s.hp=(S ops.length).hp:=by
  rw[hhp]
  exact(hr.aY ops.length hm (Nat.le_refl _) (fun k p h1 h2 h3 h4=>by have:=(hst k p h3 h4).1 (bc k h2);omega)).symm
 have h2:s.tm=(S ops.length).tm:=by
  apply List.ext_getElem?
  intro t
  by_cases hw:∃(k:Nat) (o:Oper),ops[k]?=some o∧o.dst=some t
  ·obtain⟨k,o,ho,hd⟩:=hw
   exact ha.done k t o ho (bc k (List.getElem?_eq_some_iff.1 ho).1) hd
  ·rw[ha.rest t (fun k o ho _ e=>hw ⟨k,o,ho,e⟩),hr.cF (Nat.le_refl _) (fun k o _ ho e=>hw ⟨k,o,ho,e⟩)]
 cases s
 cases hS:S ops.length
 rw[hS]at h1 h2
 simp only at h1 h2
 rw[h1,h2]
theorem cP.wp (hq:EOk P G cfg) (hG:G w0.w) {o:Oper} {s s':St (X:=X)} (h:cP cfg o s s') {ρ:List Loc} {a:Act} {w:World} (hf:FR ρ s.tm a) (hr:HR w0 ρ s.hp w) (hn:Px.ae s.tm) {Q:Exit→Act→World→Prop}:
  o.wp P a w (fun a' w'=>∃ρ',ρ<+:ρ'∧FR ρ' s'.tm a'∧HR w0 ρ' s'.hp w') Q:=by
 cases h with
 |pure v h hk=>
  obtain⟨x,hx,hres⟩:=bg (cfg:=eI cfg) hq.toQOk.q hG hf (rfl:ai s.tm []=true) hr h rfl
  refine hres.wp fun w' hb=>⟨ρ,List.prefix_refl _,?_,?_⟩
  ·unfold cD
   split
   ·rename_i d hd
    rw[hd]
    simp only[au]
    exact hf.put (er hn) hx
   ·rename_i hd
    rw[hd]
    exact hf
  ·unfold cD
   split<;>exact hr.grow hb
 |store hp h hd hk=>
  have h':aA cfg s.hp s.tm [] o.op=some (true,none,hp):=by
   cases hop:o.op<;>rw[hop]at hk h<;>simp[aq]at hk
   exact h
  refine(iK hq hG hf (rfl:ai s.tm []=true) hr h' rfl).wp fun ρ' x w' hρ hr' _=>⟨ρ',hρ,?_,hr'⟩
  rw[hd]
  exact hf.mono hρ
def unl (n:Nat) (listed:Array Bool):Nat:=((List.range n).filter fun k=> !listed.getD k false).length
omit X in
theorem eG {n i:Nat} {listed:Array Bool} (hs:listed.size=n) (hi:i<n) (h:listed.getD i false=false):unl n (listed.setIfInBounds i true)<unl n listed:=by
 unfold unl
 have hget:∀k,(listed.setIfInBounds i true).getD k false=if k=i then true else listed.getD k false:=by
  intro k
  by_cases e:k=i
  ·subst e
   rw[if_pos rfl,Array.getD_eq_getD_getElem?,Array.getElem?_setIfInBounds_self_of_lt (by rw[hs];exact hi)]
   rfl
  ·rw[if_neg e,Array.getD_eq_getD_getElem?,Array.getD_eq_getD_getElem?,Array.getElem?_setIfInBounds_ne (fun h=>e h.symm)]
 have key:∀l:List Nat,(l.filter fun k=> !(listed.setIfInBounds i true).getD k false).length≤(l.filter fun k=> !listed.getD k false).length∧(i∈l→(l.filter fun k=> !(listed.setIfInBounds i true).getD k false).length<(l.filter fun k=> !listed.getD k false).length):=by
  intro l
  induction l with
  |nil=>simp
  |cons x l ih=>
   simp only[List.filter_cons,hget x]
   by_cases e:x=i
   ·subst e
    simp only[if_true,Bool.not_true,Bool.false_eq_true,if_false,h,Bool.not_false,List.length_cons]
    exact⟨by omega,fun _=>by omega⟩
   ·simp only[if_neg e]
    cases listed.getD x false with
    |true=>simp only[Bool.not_true,Bool.false_eq_true,if_false];exact⟨ih.1,fun hm=>ih.2 (by rcases List.mem_cons.1 hm with h|h;exact absurd h.symm e;exact h)⟩
    |false=>simp only[Bool.not_false,if_true,List.length_cons];exact⟨by omega,fun hm=>by have:=ih.2 (by rcases List.mem_cons.1 hm with h|h;exact absurd h.symm e;exact h);omega⟩
 exact(key (List.range n)).2 (List.mem_range.2 hi)
theorem wb (hq:EOk P G cfg) (hG:G w0.w) {ops:Array Oper} {s0:St (X:=X)} {S:Nat→St (X:=X)} (hr:Run cfg ops.toList s0 S) (hk:SK ops.toList s0) {rn:Option Nat} {ρ0:List Loc} {Q:Exit→Act→World→Prop}
  (hQ:∀ρ' a' w',ρ0<+:ρ'→FR ρ' (S ops.size).tm a'→HR w0 ρ' (S ops.size).hp w'→Q .normal a' w'):
  ∀(fuel:Nat) (listed:Array Bool) (a:Act) (w:World) (s:St (X:=X)) (ρ:List Loc),listed.size=ops.size→unl ops.size listed≤fuel→ρ0<+:ρ→At ops.toList s0 S (fun k=>listed.getD k false=true) s→FR ρ s.tm a→HR w0 ρ s.hp w→Px.ae s.tm→
  (∀(k:Nat) (p:Oper),ops.toList[k]?=some p→listed.getD k false=true→∀j,aW p j=true→listed.getD j false=true)→wpAnyIn (Wd rn) 0 P .any ops Q fuel listed a w:=by
 intro fuel
 -- when nothing may come up, all has come up
 have done:∀(listed:Array Bool) (a:Act) (w:World) (s:St (X:=X)) (ρ:List Loc),listed.size=ops.size→ρ0<+:ρ→At ops.toList s0 S (fun k=>listed.getD k false=true) s→FR ρ s.tm a→HR w0 ρ s.hp w→Region.ready .any ops listed=[]→Q .normal a w:=by
  intro listed a w s ρ hsz hρ ha hf hh hrd
  have bc:∀k,k<ops.toList.length→listed.getD k false=true:=by
   intro k
   induction k using Nat.strongRecOn with
   |_ k ih=>
    intro hkl
    have hkl':k<ops.size:=by simpa using hkl
    cases hg:listed.getD k false with
    |true=>rfl
    |false=>
     exfalso
     have hmem:k∈Region.ready .any ops listed:=by
      refine mem_ready.2 ⟨?_,ops[k],Array.getElem?_eq_getElem hkl',fun e he hb=>?_⟩
      ·rw[Array.getD_eq_getD_getElem?,Array.getElem?_eq_getElem (by rw[hsz];exact hkl')]at hg⊢
       exact hg
      ·have hone:=hk.one k ops[k] (by simp[hkl'])
       simp only[iE,B1,List.all_eq_true,Bool.or_eq_true,Bool.not_eq_true',Nat.blt_eq]at hone
       rcases hone.2.1 e (by simpa using he)with h|h
       ·rw[hb]at h;cases h
       ·exact ih e.on h (by omega)
     rw[hrd]at hmem
     cases hmem
  have:=ha.all hr bc
  subst this
  exact hQ ρ a w hρ (by simpa using hf) (by simpa using hh)
 induction fuel with
 |zero=>
  intro listed a w s ρ hsz hu hρ ha hf hh hn hc
  have hrd:Region.ready .any ops listed=[]:=by
   rw[List.eq_nil_iff_forall_not_mem]
   intro i hi
   obtain⟨h1,o,ho,_⟩:=mem_ready.1 hi
   have hlt:i<ops.size:=(Array.getElem?_eq_some_iff.1 ho).1
   have h1':listed.getD i false=false:=by
    rw[Array.getD_eq_getD_getElem?,Array.getElem?_eq_getElem (by rw[hsz];exact hlt)]at h1⊢
    exact h1
   have:=eG hsz hlt h1'
   omega
  exact⟨hrd,done listed a w s ρ hsz hρ ha hf hh hrd⟩
 |succ fuel ih=>
  intro listed a w s ρ hsz hu hρ ha hf hh hn hc
  refine⟨fun hrd=>done listed a w s ρ hsz hρ ha hf hh hrd,fun i hi=>?_⟩
  obtain⟨h1,o,ho,bc⟩:=mem_ready.1 hi
  have hlt:i<ops.size:=(Array.getElem?_eq_some_iff.1 ho).1
  have h1':listed.getD i false=false:=by
   rw[Array.getD_eq_getD_getElem?,Array.getElem?_eq_getElem (by rw[hsz];exact hlt)]at h1⊢
   exact h1
  have hol:ops.toList[i]?=some o:=by simpa using ho
  have hready:∀k,aW o k=true→listed.getD k false=true:=by
   intro k hk'
   simp only[aW,List.any_eq_true,B1]at hk'
   obtain⟨e,he,hb,hek⟩:=hk'
   have:=bc e (by simpa using he) hb
   rwa[B2 hek]at this
  obtain⟨s',hst,ha'⟩:=ha.next hr hk hol (by rw[h1'];simp) hready hc
  have hset:∀k,(listed.setIfInBounds i true).getD k false=true↔(listed.getD k false=true∨k=i):=by
   intro k
   by_cases e:k=i
   ·subst e
    rw[Array.getD_eq_getD_getElem?,Array.getElem?_setIfInBounds_self_of_lt (by rw[hsz];exact hlt)]
    simp
   ·rw[Array.getD_eq_getD_getElem?,Array.getElem?_setIfInBounds_ne (fun h=>e h.symm),←Array.getD_eq_getD_getElem?]
    simp[e]
  have ha'':At ops.toList s0 S (fun k=>(listed.setIfInBounds i true).getD k false=true) s':=by
   have:(fun k=>(listed.setIfInBounds i true).getD k false=true)=(fun k=>listed.getD k false=true∨k=i):=funext fun k=>propext (hset k)
   rw[this]
   exact ha'
  have hgd:o.guard=none:=by
   have hone:=hk.one i o hol
   simp only[iE,B1]at hone
   have:=hone.1
   split at this
   ·assumption
   ·cases this
  unfold wpOpIn
  simp only[ho]
  rw[if_pos (by simp[Region.wanted,hgd])]
  have hnd:∀c,o.op≠ .defer c:=fun c e=>by
   have hone:=hk.one i o hol
   simp[iE,e,aq]at hone
  refine Oper.wpIn_mono (fun a' w' ⟨ρ',h1,h2,h3⟩=>?_) (inW (hst.wp hq hG hf hh hn) hnd)
  refine ih _ a' w' s' ρ' (by simpa using hsz) (by have:=eG hsz hlt h1';omega) (hρ.trans h1) ha'' h2 h3 (hst.ae hn) (fun k p hkp hyk j hj=>?_)
  rw[hset]at hyk⊢
  rcases hyk with hyk|rfl
  ·exact .inl (hc k p hkp hyk j hj)
  ·rw[hol]at hkp
   simp only[B0]at hkp
   subst hkp
   exact .inl (hready j hj)
theorem tZ (hm:P.follows .mixedOrders=true) (hf0:¬φ fail) (hq:EOk P G cfg) (hG:G w0.w) {id:Nat} {ops:Array Oper} {s:St (X:=X)} {K:St (X:=X)→R} {ρ:List Loc} {a:Act} {w:World} {rn:Option Nat}
  (hk:jb ops.toList s=true) (h:φ (bD (eI cfg) fail (fun _ _ _ _=>fail) ops.toList s K)) (hf:FR ρ s.tm a) (hr:HR w0 ρ s.hp w) (hn:Px.ae s.tm):(Code.region id ops true).wpIn (Wd rn) 0 P (bw (Next w0 φ ρ false K)) a w:=by
 have hsk:=SK.of hk
 have hng:aR ops.toList=false:=by
  unfold aR
  rw[List.any_eq_false]
  intro o ho
  obtain⟨i,hi⟩:=List.mem_iff_getElem?.1 ho
  have hone:=hsk.one i o hi
  simp only[iE,B1]at hone
  have:=hone.1
  split at this
  ·rename_i e;rw[e];simp
  ·cases this
 rw[ec]at h
 unfold dK at h
 rw[hng]at h
 simp only at h
 obtain⟨S,hS0,hS,hK⟩:=sq (cfg:=cfg) hf0 ops.toList 0 (fun j o hj=>by rw[Nat.zero_add];exact hsk.one j o hj) h
 have hrun:Run cfg ops.toList s S:=⟨hS0,hS⟩
 refine wpIn_region_any hm ?_
 refine wb hq hG hrun hsk (ρ0:=ρ) ?_ ops.size _ a _ s ρ (by simp) ?_ (List.prefix_refl _) ?_ hf (fA hr) hn ?_
 ·intro ρ' a' w' h1 h2 h3
  exact⟨S ops.size,ρ',by simpa using hK,h1,h2,h3,fun _=>hrun.ae hn _ (by simp)⟩
 ·unfold unl
  exact Nat.le_trans (List.length_filter_le _ _) (by simp)
 ·have:=At.start hrun
  have e:(fun k=>(Array.replicate ops.size false).getD k false=true)=(fun _=>False):=by
   funext k
   rw[Array.getD_eq_getD_getElem?]
   by_cases hk:k<ops.size
   ·simp[hk]
   ·simp[hk]
  rw[e]
  exact this
 ·intro k p _ hy
  rw[Array.getD_eq_getD_getElem?]at hy
  by_cases hk:k<ops.size
  ·simp[hk]at hy
  ·simp[hk]at hy
end
end Go.Proofs.Ytdadgkgkdgnihaa.Px


namespace Go.Proofs.Ytdadgkgkdgnihaa.Px
open Go Go.RowKit
section
variable [X:aS] {P:Program} {G:World→Prop} {cfg:Cfg (X:=X)} {w0:aN} {R:Type} {fail:R} {φ:R→Prop}
def fb (cfg:Cfg (X:=X)) (ops:List Oper) (hasG:Bool) (o:Oper) (s:St (X:=X)):Option (St (X:=X)):=
 fR cfg none (fun _ _ _ _=>none) ops hasG o s some
theorem cV (hf0:¬φ fail) {hasG:Bool} {o:Oper} {v:Slot} {s:St (X:=X)} {K:St (X:=X)→R} (h:φ (lX fail hasG o v s K)):∃s',lX none hasG o v s some=some s'∧φ (K s'):=by
 unfold lX at h⊢
 split at h
 ·exact⟨_,rfl,h⟩
 ·split at h
  ·cases hn:bZ _ (v::s.tm)with
   |true=>rw[hn]at h;exact⟨_,rfl,h⟩
   |false=>rw[hn]at h;exact absurd h hf0
  ·split at h
   ·exact absurd h hf0
   ·exact⟨_,rfl,h⟩
theorem mf (hf0:¬φ fail) {hasG:Bool} {cs:List (Nat×Bool)} {o:Oper} {s:St (X:=X)} {K:St (X:=X)→R} (h:φ (iL cfg fail (fun _ _ _ _=>fail) hasG cs o s K)):
  ∃s',iL cfg none (fun _ _ _ _=>none) hasG cs o s some=some s'∧φ (K s'):=by
 rw[gg]at h
 simp only[gg]
 unfold kp at h⊢
 simp only[gK]at h⊢
 split at h
 ·rename_i ok v hp
  cases ok with
  |false=>exact absurd h hf0
  |true=>exact cV hf0 h
 ·split at h
  ·split at h
   ·exact cV hf0 h
   ·split at h
    ·split at h
     ·rename_i ds g hb
      cases hds:ds.all (bW cs)with
      |false=>rw[hds]at h;exact absurd h hf0
      |true=>
       rw[hds,B4]at h
       rw[B4]
       cases g with
       |true=>
        rw[B4]at h⊢
        split at h
        ·exact cV hf0 h
        ·exact absurd h hf0
       |false=>
        rw[B5]at h⊢
        split at h
        ·exact cV hf0 h
        ·exact absurd h hf0
     ·exact absurd h hf0
    ·exact absurd h hf0
  ·split at h
   ·rename_i ok v hp' he
    cases ok with
    |false=>exact absurd h hf0
    |true=>exact cV hf0 h
   ·rename_i ok hp' he
    cases ok with
    |false=>exact absurd h hf0
    |true=>exact cV hf0 h
   ·split at h
    ·split at h
     ·split at h
      ·rw[Bool.cond_self]at h;exact absurd h hf0
      ·exact absurd h hf0
      ·exact absurd h hf0
     ·split at h
      ·split at h
       ·rw[Bool.cond_self]at h;exact absurd h hf0
       ·exact absurd h hf0
      ·exact absurd h hf0
     ·exact absurd h hf0
    ·exact absurd h hf0
theorem ur (hf0:¬φ fail) {ops:List Oper} {hasG:Bool} {o:Oper} {s:St (X:=X)} {K:St (X:=X)→R} (h:φ (fR cfg fail (fun _ _ _ _=>fail) ops hasG o s K)):
  ∃s',fb cfg ops hasG o s=some s'∧φ (K s'):=by
 unfold fb
 unfold fR at h⊢
 simp only[gK]at h⊢
 split at h
 ·exact mf hf0 h
 ·split at h
  ·split at h
   ·split at h
    ·split at h
     ·rename_i ds b hb ok v hp
      cases hc:(or ok (not (ai s.tm _)))with
      |true=>rw[hc]at h;exact cV hf0 h
      |false=>rw[hc]at h;exact absurd h hf0
     ·split at h
      ·split at h
       ·exact cV hf0 h
       ·cases hc:ai s.tm _ with
        |true=>rw[hc]at h;exact mf hf0 h
        |false=>rw[hc]at h;exact cV hf0 h
      ·cases hc:ai s.tm _ with
       |true=>rw[hc]at h;exact mf hf0 h
       |false=>rw[hc]at h;exact cV hf0 h
    ·exact absurd h hf0
   ·exact absurd h hf0
  ·exact absurd h hf0
theorem lM (hf0:¬φ fail) {ops:List Oper} {hasG:Bool}:∀(l:List Oper) {s:St (X:=X)} {K:St (X:=X)→R},φ (cn cfg fail (fun _ _ _ _=>fail) ops hasG l s K)→
  ∃S:Nat→St (X:=X),S 0=s∧(∀k o,l[k]?=some o→fb cfg ops hasG o (S k)=some (S (k+1)))∧φ (K (S l.length))
 | [],s,K,h=>⟨fun _=>s,rfl,fun k o hk=>by simp at hk,h⟩
 |o::l,s,K,h=>by
  unfold cn at h
  obtain⟨s1,hs1,h1⟩:=ur hf0 h
  obtain⟨S,hS0,hS,hK⟩:=lM hf0 l h1
  refine⟨fun k=>match k with
   |0=>s
   |k+1=>S k,rfl,fun k o' hk=>?_,hK⟩
  cases k with
  |zero=>simp only[List.getElem?_cons_zero,B0]at hk;subst hk;show fb cfg ops hasG o s=some (S 0);rw[hS0];exact hs1
  |succ k=>exact hS k o' (by simpa using hk)
theorem kG (hq:EOk P G cfg) (hG:G w0.w) {ops:Array Oper} {hasG:Bool} {o:Oper} {s s':St (X:=X)} (h:fb cfg ops.toList hasG o s=some s') {ρ:List Loc} {a:Act} {w:World} {rn:Option Nat}
  (hf:FR ρ s.tm a) (hr:HR w0 ρ s.hp w) (hg:hasG=false→ae s.tm) {Q:Exit→Act→World→Prop}:
  if Region.wanted o (yielded ops a.tmps)then o.wpIn (Wd rn) 0 P a w (fun a' w'=>∃ρ',ρ<+:ρ'∧FR ρ' s'.tm a'∧HR w0 ρ' s'.hp w'∧(hasG=false→ae s'.tm)) Q
  else∃ρ',ρ<+:ρ'∧FR ρ' s'.tm (a.put o.dst undef)∧HR w0 ρ' s'.hp w∧(hasG=false→ae s'.tm):=by
 have:=eF (rn:=rn) (P:=P) (cfg:=cfg) (w0:=w0) (fail:=(none:Option (St (X:=X)))) (φ:=fun r=>r=some s') (by simp) hq hG (ci:=fun _ _ _ _=>none) (by intro w1 _ n vs hp K h;exact absurd h (by simp)) (K:=some) h hf hr hg (Q:=Q)
 split at this
 ·rename_i hw
  rw[if_pos hw]
  refine Oper.wpIn_mono (fun a' w' ⟨s1,ρ',h1,h2,h3,h4,h5⟩=>?_) this
  simp only[B0]at h1
  subst h1
  exact⟨ρ',h2,h3,h4,h5⟩
 ·rename_i hw
  rw[if_neg hw]
  obtain⟨s1,ρ',h1,h2,h3,h4,h5⟩:=this
  simp only[B0]at h1
  subst h1
  exact⟨ρ',h2,h3,h4,h5⟩
end
end Go.Proofs.Ytdadgkgkdgnihaa.Px
