/- Regions: the evaluator's walk through a region's operations is the model's. -/
import Derived.Test.YtdadgkgkdgnihaaPxEff
import Derived.RangeFuncNested
import Derived.LoopNIn
import Derived.TacticsIn
import Derived.OrdersIn
import Derived.LoopN
import Derived.Scope
set_option linter.unusedVariables false
set_option linter.unusedSimpArgs false
namespace Go.Proofs.Ytdadgkgkdgnihaa.Px
open Go Go.RowKit
def Wd (r:Option Nat):Fence:={Fence.wide with round:=r}
theorem jV {r:Option Nat} {n:Nat} {P:Program} {f:FuncId} {args:Array Value} {w:World} {R:Ending→World→Prop}:CallsIn (Wd r) n P f args w R↔Calls P f args w R:=callsIn_wide (n:=n)
theorem wo {r:Option Nat} {n:Nat} {P:Program} {row:String} {args:Array Value} {w:World} {R:Value→World→Prop} (h:Rows P row args w R):RowsIn (Wd r) n P row args w R:=
 fun c cs _=>let ⟨v,w',hr,s⟩:=h c cs;⟨v,w',hr,stepsIn_wide.2 s⟩
theorem inW {r:Option Nat} {P:Program} {o:Oper} {a:Act} {w:World} {next:Act→World→Prop} {Q:Exit→Act→World→Prop} (h:o.wp P a w next Q) (hnd:∀c,o.op≠ .defer c):o.wpIn (Wd r) 0 P a w next Q:=by
 refine⟨fun f _=>trivial,?_⟩
 rw[Oper.semAt_eq _ _ _ hnd]
 unfold Oper.wp at h
 generalize (execOp a.eval o).run P w=x at*
 have hd:(Wd r).depth.isSome=true→1≤0:=fun e=>by cases e
 cases x with
 |halt x w'=>cases x<;>exact h
 |ok n w'=>
  cases n with
  |enter f args=>exact⟨hd,jV.2 (h.mono fun e w'' he=>by cases e<;>exact he)⟩
  |row row args=>exact⟨hd,wo h⟩
  |value v=>exact h
  |skip=>exact h
  |defer d=>exact h
  |_=>exact h.elim
section
variable [X:aS] {P:Program} {G:World→Prop} {cfg:Cfg (X:=X)} {w0:aN} {R:Type} {fail:R} {φ:R→Prop}
def Next (w0:aN) (φ:R→Prop) (ρ:List Loc) (hasG:Bool) (K:St (X:=X)→R) (a:Act) (w:World):Prop:=
 ∃s ρ',φ (K s)∧ρ<+:ρ'∧FR ρ' s.tm a∧HR w0 ρ' s.hp w∧(hasG=false→ae s.tm)
def Bt (P:Program) (w0:aN) (φ:R→Prop) (ci:bo (X:=X) (R:=R)):Prop:=
 ∀n args hp (K:AV→List (Blk (X:=X))→R),φ (ci n args hp K)→∀ρ w xs,HR w0 ρ hp w→ab ρ args=some xs→
  (Nat.ble dG n=false→qT P n∧Calls P n xs.toArray w (fun e w'=>∃v hp' ρ' x,e= .returned x∧φ (K v hp')∧ρ<+:ρ'∧ah ρ' v=some x∧HR w0 ρ' hp' w'))∧
  (∀k l,n=dG+k→ρ[k]?=some l→l.nil=false→YieldAt (Wd none) 0 P l.b xs.toArray w (fun e w'=>∃v hp' ρ' x,e= .returned x∧φ (K v hp')∧ρ<+:ρ'∧ah ρ' v=some x∧HR w0 ρ' hp' w'))
def hD (P:Program) (w0:aN) (φ:R→Prop) (ci:bo (X:=X) (R:=R)):Prop:=∀w1:aN,w1.w=w0.w→Bt P w1 φ ci
theorem dq (hf0:¬φ fail) {hasG:Bool} {o:Oper} {sl:Slot} {s:St (X:=X)} {K:St (X:=X)→R} {ρ:List Loc} {a:Act} {x:Value} (h:φ (du fail hasG o sl s K)) (hf:FR ρ s.tm a) (hg:hasG=false→ae s.tm)
  (hs:fN ρ s.tm sl x):∃s',φ (K s')∧FR ρ s'.tm (a.put o.dst x)∧s'.hp=s.hp∧(hasG=false→ae s'.tm):=by
 rw[gK]at h
 unfold lX at h
 split at h
 ·rename_i hd
  rw[hd]
  exact⟨s,h,hf,rfl,hg⟩
 ·rename_i d hd
  rw[hd]
  split at h
  ·cases hu:bZ d (sl::s.tm)with
   |false=>rw[hu]at h;exact absurd h hf0
   |true=>
    rw[hu,B4,au]at h
    have h1:=nR hu
    refine⟨_,h,hf.put (fun i cs v hi=>h1 (i+1) cs v (by simpa using hi)) ?_,rfl,fun e=>by cases e⟩
    cases sl with
    |any=>trivial
    |is v=>exact hs
    |opt cs v=>
     have e:=pA (tm:=s.tm) (s:= .opt cs v) (h1 0 cs v rfl)
     exact⟨fun hh=>hs.1 (e▸hh),fun hh=>hs.2 (e▸hh)⟩
  ·split at h
   ·exact absurd h hf0
   ·rename_i hno
    rw[au]at h
    have h1:=hg rfl
    have ho:sl.gh=false:=by
     cases sl with
     |opt cs v=>exact absurd rfl (hno cs v)
     |_=>rfl
    refine⟨_,h,hf.put (er h1) ?_,rfl,fun _=>eS h1 ho⟩
    cases sl with
    |any=>trivial
    |is v=>exact hs
    |opt cs v=>simp[Slot.gh]at ho
theorem aX (hf0:¬φ fail) {hasG:Bool} {o:Oper} {sl:Slot} {s:St (X:=X)} {K:St (X:=X)→R} {ρ:List Loc} {a:Act} {x:Value} {w:World} (h:φ (du fail hasG o sl s K)) (hf:FR ρ s.tm a) (hr:HR w0 ρ s.hp w) (hg:hasG=false→ae s.tm)
  (hs:fN ρ s.tm sl x):∃s',φ (K s')∧FR ρ s'.tm (a.put o.dst x)∧HR w0 ρ s'.hp w∧(hasG=false→ae s'.tm):=by
 obtain⟨s',h1,h2,h3,h4⟩:=dq hf0 h hf hg hs
 exact⟨s',h1,h2,by rw[h3];exact hr,h4⟩
omit X in
theorem r3 {ρ:List Loc} {b:Bool} {u v z:AV} (h:merge b u v=some z):z=z∧∀x y:Value,(b=true→ah ρ u=some x)→(b=false→ah ρ v=some y)→ah ρ z=some (if b then x else y):=by
 refine⟨rfl,fun x y hx hy=>?_⟩
 unfold merge at h
 split at h
 ·simp only[B0]at h
  subst h
  cases b with
  |true=>have:=hx rfl;simpa[ah]using this
  |false=>have:=hy rfl;simpa[ah]using this
 ·rename_i k p k' q
  cases hk:kEq k k' with
  |false=>rw[hk]at h;cases h
  |true=>
   rw[hk]at h
   have:=bp hk
   subst this
   simp only[B4,B0]at h
   subst h
   cases b with
   |true=>have:=hx rfl;simpa[ah]using this
   |false=>have:=hy rfl;simpa[ah]using this
 ·cases h
omit X in
theorem dU {ρ:List Loc} {tm:List Slot} {a:Act} {cs:List (Nat×Bool)} {c x y:Operand} {v:AV} {w:World} {dst:Option Nat} {ty:Nat} {pos:String} {after:Array Edge} {gd:Option (Nat×Bool)} (hf:FR ρ tm a) (hc:ai tm cs=true) (h:fu tm cs c x y=some v):
  ∃z,ah ρ v=some z∧(execOp a.eval ⟨dst, .pick c x y,ty,pos,after,gd⟩).run P w= .ok (.value z) w:=by
 unfold fu at h
 split at h
 ·rename_i t
  split at h
  ·rename_i ds g hb
   cases hds:ds.all (bW cs)with
   |false=>rw[hds]at h;cases h
   |true=>
    rw[hds,B4]at h
    split at h
    ·rename_i u1 u2 h1 h2
     obtain⟨hlt,ht,_⟩:=iz hf hb
     have hev:a.eval (.tmp t)= .bool g:=ht (gH hc hds)
     have hcons:∀b,g=b→ai tm ((t,b)::cs)=true:=fun b hgb=>by
      rw[cy]
      intro c hc'
      rcases List.mem_cons.1 hc' with rfl|hc'
      ·exact⟨ds,by rw[hb,hgb]⟩
      ·exact cy.1 hc c hc'
     have:=(r3 (ρ:=ρ) h).2 (a.eval x) (a.eval y) (fun hg=>aj hf (hcons true hg) h1) (fun hg=>aj hf (hcons false hg) h2)
     refine⟨_,this,?_⟩
     simp only[execOp,hev,asBool,Sem.run_bind,Sem.run_pure,Result.andThen_ok]
    ·cases h
  ·cases h
 ·cases h
omit X in
theorem ir {ρ:List Loc} {tm:List Slot} {a:Act} {cs:List (Nat×Bool)} {t:Nat} {x y:Operand} {ds:List (Nat×Bool)} {g:Bool} {w:World} {dst:Option Nat} {ty:Nat} {pos:String} {after:Array Edge} {gd:Option (Nat×Bool)} (hf:FR ρ tm a) (hc:ai tm cs=true) (hb:a8 tm t=some (ds,g)) (hds:ds.all (bW cs)=true) {v:AV} (h:rd tm ((t,g)::cs) (if g then x else y)=some v):
  ∃z,ah ρ v=some z∧(execOp a.eval ⟨dst, .pick (.tmp t) x y,ty,pos,after,gd⟩).run P w= .ok (.value z) w:=by
 obtain⟨hlt,ht,_⟩:=iz hf hb
 have hev:a.eval (.tmp t)= .bool g:=ht (gH hc hds)
 have hcons:ai tm ((t,g)::cs)=true:=by
  rw[cy]
  intro c hc'
  rcases List.mem_cons.1 hc' with rfl|hc'
  ·exact⟨ds,hb⟩
  ·exact cy.1 hc c hc'
 refine⟨_,aj hf hcons h,?_⟩
 cases g<;>simp[execOp,hev,asBool,Sem.run_bind,Sem.run_pure,Result.andThen_ok]
theorem ic (hf0:¬φ fail) (hq:EOk P G cfg) (hG:G w0.w) {ci:bo (X:=X) (R:=R)} (hci:hD P w0 φ ci) {hasG:Bool} {cs:List (Nat×Bool)} {o:Oper} {s:St (X:=X)} {K:St (X:=X)→R} {ρ:List Loc} {a:Act} {w:World} {rn:Option Nat}
  (h:φ (iL cfg fail ci hasG cs o s K)) (hf:FR ρ s.tm a) (hr:HR w0 ρ s.hp w) (hc:ai s.tm cs=true) (hg:hasG=false→ae s.tm) {Q:Exit→Act→World→Prop}:o.wpIn (Wd rn) 0 P a w (Next w0 φ ρ hasG K) Q:=by
 rw[gg]at h
 unfold kp at h
 split at h
 ·rename_i ok v hp
  cases ok with
  |false=>exact absurd h hf0
  |true=>
   rw[B4]at h
   obtain⟨x,hx,hres⟩:=bg hq.toQOk hG hf hc hr hp rfl
   refine inW (hres.wp fun w' hb=>?_) (fun c e=>by rw[e]at hp;simp[af]at hp)
   obtain⟨s',h1,h2,h3,h4⟩:=aX (w0:=w0) hf0 h hf (hr.grow hb) hg (x:=x) hx
   exact⟨s',ρ,h1,List.prefix_refl _,h2,h3,h4⟩
 ·split at h
  ·rename_i c x y hop
   split at h
   ·rename_i v hv
    obtain⟨dst,op,ty,pos,after,gd⟩:=o
    simp only at hop
    subst hop
    obtain⟨z,hz,hrun⟩:=dU (P:=P) (w:=w) (dst:=dst) (ty:=ty) (pos:=pos) (after:=after) (gd:=gd) hf hc hv
    obtain⟨s',h1,h2,h3,h4⟩:=aX (w0:=w0) hf0 h hf hr hg (x:=z) hz
    refine inW ?_ (fun c e=>by cases e)
    unfold Oper.wp
    rw[hrun]
    exact⟨s',ρ,h1,List.prefix_refl _,h2,h3,h4⟩
   ·split at h
    ·rename_i t _
     split at h
     ·rename_i ds g hb
      cases hds:ds.all (bW cs)with
      |false=>rw[hds]at h;exact absurd h hf0
      |true=>
       rw[hds,B4]at h
       obtain⟨dst,op,ty,pos,after,gd⟩:=o
       simp only at hop
       subst hop
       have key:∃v,rd s.tm ((t,g)::cs) (if g then x else y)=some v∧φ (du fail hasG ⟨dst, .pick (.tmp t) x y,ty,pos,after,gd⟩ (.is v) s K):=by
        cases g with
        |true=>
         rw[B4]at h
         split at h
         ·rename_i v hv;exact⟨v,hv,h⟩
         ·exact absurd h hf0
        |false=>
         rw[B5]at h
         split at h
         ·rename_i v hv;exact⟨v,hv,h⟩
         ·exact absurd h hf0
       obtain⟨v,hv,h⟩:=key
       obtain⟨z,hz,hrun⟩:=ir (P:=P) (w:=w) (dst:=dst) (ty:=ty) (pos:=pos) (after:=after) (gd:=gd) hf hc hb hds hv
       obtain⟨s',h1,h2,h3,h4⟩:=aX (w0:=w0) hf0 h hf hr hg (x:=z) hz
       refine inW ?_ (fun c e=>by cases e)
       unfold Oper.wp
       rw[hrun]
       exact⟨s',ρ,h1,List.prefix_refl _,h2,h3,h4⟩
     ·exact absurd h hf0
    ·exact absurd h hf0
  ·split at h
   ·rename_i ok v hp' he
    cases ok with
    |false=>exact absurd h hf0
    |true=>
     rw[B4]at h
     refine inW ((iK hq hG hf hc hr he rfl).wp fun ρ' x w' hρ hr' hv=>?_) (fun c e=>by rw[e]at he;simp[aA]at he)
     obtain⟨s',h1,h2,h3,h4⟩:=aX (w0:=w0) hf0 h (hf.mono hρ) hr' hg (x:=x) (hv v rfl)
     exact⟨s',ρ',h1,hρ,h2,h3,h4⟩
   ·rename_i ok hp' he
    cases ok with
    |false=>exact absurd h hf0
    |true=>
     rw[B4]at h
     refine inW ((iK hq hG hf hc hr he rfl).wp fun ρ' x w' hρ hr' _=>?_) (fun c e=>by rw[e]at he;simp[aA]at he)
     obtain⟨s',h1,h2,h3,h4⟩:=aX (w0:=w0) hf0 h (hf.mono hρ) hr' hg (x:=x) trivial
     exact⟨s',ρ',h1,hρ,h2,h3,h4⟩
   ·split at h
    ·rename_i c hop
     split at h
     ·rename_i f args hcal hargs
      split at h
      ·rename_i n first caps hfn
       obtain⟨dst,op,ty,pos,after,gd⟩:=o
       simp only at hop
       subst hop
       have ha:=cw hf hc hargs
       cases hyb:Nat.ble dG n with
       |true=>rw[hyb]at h;exact absurd h hf0
       |false=>
       rw[hyb,B5]at h
       obtain⟨u1,u2,hu1,hu2,e⟩:=gm.1 (aj hf hc hfn)
       obtain⟨hfo,hcalls⟩:=(hci w0 rfl _ _ _ _ h ρ w (u1++(c.args.toList.map a.eval++u2)) hr (aD.2 ⟨_,_,hu1,aD.2 ⟨_,_,ha,hu2,rfl⟩,rfl⟩)).1 hyb
       have:(execOp a.eval (⟨dst, .call c,ty,pos,after,gd⟩:Oper)).run P w= .ok (.enter n (u1++(c.args.toList.map a.eval++u2)).toArray) w:=by
        simp only[execOp,resolve,hcal,Deferred.ofValue,e,invoke,Sem.run_bind,Sem.run_pure,Result.andThen_ok,bM hfo]
        congr 2
        simp[Array.append_assoc]
       refine inW ?_ (fun c e=>by cases e)
       unfold Oper.wp
       rw[this]
       refine hcalls.mono fun e w'' ⟨v,hp',ρ',x,he,hφ,hρ,hv,hr'⟩=>?_
       subst he
       obtain⟨s',h1,h2,h3,h4⟩:=aX (w0:=w0) hf0 hφ (hf.mono hρ) hr' hg (x:=x) hv
       exact⟨s',ρ',h1,hρ,h2,h3,h4⟩
      ·rename_i k hfn
       obtain⟨dst,op,ty,pos,after,gd⟩:=o
       simp only at hop
       subst hop
       have ha:=cw hf hc hargs
       obtain⟨l,hl,hnl,e⟩:=nN.1 (aj hf hc hfn)
       obtain⟨fn,tmps,assign,body,hy,hround⟩:=(hci w0 rfl _ _ _ _ h ρ w (c.args.toList.map a.eval) hr ha).2 k l rfl hl hnl
       have:(execOp a.eval (⟨dst, .call c,ty,pos,after,gd⟩:Oper)).run P w= .ok (.round l.b fn tmps assign body) w:=by
        simp only[execOp,resolve,hcal,Deferred.ofValue,e,invoke,Sem.run_bind,Sem.run_pure,Result.andThen_ok]
        rw[show(c.args.toList.map a.eval).toArray= #[]++c.args.map a.eval from Array.ext' (by simp)]at hy
        exact hy
       refine⟨fun f _=>trivial,?_⟩
       rw[Oper.semAt_eq _ _ _ (fun c e=>by cases e),this]
       refine⟨(fun e=>by cases e),⟨trivial,fun c0 cs0 hroom=>?_⟩⟩
       obtain⟨e,w'',⟨v,hp',ρ',x,he,hφ,hρ,hv,hr'⟩,hcome⟩:=hround.2 c0 cs0 hroom
       subst he
       obtain⟨s',h1,h2,h3,h4⟩:=aX (w0:=w0) hf0 hφ (hf.mono hρ) hr' hg (x:=x) hv
       exact⟨.returned x,w'',⟨s',ρ',h1,hρ,h2,h3,h4⟩,hcome⟩
      ·exact absurd h hf0
     ·rename_i f m args hcal hargs
      split at h
      ·rename_i t u hfn
       split at h
       ·rename_i n hm
        obtain⟨dst,op,ty,pos,after,gd⟩:=o
        simp only at hop
        subst hop
        have ha:=cw hf hc hargs
        cases hyb:Nat.ble dG n with
        |true=>rw[hyb]at h;exact absurd h hf0
        |false=>
        rw[hyb,B5]at h
        have hrecv:=aj hf hc hfn
        simp only[ah,Option.bind_eq_some_iff,B0]at hrecv
        obtain⟨x,hx,e⟩:=hrecv
        obtain⟨_,hmeth⟩:=hq.uG t m n hm
        obtain⟨hfo,hcalls⟩:=(hci w0 rfl _ _ _ _ h ρ w (x::c.args.toList.map a.eval) hr (aa.2 ⟨_,_,hx,ha,rfl⟩)).1 hyb
        have:(execOp a.eval (⟨dst, .call c,ty,pos,after,gd⟩:Oper)).run P w= .ok (.enter n (x::c.args.toList.map a.eval).toArray) w:=by
         have e0:(#[a.eval f]++c.args.map a.eval)[0]?=some (.iface t x):=by rw[←e,Array.getElem?_append_left (by simp)];rfl
         have e1:(#[a.eval f]++c.args.map a.eval).extract 1 (#[a.eval f]++c.args.map a.eval).size=c.args.map a.eval:=by
          apply Array.ext'
          simp
          exact List.take_of_length_le (by simp)
         simp only[execOp,resolve,hcal,invoke,callMethod,e0,e1,Sem.run_bind,Sem.run_pure,run_program,Result.andThen_ok,hmeth,bM hfo]
         congr 2
         apply Array.ext'
         simp
        refine inW ?_ (fun c e=>by cases e)
        unfold Oper.wp
        rw[this]
        refine hcalls.mono fun e w'' ⟨v,hp',ρ',x,he,hφ,hρ,hv,hr'⟩=>?_
        subst he
        obtain⟨s',h1,h2,h3,h4⟩:=aX (w0:=w0) hf0 hφ (hf.mono hρ) hr' hg (x:=x) hv
        exact⟨s',ρ',h1,hρ,h2,h3,h4⟩
       ·exact absurd h hf0
      ·exact absurd h hf0
     ·exact absurd h hf0
    ·exact absurd h hf0
omit X in
theorem mh {ρ:List Loc} {tm:List Slot} {a:Act} {ops:Array Oper} {o og:Oper} {g tg:Nat} {pol b:Bool} {ds:List (Nat×Bool)} (hf:FR ρ tm a) (hgd:o.guard=some (g,pol)) (hog':ops[g]?=some og) (htg:og.dst=some tg) (hb:a8 tm tg=some (ds,b)):
  Region.wanted o (yielded ops a.tmps)=ai tm (ds++[(tg,pol)]):=by
 obtain⟨hlt,hb1,hb2⟩:=iz hf hb
 have hy:yielded ops a.tmps g=match(a.tmps.getD tg undef)with| .bool b=>some b|_=>none:=by
  simp only[yielded,hog',Option.bind_some,htg]
  rw[Array.getElem?_eq_getElem hlt,Array.getD_eq_getD_getElem?,Array.getElem?_eq_getElem hlt]
  simp only[Option.getD_some]
  cases a.tmps[tg]<;>rfl
 have h1:ai tm (ds++[(tg,pol)])=true↔ai tm ds=true∧b=pol:=by
  rw[qv,cy (cs:=[(tg,pol)])]
  simp[hb]
 simp only[Region.wanted,hgd,hy]
 cases hd:ai tm ds with
 |true=>
  rw[hb1 hd]
  rw[Bool.eq_iff_iff,h1,hd]
  simp
 |false=>
  rw[hb2 hd]
  rw[Bool.eq_iff_iff,h1,hd]
  simp[undef]
theorem eF (hf0:¬φ fail) (hq:EOk P G cfg) (hG:G w0.w) {ci:bo (X:=X) (R:=R)} (hci:hD P w0 φ ci) {ops:Array Oper} {hasG:Bool} {o:Oper} {s:St (X:=X)} {K:St (X:=X)→R} {ρ:List Loc} {a:Act} {w:World} {rn:Option Nat}
  (h:φ (fR cfg fail ci ops.toList hasG o s K)) (hf:FR ρ s.tm a) (hr:HR w0 ρ s.hp w) (hg:hasG=false→ae s.tm) {Q:Exit→Act→World→Prop}:
  if Region.wanted o (yielded ops a.tmps)then o.wpIn (Wd rn) 0 P a w (Next w0 φ ρ hasG K) Q else Next w0 φ ρ hasG K (a.put o.dst undef) w:=by
 unfold fR at h
 split at h
 ·rename_i hgd
  rw[if_pos (by simp[Region.wanted,hgd])]
  exact ic hf0 hq hG hci h hf hr rfl hg
 ·rename_i g pol hgd
  split at h
  ·rename_i og hog
   split at h
   ·rename_i tg htg
    split at h
    ·rename_i ds b hb
     rw[ak]at hog
     have hog':ops[g]?=some og:=by simpa using hog
     have hwant:=mh hf hgd hog' htg hb
     rw[hwant]
     split at h
     ·rename_i ok v hp
      cases hh:ai s.tm (ds++[(tg,pol)])with
      |true=>
       rw[hh]at h
       cases ok with
       |false=>exact absurd h hf0
       |true=>
        simp only[Bool.not_true,Bool.or_false,B4]at h
        simp only[if_true]
        obtain⟨x,hx,hres⟩:=bg hq.toQOk hG hf hh hr hp rfl
        refine inW (hres.wp fun w' hb'=>?_) (fun c e=>by rw[e]at hp;simp[af]at hp)
        obtain⟨s',h1,h2,h3,h4⟩:=aX (w0:=w0) hf0 h hf (hr.grow hb') hg (x:=x) ⟨fun _=>hx,(fun e=>by rw[hh]at e;cases e)⟩
        exact⟨s',ρ,h1,List.prefix_refl _,h2,h3,h4⟩
      |false=>
       rw[hh]at h
       simp only[Bool.not_false,Bool.or_true,B4]at h
       simp only[Bool.false_eq_true,if_false]
       obtain⟨s',h1,h2,h3,h4⟩:=aX (w0:=w0) hf0 h hf hr hg (x:=undef) ⟨(fun e=>by rw[hh]at e;cases e),fun _=>rfl⟩
       exact⟨s',ρ,h1,List.prefix_refl _,h2,h3,h4⟩
     ·split at h
      ·rename_i c x y hop
       split at h
       ·rename_i v hv
        cases hh:ai s.tm (ds++[(tg,pol)])with
        |true=>
         simp only[if_true]
         obtain⟨dst,op,ty,pos,after,gd⟩:=o
         simp only at hop
         subst hop
         obtain⟨z,hz,hrun⟩:=dU (P:=P) (w:=w) (dst:=dst) (ty:=ty) (pos:=pos) (after:=after) (gd:=gd) hf hh hv
         obtain⟨s',h1,h2,h3,h4⟩:=aX (w0:=w0) hf0 h hf hr hg (x:=z) ⟨fun _=>hz,(fun e=>by rw[hh]at e;cases e)⟩
         refine inW ?_ (fun c e=>by cases e)
         unfold Oper.wp
         rw[hrun]
         exact⟨s',ρ,h1,List.prefix_refl _,h2,h3,h4⟩
        |false=>
         simp only[Bool.false_eq_true,if_false]
         obtain⟨s',h1,h2,h3,h4⟩:=aX (w0:=w0) hf0 h hf hr hg (x:=undef) ⟨(fun e=>by rw[hh]at e;cases e),fun _=>rfl⟩
         exact⟨s',ρ,h1,List.prefix_refl _,h2,h3,h4⟩
       ·cases hh:ai s.tm (ds++[(tg,pol)])with
        |true=>
         rw[hh,B4]at h
         simp only[if_true]
         exact ic hf0 hq hG hci h hf hr hh hg
        |false=>
         rw[hh,B5]at h
         simp only[Bool.false_eq_true,if_false]
         obtain⟨s',h1,h2,h3,h4⟩:=aX (w0:=w0) hf0 h hf hr hg (x:=undef) ⟨(fun e=>by rw[hh]at e;cases e),fun _=>rfl⟩
         exact⟨s',ρ,h1,List.prefix_refl _,h2,h3,h4⟩
      ·cases hh:ai s.tm (ds++[(tg,pol)])with
       |true=>
        rw[hh,B4]at h
        simp only[if_true]
        exact ic hf0 hq hG hci h hf hr hh hg
       |false=>
        rw[hh,B5]at h
        simp only[Bool.false_eq_true,if_false]
        obtain⟨s',h1,h2,h3,h4⟩:=aX (w0:=w0) hf0 h hf hr hg (x:=undef) ⟨(fun e=>by rw[hh]at e;cases e),fun _=>rfl⟩
        exact⟨s',ρ,h1,List.prefix_refl _,h2,h3,h4⟩
    ·exact absurd h hf0
   ·exact absurd h hf0
  ·exact absurd h hf0
def bw (N:Act→World→Prop):Exit→Act→World→Prop
 | .normal,a,w=>N a w
 |_,_,_=>False
theorem fv (hf0:¬φ fail) (hq:EOk P G cfg) (hG:G w0.w) {ci:bo (X:=X) (R:=R)} (hci:hD P w0 φ ci) {ops:Array Oper} {hasG:Bool}:∀(l:List Oper) {s:St (X:=X)} {K:St (X:=X)→R} {ρ ρ0:List Loc} {a:Act} {w:World} {rn:Option Nat},
  φ (cn cfg fail ci ops.toList hasG l s K)→ρ0<+:ρ→FR ρ s.tm a→HR w0 ρ s.hp w→(hasG=false→ae s.tm)→wpListIn (Wd rn) 0 P ops (bw (Next w0 φ ρ0 hasG K)) l a w
 | [],s,K,ρ,ρ0,a,w,rn,h,h0,hf,hr,hg=>⟨s,ρ,h,h0,hf,hr,hg⟩
 |o::l,s,K,ρ,ρ0,a,w,rn,h,h0,hf,hr,hg=>by
  unfold wpListIn
  have:=eF (rn:=rn) hf0 hq hG hci h hf hr hg (Q:=bw (Next w0 φ ρ0 hasG K))
  split
  ·rename_i hw
   rw[if_pos hw]at this
   exact Oper.wpIn_mono (fun a' w' ⟨s',ρ',h1,h2,h3,h4,h5⟩=>fv hf0 hq hG hci l h1 (h0.trans h2) h3 h4 h5) this
  ·rename_i hw
   rw[if_neg hw]at this
   obtain⟨s',ρ',h1,h2,h3,h4,h5⟩:=this
   exact⟨fun _ _=>trivial,fv hf0 hq hG hci l h1 (h0.trans h2) h3 h4 h5⟩
theorem iw (hf0:¬φ fail) (hq:EOk P G cfg) (hG:G w0.w) {ci:bo (X:=X) (R:=R)} (hci:hD P w0 φ ci) {id:Nat} {ops:Array Oper} {s:St (X:=X)} {K:St (X:=X)→R} {ρ:List Loc} {a:Act} {w:World} {rn:Option Nat}
  (h:φ (bD cfg fail ci ops.toList s K)) (hf:FR ρ s.tm a) (hr:HR w0 ρ s.hp w) (hg:ae s.tm):(Code.region id ops false).wpIn (Wd rn) 0 P (bw (Next w0 φ ρ false K)) a w:=by
 rw[ec]at h
 unfold dK at h
 split at h
 ·refine Code.wpIn_mono ?_ (wpIn_region_list (fv hf0 hq hG hci ops.toList h (List.prefix_refl _) hf hr (fun _=>hg)))
  intro e a' w' hq'
  cases e<;>simp only[bw]at hq'⊢
  obtain⟨s',ρ',h1,h2,h3,h4,_⟩:=hq'
  exact⟨_,ρ',h1,h2,h3.clear,h4,fun _=>bR _⟩
 ·exact wpIn_region_list (fv hf0 hq hG hci ops.toList h (List.prefix_refl _) hf hr (fun _=>hg))
end
end Go.Proofs.Ytdadgkgkdgnihaa.Px
