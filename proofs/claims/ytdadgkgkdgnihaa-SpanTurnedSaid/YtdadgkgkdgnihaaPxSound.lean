/- The evaluator's word on a piece of code, and on a call, is the model's. -/
import Derived.Test.YtdadgkgkdgnihaaPxForget
set_option linter.unusedVariables false
set_option linter.unusedSimpArgs false
namespace Go.Proofs.Ytdadgkgkdgnihaa.Px
open Go Go.RowKit
def qk:Ex→Exit
 | .normal=> .normal
 | .exit id=> .exit id
 | .goto l=> .goto l
 | .ret=> .ret
section
variable [X:aS] {P:Program} {G:World→Prop} {cfg:Cfg (X:=X)} {w0:aN} {R:Type} {fail:R} {φ:R→Prop}
def Ends (w0:aN) (S:Ex→St (X:=X)→Prop) (ρ:List Loc):Exit→Act→World→Prop:=
 fun e a w=>∃e' s ρ',e=qk e'∧S e' s∧ρ<+:ρ'∧FR ρ' s.tm a∧HR w0 ρ' s.hp w∧ae s.tm
end
section
variable [X:aS] {P:Program} {G:World→Prop} {cfg:Cfg (X:=X)} {w0:aN} {R:Type} {fail:R} {φ:R→Prop}
omit X in
theorem aZ {b:Frame} {a:Act} {k:List Item} {cs:List Frame} {w:World} {c:Code}:step P (lone (b.atR a (.code (.scope c)::k)) cs w)= .next (lone (b.atR a (.code c:: .inScope c::k)) cs w):=
 step_lone_go (by simp[stepG,stepG.exec,Frame.atR])
omit X in
theorem jF {b:Frame} {a:Act} {k:List Item} {cs:List Frame} {w:World} {c:Code}:step P (lone (b.atR a (.inScope c::k)) cs w)= .next (lone (b.atR a k) cs w):=
 step_lone_go (by simp[stepG,stepG.exec,Frame.atR])
def Exit.jumps (F:Fence) (n:Nat) (P:Program) (c:Code) (Q:Exit→Act→World→Prop):Exit→Act→World→Prop
 | .goto l,a,w=>∃rest,findLabel c l=some rest∧rest.wpIn F n P (Exit.noGoto Q) a w
 |e,a,w=>Q e a w
omit X in
theorem mM {F:Fence} {n:Nat} {Q:Exit→Act→World→Prop} {a:Act} {w:World} {c:Code} (h:c.wpIn F n P (Exit.jumps F n P c Q) a w):(Code.scope c).wpIn F n P Q a w:=by
 intro b k cs hro hb hr
 have h0:(lone (b.atR a (.code (.scope c)::k)) cs w).fenced P F:=fenced_calm hb hr rfl
 obtain⟨e,a₁,w₁,hq,harr⟩:=h b (.inScope c::k) cs hro hb hr
 cases e with
 |normal=>exact⟨.normal,a₁,w₁,hq, .head h0 aZ (StepsIn.trans harr (.one (fenced_calm hb hr rfl) jF))⟩
 |exit id=>
  have hx:exitTo id (.inScope c::k)=exitTo id k:=by simp[exitTo]
  exact⟨.exit id,a₁,w₁,hq,fun k' hk=> .head h0 aZ (harr.1 k' (by rw[hx];exact hk)),
   fun hr' hk=>let ⟨k₁,h1,h2⟩:=harr.2 hr' (by rw[hx];exact hk);⟨k₁,h1, .head h0 aZ h2⟩⟩
 |goto l=>
  obtain⟨rest,hf,hrest⟩:=hq
  have hg:gotoIn l (.inScope c::k)=some (.code rest:: .inScope c::k):=by simp[gotoIn,hf]
  have hto:=harr.1 _ hg
  obtain⟨e,a₂,w₂,hq,harr2⟩:=hrest b (.inScope c::k) cs hro hb hr
  cases e with
  |normal=>exact⟨.normal,a₂,w₂,hq, .head h0 aZ (hto.trans (StepsIn.trans harr2 (.one (fenced_calm hb hr rfl) jF)))⟩
  |exit id=>
   have hx:exitTo id (.inScope c::k)=exitTo id k:=by simp[exitTo]
   exact⟨.exit id,a₂,w₂,hq,fun k' hk=> .head h0 aZ (hto.trans (harr2.1 k' (by rw[hx];exact hk))),
    fun hr' hk=>let ⟨k₁,h1,h2⟩:=harr2.2 hr' (by rw[hx];exact hk);⟨k₁,h1, .head h0 aZ (hto.trans h2)⟩⟩
  |goto l=>exact hq.elim
  |ret=>exact⟨_,a₂,w₂,hq, .of_steps (.head h0 aZ hto) harr2⟩
  |panic ch=>exact⟨_,a₂,w₂,hq, .of_steps (.head h0 aZ hto) harr2⟩
  |outgrown=>exact⟨_,a₂,w₂,hq, .of_steps (.head h0 aZ hto) harr2⟩
 |ret=>exact⟨_,a₁,w₁,hq, .of_steps (.one h0 aZ) harr⟩
 |panic ch=>exact⟨_,a₁,w₁,hq, .of_steps (.one h0 aZ) harr⟩
 |outgrown=>exact⟨_,a₁,w₁,hq, .of_steps (.one h0 aZ) harr⟩
structure Down (S:Nat→Code→Prop):Prop where
 seq:∀p a b,S p (.seq a b)→S (2*p) a∧S (2*p+1) b
 cond:∀p c a b,S p (.cond c a b)→S (2*p) a∧S (2*p+1) b
 block:∀p i a,S p (.block i a)→S (2*p) a
 loop:∀p a,S p (.loop a)→S (2*p) a
 scope:∀p a,S p (.scope a)→S (2*p) a
inductive Sub (body:Code):Nat→Code→Prop where
 |root:Sub body 1 body
 |seq1 {p:Nat} {a b:Code}:Sub body p (.seq a b)→Sub body (2*p) a
 |seq2 {p:Nat} {a b:Code}:Sub body p (.seq a b)→Sub body (2*p+1) b
 |cond1 {p:Nat} {c:Operand} {a b:Code}:Sub body p (.cond c a b)→Sub body (2*p) a
 |cond2 {p:Nat} {c:Operand} {a b:Code}:Sub body p (.cond c a b)→Sub body (2*p+1) b
 |block {p i:Nat} {a:Code}:Sub body p (.block i a)→Sub body (2*p) a
 |loop {p:Nat} {a:Code}:Sub body p (.loop a)→Sub body (2*p) a
 |scope {p:Nat} {a:Code}:Sub body p (.scope a)→Sub body (2*p) a
 |range1 {p:Nat} {g:Operand} {ps:Array Tmp} {a b:Code}:Sub body p (.rangeFunc g ps a b)→Sub body (2*p) a
 |range2 {p:Nat} {g:Operand} {ps:Array Tmp} {a b:Code}:Sub body p (.rangeFunc g ps a b)→Sub body (2*p+1) b
omit X in
theorem Sub.going {body:Code}:Down (Sub body):=
 ⟨fun _ _ _ h=>⟨h.seq1,h.seq2⟩,fun _ _ _ _ h=>⟨h.cond1,h.cond2⟩,fun _ _ _ h=>h.block,fun _ _ h=>h.loop,fun _ _ h=>h.scope⟩
theorem vj {R':Type} (K:Ex→St (X:=X)→R'):∀(l:List (Bool×Ex×St (X:=X))) (e:Ex) (s:St (X:=X)),aQ K l e s=(fun p:Ex×St (X:=X)=>K p.1 p.2) (aQ Prod.mk l e s)
 | [],_,_=>rfl
 |(b,e',s')::l,e,s=>by cases b with
  |true=>rfl
  |false=>exact vj K l e s
def uj (P:Program) (G:World→Prop) (c:Code) (m:Nat) (con:St (X:=X)→Option (Bool×List (Bool×Ex×St (X:=X))×Ex×St (X:=X))):Prop:=
 ∀s l e s',con s=some (true,l,e,s')→∀(w0:aN) (ρ:List Loc) (a:Act) (w:World),G w0.w→FR ρ s.tm a→HR w0 ρ s.hp w→ae s.tm→
  c.wpIn (Wd none) 0 P (Ends w0 (fun e1 s1=>(e1,s1)=aQ Prod.mk l e s') (ρ.take m)) a w
def nv (P:Program) (G:World→Prop) (cfg:Cfg (X:=X)):Prop:=
 ∀f p cx sp con,jM cfg.lp f p cx=some sp→sp.con=some con→∀fn body,P.funcs[f]?=some fn→fn.body=some body→∀c,Sub body p c→uj P G c sp.m con
def kY (P:Program) (cfg:Cfg (X:=X)):Prop:=
 ∀f p id keep,mu cfg.Y f p=some (id,keep)→∀fn body,P.funcs[f]?=some fn→fn.body=some body→∀g ps a c,Sub body p (.rangeFunc g ps a c)→X.src id=some (ps,a,c)
def nt (P:Program) (G:World→Prop) (cfg:Cfg (X:=X)) (f:Nat) (S:Nat→Code→Prop):Prop:=
 ∀p c cx sp con,S p (.loop c)→jM cfg.lp f p cx=some sp→sp.con=some con→uj P G (.loop c) sp.m con∧cfg.rnd=false
def kZ (cfg:Cfg (X:=X)) (f:Nat) (S:Nat→Code→Prop):Prop:=
 ∀p g ps a c id keep,S p (.rangeFunc g ps a c)→mu cfg.Y f p=some (id,keep)→X.src id=some (ps,a,c)
def cC (P:Program) (w0:aN) (cfg:Cfg (X:=X)) (fail:R) (φ:R→Prop):Prop:=
 (∀(rn:Option Nat) (id:Nat) (ops:Array Oper) (s:St (X:=X)) (K:St (X:=X)→R) (ρ:List Loc) (a:Act) (w:World),qf ops.toList s=true→φ (bD {cfg with H:=[],apn:=false} fail (fun _ _ _ _=>fail) ops.toList s K)→FR ρ s.tm a→HR w0 ρ s.hp w→ae s.tm→
  (Code.region id ops true).wpIn (Wd rn) 0 P (bw (Next w0 φ ρ false K)) a w)∧
 (∀(rn:Option Nat) (id:Nat) (ops:Array Oper) (s:St (X:=X)) (K:St (X:=X)→R) (ρ:List Loc) (a:Act) (w:World),rh ops.toList s=true→φ (bD {cfg with apn:=false} fail (fun _ _ _ _=>fail) ops.toList s K)→FR ρ s.tm a→HR w0 ρ s.hp w→ae s.tm→
  (Code.region id ops true).wpIn (Wd rn) 0 P (bw (Next w0 φ ρ false K)) a w)∧
 (∀(ci:bo (X:=X) (R:=R)),hD P w0 φ ci→∀(rn:Option Nat) (id:Nat) (ops:Array Oper) (t:Nat) (s:St (X:=X)) (K:St (X:=X)→R) (ρ:List Loc) (a:Act) (w:World),vh ops.toList s t=true→φ (eN cfg fail ci ops.toList t s K)→FR ρ s.tm a→HR w0 ρ s.hp w→ae s.tm→
  (Code.region id ops true).wpIn (Wd rn) 0 P (bw (Next w0 φ ρ false K)) a w)∧
 (∀(ci:bo (X:=X) (R:=R)),hD P w0 φ ci→∀(rn:Option Nat) (id:Nat) (ops:Array Oper) (s:St (X:=X)) (K:St (X:=X)→R) (ρ:List Loc) (a:Act) (w:World),pE ops.toList=true→φ (ni cfg fail ci ops.toList s K)→FR ρ s.tm a→HR w0 ρ s.hp w→ae s.tm→
  (Code.region id ops true).wpIn (Wd rn) 0 P (bw (Next w0 φ ρ false K)) a w)
theorem Ends.mono {S:Ex→St (X:=X)→Prop} {ρ ρ':List Loc} (h:ρ<+:ρ') {e:Exit} {a:Act} {w:World} (he:Ends w0 S ρ' e a w):Ends w0 S ρ e a w:=by
 obtain⟨e',s,ρ2,h1,h2,h3,h4⟩:=he
 exact⟨e',s,ρ2,h1,h2,h.trans h3,h4⟩
omit X in
theorem nI {w:World} {b:Nat} {o:Obj}:(∀j,j≠b→(w.putObj b o).heap[j]?=w.heap[j]?)∧(w.putObj b o).os=w.os∧(w.putObj b o).tape=w.tape∧(w.putObj b o).output=w.output∧(w.putObj b o).heap.size=w.heap.size:=
 ⟨fun _ h=>World.putObj_heap_other h,rfl,rfl,rfl,by simp⟩
omit X in
theorem xa {α:Type} (l:List α) (x:α):(l++[x])[l.length]?=some x:=by
 rw[List.getElem?_append_right (Nat.le_refl _),Nat.sub_self];rfl
omit X in
theorem lk {α:Type} {l m:List α} (h:l<+:m) {k:Nat} {x:α} (hk:l[k]?=some x):m[k]?=some x:=by
 obtain⟨t,rfl⟩:=h
 rw[List.getElem?_append_left (List.getElem?_eq_some_iff.1 hk).1];exact hk
theorem sn (hf0:¬φ fail) {ci:bo (X:=X) (R:=R)} (hci:hD P w0 φ ci) {g:Operand} {ps:Array Tmp} {a0 c0:Code} {id gf:Nat} {keep:List Nat} {caps:List AV} {s:St (X:=X)} {K:Ex→St (X:=X)→R} {ρ:List Loc} {a:Act} {w:World}
  (hsrc:X.src id=some (ps,a0,c0)) (hg:rd s.tm [] g=some (.fn gf [] caps)) (hnm:ba s.hp=true) (hyb:Nat.ble dG gf=false)
  (h:φ (ci gf (.yld (s.hp.length+1)::caps) (s.hp++[.dfr, .rcd .ready id (cK keep 0 s.tm)]) fun _ hp=>match nth hp s.hp.length,nth hp (s.hp.length+1)with
   |some .dfr,some (.rcd .ready _ _)=>hJ hp s.hp.length .dead fun hp=>hJ hp (s.hp.length+1) .dead fun hp=>dr (hp++[.mark]) fun hp=>K .normal {tm:=s.tm,hp:=hp}
   |some .dfr,some (.rcd (.done e) _ _)=>hJ hp s.hp.length .dead fun hp=>hJ hp (s.hp.length+1) .dead fun hp=>dr (hp++[.mark]) fun hp=>K e {tm:=s.tm,hp:=hp}
   |_,_=>fail)) (hf:FR ρ s.tm a) (hr:HR w0 ρ s.hp w) (hn:ae s.tm):
  (Code.rangeFunc g ps a0 c0).wpIn (Wd none) 0 P (Ends w0 (fun e s=>φ (K e s)) ρ) a w:=by
 have hd0:a.defers=[]:=by
  rcases hf.defers with h0|⟨k,l,h1,h2,_⟩
  ·exact h0
  ·have hk:k<s.hp.length:=by rw[←hr.len];exact(List.getElem?_eq_some_iff.1 h1).1
   have hb:=List.getElem?_eq_getElem hk
   have e1:=hr.marks k _ l hb h1 h2
   have e2:=eK hnm k _ hb
   rw[e1]at e2
   cases e2
 refine wpIn_rangeFunc fun fn _=>?_
 obtain⟨u1,u2,hu1,hu2,hev⟩:=gm.1 (aj hf (rfl:ai s.tm []=true) hg)
 simp only[ab,B0]at hu1
 subst hu1
 obtain⟨rc,hrc⟩:∃rc:Loop,rc={state:= .ready,pending:=none,fn,tmps:=a.tmps,params:=ps,assign:=a0,body:=c0,defers:=w.heap.size}:=⟨_,rfl⟩
 obtain⟨W1,hW1⟩:∃W1,(w.alloc (.deferred (some []))).alloc (.loop rc)=W1:=⟨_,rfl⟩
 have hlen:=hr.len
 have hr1:HR w0 (ρ++[⟨w.heap.size,0,0,false,none,false⟩]) (s.hp++[.dfr]) (w.alloc (.deferred (some []))):=
  hr.new ((Below.refl _ _).alloc (Nat.le_refl _) _) (fun _ _=>Nat.le_refl _) ⟨rfl,hr.below.size,World.alloc_heap_new _ _⟩
 have hfk:FR ρ (cK keep 0 s.tm) {tmps:=a.tmps,defers:=[]}∧ae (cK keep 0 s.tm):=by
  refine⟨⟨by rw[dY];exact hf.size,fun i sl hi=>?_, .inl rfl⟩,fun i sl hi=>?_⟩
  ·rcases cY keep 0 s.tm i sl hi with rfl|hs
   ·trivial
   ·have:=hf.at_ i sl hs
    cases sl with
    |any=>trivial
    |is v=>exact this
    |opt ds v=>have:=hn i _ hs;simp[Slot.gh]at this
  ·rcases cY keep 0 s.tm i sl hi with rfl|hs
   ·rfl
   ·exact hn i sl hs
 have hr2:HR w0 ((ρ++[⟨w.heap.size,0,0,false,none,false⟩])++[⟨w.heap.size+1,0,0,false,none,false⟩]) ((s.hp++[.dfr])++[.rcd .ready id (cK keep 0 s.tm)]) W1:=by
  rw[←hW1]
  refine hr1.new ((Below.refl _ _).alloc (Nat.le_refl _) _) (fun _ _=>by simp) ⟨rfl,Nat.le_trans hr.below.size (Nat.le_succ _),rc,?_,?_,?_,by rw[hrc];exact hfk.1.mono (List.IsPrefix.trans (List.prefix_append _ _) (List.prefix_append _ _)),hfk.2⟩
  ·have:=World.alloc_heap_new (w.alloc (.deferred (some []))) (.loop rc)
   rwa[World.size_alloc]at this
  ·rw[hrc];exact⟨rfl,rfl⟩
  ·rw[hrc];exact hsrc
 rw[List.append_assoc,List.append_assoc]at hr2
 have hl1:(ρ++([⟨w.heap.size,0,0,false,none,false⟩]++[⟨w.heap.size+1,0,0,false,none,false⟩]:List Loc))[s.hp.length]?=some ⟨w.heap.size,0,0,false,none,false⟩:=by
  rw[List.getElem?_append_right (by omega),hlen,Nat.sub_self];rfl
 have hl2:(ρ++([⟨w.heap.size,0,0,false,none,false⟩]++[⟨w.heap.size+1,0,0,false,none,false⟩]:List Loc))[s.hp.length+1]?=some ⟨w.heap.size+1,0,0,false,none,false⟩:=by
  rw[List.getElem?_append_right (by omega),hlen,show s.hp.length+1-s.hp.length=1 by omega];rfl
 have hargs:ab (ρ++([⟨w.heap.size,0,0,false,none,false⟩]++[⟨w.heap.size+1,0,0,false,none,false⟩]:List Loc)) (.yld (s.hp.length+1)::caps)=some (.func (.yield (w.heap.size+1)) #[] #[]::u2):=
  aa.2 ⟨_,_,nN.2 ⟨_,hl2,rfl,rfl⟩,aB (List.prefix_append _ _) _ _ hu2,rfl⟩
 obtain⟨hfo,hcalls⟩:=(hci w0 rfl _ _ _ _ h _ W1 _ hr2 hargs).1 hyb
 refine⟨w.heap.size+1,[{target:= .collected w.heap.size,args:= #[]}],W1,{target:= .fn (.func gf) u2.toArray,args:= #[.func (.yield (w.heap.size+1)) #[] #[]]},W1,gf,(.func (.yield (w.heap.size+1)) #[] #[]::u2).toArray,W1,?_,?_,fun _ _=>trivial,?_,(fun e=>by cases e),?_⟩
 ·rw[←hW1,hrc];exact run_enterLoop_outer _ _ _ _ _
 ·simp only[resolve,hev]
  simp[go_sem,Deferred.ofValue]
 ·simp only[invoke,bM hfo]
  congr 2
  simp
 ·refine jV.2 (hcalls.mono fun e w2 ⟨v,hp2,ρ2,x,he,hφ,hρ,hv,hr3⟩=>?_)
  subst he
  have k1:=lk hρ hl1
  have k2:=lk hρ hl2
  have pre:ρ<+:ρ2:=List.IsPrefix.trans (List.prefix_append _ _) hρ
  have key:∀(st:RS) (e:Ex) (id':Nat) (tm':List Slot),nth hp2 s.hp.length=some .dfr→nth hp2 (s.hp.length+1)=some (.rcd st id' tm')→(∀q st',zu st st' q→st'≠ .busy∧(match q with|none=>Code.skip|some c=>c)=toCode e)→
    φ (K e {tm:=s.tm,hp:=(cO (cO hp2 s.hp.length .dead) (s.hp.length+1) .dead)++[.mark]})→rangePost (Wd none) 0 P (w.heap.size+1) (Ends w0 (fun e s=>φ (K e s)) ρ) {a with defers:=[{target:= .collected w.heap.size,args:= #[]}]++a.defers} (.returned x) w2:=by
   intro st e id' tm' m1 m2 hst hφ'
   rw[ak]at m1 m2
   rw[au,au]at hφ'
   have b1:=hr3.blk _ _ _ m1 k1
   obtain⟨b2,b3,r,b4,b5,_⟩:=hr3.blk _ _ _ m2 k2
   obtain⟨hnb,hpe⟩:=hst _ _ b5
   have hend:=run_endLoop (P:=P) b4 hnb
   have hne:s.hp.length≠s.hp.length+1:=by omega
   have q1:=hr3.kill m1 rfl
   have m2':(hp2.set s.hp.length .dead)[s.hp.length+1]?=some (.rcd st id' tm'):=by rw[List.getElem?_set_ne hne];exact m2
   have q2:=q1.kill m2' rfl
   have hfree1:tO w0 ρ2 ((hp2.set s.hp.length .dead).set (s.hp.length+1) .dead) w.heap.size:=by
    have f1:=hr3.eQ m1 k1 rfl rfl
    refine⟨fun j c lj hj hlj ho hn'=>?_,f1.2⟩
    by_cases hej:s.hp.length+1=j
    ·subst hej
     have:=(List.getElem?_eq_some_iff.1 hj).1
     rw[List.length_set]at this
     rw[List.getElem?_set_self this]at hj
     simp only[B0]at hj
     subst hj
     cases ho
    ·rw[List.getElem?_set_ne hej]at hj
     exact f1.1 j c lj hj hlj ho hn'
   have hfree2:tO w0 ρ2 ((hp2.set s.hp.length .dead).set (s.hp.length+1) .dead) (w.heap.size+1):=q1.eQ m2' k2 rfl rfl
   obtain⟨h1,h2,h3,h4,h5⟩:=nI (w:=w2) (b:=w.heap.size+1) (o:= .loop {r with state:= .exhausted})
   have q3:=q2.yy hfree2 b3 h2 h3 h4 h5 h1
   have q4:=q3.put (b:= .mark) (l:=⟨w.heap.size,0,0,false,none,true⟩) (fun _ _=>hfree1) ⟨rfl,b1.2.1,by rw[h1 _ (by simp)];exact b1.2.2⟩ (fun _=>rfl)
   have hlen2:=q4.len
   have hEnds:Ends w0 (fun e s=>φ (K e s)) ρ (qk e) {a with defers:=[{target:= .collected w.heap.size,args:= #[]}]++a.defers} (w2.putObj (w.heap.size+1) (.loop {r with state:= .exhausted})):=by
    refine⟨e,_,_,rfl,hφ',pre.trans (List.prefix_append _ _),⟨hf.size,fun i sl hi=>(hf.at_ i sl hi).mono (pre.trans (List.prefix_append _ _)), .inr ⟨ρ2.length,_,xa _ _,rfl,by rw[hd0];rfl⟩⟩,q4,hn⟩
   have hend':(Instr.endLoop (w.heap.size+1)).run P w2= .ok r.pending (w2.putObj (w.heap.size+1) (.loop {r with state:= .exhausted})):=hend
   generalize w2.putObj (w.heap.size+1) (.loop {r with state:= .exhausted})=w5 at hend' hEnds
   refine⟨r.pending,w5,hend',?_⟩
   cases hq:r.pending with
   |none=>
    rw[hq]at hpe
    have:e= .normal:=by cases e<;>simp[toCode]at hpe;rfl
    subst this
    exact hEnds
   |some cd=>
    rw[hq]at hpe
    simp only at hpe
    subst hpe
    cases e with
    |normal=>exact wpIn_skip hEnds
    |exit id=>exact wpIn_exit hEnds
    |goto l=>exact wpIn_goto hEnds
    |ret=>exact wpIn_ret hEnds
  split at hφ
  ·rename_i id' tm' m1 m2
   rw[b8,b8,da]at hφ
   exact key .ready .normal id' tm' m1 m2 (fun q st' hq=>by obtain⟨rfl,rfl⟩:=hq;exact⟨by simp,rfl⟩) hφ
  ·rename_i e id' tm' m1 m2
   rw[b8,b8,da]at hφ
   exact key (.done e) e id' tm' m1 m2 (fun q st' hq=>by obtain⟨rfl,rfl⟩:=hq;exact⟨by simp,rfl⟩) hφ
  ·exact absurd hφ hf0
theorem rv (hf0:¬φ fail) (hq:EOk P G cfg) (hG:G w0.w) {ci:bo (X:=X) (R:=R)} (hci:hD P w0 φ ci) {rn:Option Nat}:
  ∀(c:Code) (s:St (X:=X)) (K:Ex→St (X:=X)→R) (ρ:List Loc) (a:Act) (w:World),φ (hZ cfg fail ci c s K)→FR ρ s.tm a→HR w0 ρ s.hp w→ae s.tm→
  c.wpIn (Wd rn) 0 P (Ends w0 (fun e s=>φ (K e s)) ρ) a w:=by
 intro c
 induction c with
 |skip=>intro s K ρ a w h hf hr hn;exact wpIn_skip ⟨.normal,s,ρ,rfl,h,List.prefix_refl _,hf,hr,hn⟩
 |label l=>intro s K ρ a w h hf hr hn;exact wpIn_label ⟨.normal,s,ρ,rfl,h,List.prefix_refl _,hf,hr,hn⟩
 |ret=>intro s K ρ a w h hf hr hn;exact wpIn_ret ⟨.ret,s,ρ,rfl,h,List.prefix_refl _,hf,hr,hn⟩
 |exit id=>intro s K ρ a w h hf hr hn;exact wpIn_exit ⟨.exit id,s,ρ,rfl,h,List.prefix_refl _,hf,hr,hn⟩
 |goto l=>intro s K ρ a w h hf hr hn;exact wpIn_goto ⟨.goto l,s,ρ,rfl,h,List.prefix_refl _,hf,hr,hn⟩
 |refuse why=>intro s K ρ a w h hf hr hn;exact absurd h hf0
 |rangeFunc g ps a0 c0=>intro s K ρ a w h hf hr hn;exact absurd h hf0
 |region id ops draw=>
  intro s K ρ a w h hf hr hn
  unfold hZ at h
  cases draw with
  |true=>exact absurd h hf0
  |false=>
   refine Code.wpIn_mono ?_ (iw hf0 hq hG hci h hf hr hn)
   intro e a' w' hq'
   cases e<;>simp only[bw]at hq'
   obtain⟨s',ρ',h1,h2,h3,h4,h5⟩:=hq'
   exact⟨.normal,s',ρ',rfl,h1,h2,h3,h4,h5 rfl⟩
 |seq x y ihx ihy=>
  intro s K ρ a w h hf hr hn
  unfold hZ at h
  refine wpIn_seq (Code.wpIn_mono ?_ (ihx s _ ρ a w h hf hr hn))
  intro e a' w' ⟨e',s',ρ',he,h1,h2,h3,h4,h5⟩
  subst he
  cases e' with
  |normal=>exact Code.wpIn_mono (fun e a w he=>Ends.mono h2 he) (ihy s' K ρ' a' w' h1 h3 h4 h5)
  |exit id=>exact⟨.exit id,s',ρ',rfl,h1,h2,h3,h4,h5⟩
  |goto l=>exact⟨.goto l,s',ρ',rfl,h1,h2,h3,h4,h5⟩
  |ret=>exact⟨.ret,s',ρ',rfl,h1,h2,h3,h4,h5⟩
 |cond c x y ihx ihy=>
  intro s K ρ a w h hf hr hn
  unfold hZ at h
  split at h
  ·rename_i b hb
   have hev:=aj hf (rfl:ai s.tm []=true) hb
   rw[mj]at hev
   cases b with
   |true=>exact wpIn_cond_true hev (ihx s K ρ a w h hf hr hn)
   |false=>exact wpIn_cond_false hev (ihy s K ρ a w h hf hr hn)
  ·exact absurd h hf0
 |block id c ih=>
  intro s K ρ a w h hf hr hn
  unfold hZ at h
  refine wpIn_block (Code.wpIn_mono ?_ (ih s _ ρ a w h hf hr hn))
  intro e a' w' ⟨e',s',ρ',he,h1,h2,h3,h4,h5⟩
  subst he
  cases e' with
  |normal=>exact⟨.normal,s',ρ',rfl,h1,h2,h3,h4,h5⟩
  |exit id'=>
   simp only[qk,Exit.inBlock]
   cases hi:Nat.beq id' id with
   |true=>
    simp only[hi,B4]at h1
    rw[if_pos (B2 hi)]
    exact⟨.normal,s',ρ',rfl,h1,h2,h3,h4,h5⟩
   |false=>
    simp only[hi,B5]at h1
    rw[if_neg (Nat.ne_of_beq_eq_false hi)]
    exact⟨.exit id',s',ρ',rfl,h1,h2,h3,h4,h5⟩
  |goto l=>exact⟨.goto l,s',ρ',rfl,h1,h2,h3,h4,h5⟩
  |ret=>exact⟨.ret,s',ρ',rfl,h1,h2,h3,h4,h5⟩
 |scope c ih=>intro s K ρ a w h hf hr hn;exact absurd h hf0
 |loop c ih=>intro s K ρ a w h hf hr hn;exact absurd h hf0
theorem gE (hf0:¬φ fail) (hq:EOk P G cfg) (hG:G w0.w) {ci:bo (X:=X) (R:=R)} (hci:hD P w0 φ ci) (hd:cC P w0 cfg fail φ) {fuel f:Nat} {S:Nat→Code→Prop} (hS:Down S) (hlo:nt P G cfg f S) (hy:kZ cfg f S) {rn:Option Nat} (hrn:cfg.rnd=false→rn=none):
  ∀(c:Code) (p:Nat) (s:St (X:=X)) (K:Ex→St (X:=X)→R) (ρ:List Loc) (a:Act) (w:World),S p c→φ (exec cfg fail ci fuel f p c s K)→FR ρ s.tm a→HR w0 ρ s.hp w→ae s.tm→
  c.wpIn (Wd rn) 0 P (Ends w0 (fun e s=>φ (K e s)) ρ) a w:=by
 intro c
 induction c with
 |skip=>intro p s K ρ a w hsub h hf hr hn;exact wpIn_skip ⟨.normal,s,ρ,rfl,h,List.prefix_refl _,hf,hr,hn⟩
 |label l=>intro p s K ρ a w hsub h hf hr hn;exact wpIn_label ⟨.normal,s,ρ,rfl,h,List.prefix_refl _,hf,hr,hn⟩
 |ret=>intro p s K ρ a w hsub h hf hr hn;exact wpIn_ret ⟨.ret,s,ρ,rfl,h,List.prefix_refl _,hf,hr,hn⟩
 |exit id=>intro p s K ρ a w hsub h hf hr hn;exact wpIn_exit ⟨.exit id,s,ρ,rfl,h,List.prefix_refl _,hf,hr,hn⟩
 |goto l=>intro p s K ρ a w hsub h hf hr hn;exact wpIn_goto ⟨.goto l,s,ρ,rfl,h,List.prefix_refl _,hf,hr,hn⟩
 |refuse why=>intro p s K ρ a w hsub h hf hr hn;exact absurd h hf0
 |rangeFunc g ps a0 c0=>
  intro p s K ρ a w hsub h hf hr hn
  unfold exec at h
  split at h
  ·rename_i id keep gf caps h1 h2 h3
   cases hb:and (ba s.hp) (not (Nat.ble dG gf))with
   |false=>rw[hb]at h;exact absurd h hf0
   |true=>
    rw[hb,B4]at h
    simp only[B1,Bool.not_eq_true']at hb
    rw[hrn h1]
    exact sn hf0 hci (hy p g ps a0 c0 id keep hsub h2) h3 hb.1 hb.2 h hf hr hn
  ·exact absurd h hf0
 |region id ops draw=>
  intro p s K ρ a w hsub h hf hr hn
  unfold exec at h
  have key:(Code.region id ops draw).wpIn (Wd rn) 0 P (bw (Next w0 φ ρ false (K .normal))) a w:=by
   cases draw with
   |false=>exact iw hf0 hq hG hci h hf hr hn
   |true=>
    simp only at h
    cases hnd:and (ou cfg ops.toList) (okT cfg ops.toList s (hO (reach ops.toList) 0 ops.toList))with
    |true=>
     rw[hnd]at h
     simp only[B1,okT]at hnd
     exact hd.2.2.1 ci hci rn id ops _ s (K .normal) ρ a w hnd.2.2.1 h hf hr hn
    |false=>
    rw[hnd,B5]at h
    cases hdk:rh ops.toList s with
    |false=>
     simp only[hdk,B5]at h
     cases hdr:and (not (or (qu cfg ops.toList) (ou cfg ops.toList))) (qf ops.toList s)with
     |false=>
      rw[hdr,B5]at h
      cases hdt:okT cfg ops.toList s (hO (reach ops.toList) 0 ops.toList)with
      |false=>
       rw[hdt,B5]at h
       cases hdx:pE ops.toList with
       |false=>rw[hdx]at h;exact absurd h hf0
       |true=>rw[hdx]at h;exact hd.2.2.2 ci hci rn id ops s (K .normal) ρ a w hdx h hf hr hn
      |true=>
       rw[hdt]at h
       simp only[B1,okT]at hdt
       exact hd.2.2.1 ci hci rn id ops _ s (K .normal) ρ a w hdt.2.1 h hf hr hn
     |true=>
      rw[hdr]at h
      simp only[B1]at hdr
      exact hd.1 rn id ops s (K .normal) ρ a w hdr.2 h hf hr hn
    |true=>simp only[hdk]at h;exact hd.2.1 rn id ops s (K .normal) ρ a w hdk h hf hr hn
  refine Code.wpIn_mono ?_ key
  intro e a' w' hq'
  cases e<;>simp only[bw]at hq'
  obtain⟨s',ρ',h1,h2,h3,h4,h5⟩:=hq'
  exact⟨.normal,s',ρ',rfl,h1,h2,h3,h4,h5 rfl⟩
 |seq x y ihx ihy=>
  intro p s K ρ a w hsub h hf hr hn
  unfold exec at h
  refine wpIn_seq (Code.wpIn_mono ?_ (ihx (2*p) s _ ρ a w (hS.seq _ _ _ hsub).1 h hf hr hn))
  intro e a' w' ⟨e',s',ρ',he,h1,h2,h3,h4,h5⟩
  subst he
  cases e' with
  |normal=>
   exact Code.wpIn_mono (fun e a w he=>Ends.mono h2 he) (ihy (2*p+1) s' K ρ' a' w' (hS.seq _ _ _ hsub).2 h1 h3 h4 h5)
  |exit id=>exact⟨.exit id,s',ρ',rfl,h1,h2,h3,h4,h5⟩
  |goto l=>exact⟨.goto l,s',ρ',rfl,h1,h2,h3,h4,h5⟩
  |ret=>exact⟨.ret,s',ρ',rfl,h1,h2,h3,h4,h5⟩
 |cond c x y ihx ihy=>
  intro p s K ρ a w hsub h hf hr hn
  unfold exec at h
  split at h
  ·rename_i b hb
   have hev:=aj hf (rfl:ai s.tm []=true) hb
   rw[mj]at hev
   cases b with
   |true=>exact wpIn_cond_true hev (ihx (2*p) s K ρ a w (hS.cond _ _ _ _ hsub).1 h hf hr hn)
   |false=>exact wpIn_cond_false hev (ihy (2*p+1) s K ρ a w (hS.cond _ _ _ _ hsub).2 h hf hr hn)
  ·exact absurd h hf0
 |block id c ih=>
  intro p s K ρ a w hsub h hf hr hn
  unfold exec at h
  refine wpIn_block (Code.wpIn_mono ?_ (ih (2*p) s _ ρ a w (hS.block _ _ _ hsub) h hf hr hn))
  intro e a' w' ⟨e',s',ρ',he,h1,h2,h3,h4,h5⟩
  subst he
  cases e' with
  |normal=>exact⟨.normal,s',ρ',rfl,h1,h2,h3,h4,h5⟩
  |exit id'=>
   simp only[qk,Exit.inBlock]
   cases hi:Nat.beq id' id with
   |true=>
    simp only[hi,B4]at h1
    rw[if_pos (B2 hi)]
    exact⟨.normal,s',ρ',rfl,h1,h2,h3,h4,h5⟩
   |false=>
    simp only[hi,B5]at h1
    rw[if_neg (Nat.ne_of_beq_eq_false hi)]
    exact⟨.exit id',s',ρ',rfl,h1,h2,h3,h4,h5⟩
  |goto l=>exact⟨.goto l,s',ρ',rfl,h1,h2,h3,h4,h5⟩
  |ret=>exact⟨.ret,s',ρ',rfl,h1,h2,h3,h4,h5⟩
 |scope c ih=>
  intro p s K ρ a w hsub h hf hr hn
  unfold exec at h
  refine mM (Code.wpIn_mono ?_ (ih (2*p) s _ ρ a w (hS.scope _ _ hsub) h hf hr hn))
  intro e a' w' ⟨e',s',ρ',he,h1,h2,h3,h4,h5⟩
  subst he
  cases e' with
  |normal=>exact⟨.normal,s',ρ',rfl,h1,h2,h3,h4,h5⟩
  |exit id=>exact⟨.exit id,s',ρ',rfl,h1,h2,h3,h4,h5⟩
  |goto l=>
   simp only at h1
   split at h1
   ·rename_i rest hfl
    refine⟨rest,hfl,Code.wpIn_mono ?_ (rv hf0 hq hG hci rest s' _ ρ' a' w' h1 h3 h4 h5)⟩
    intro e a'' w'' ⟨e',s'',ρ'',he,g1,g2,g3,g4,g5⟩
    subst he
    cases e' with
    |normal=>exact⟨.normal,s'',ρ'',rfl,g1,h2.trans g2,g3,g4,g5⟩
    |exit id=>exact⟨.exit id,s'',ρ'',rfl,g1,h2.trans g2,g3,g4,g5⟩
    |goto l=>exact absurd g1 hf0
    |ret=>exact⟨.ret,s'',ρ'',rfl,g1,h2.trans g2,g3,g4,g5⟩
   ·exact absurd h1 hf0
  |ret=>exact⟨.ret,s',ρ',rfl,h1,h2,h3,h4,h5⟩
 |loop c ih=>
  intro p s K ρ a w hsub h hf hr hn
  unfold exec at h
  split at h
  ·rename_i sp hg
   cases hble:Nat.beq s.hp.length sp.m with
   |false=>rw[hble]at h;exact absurd h hf0
   |true=>
    rw[hble,B4]at h
    have hlen:=B2 hble
    have hlen:ρ.length=sp.m:=by rw[hr.len];exact hlen
    have key:∀(k:Nat) (s:St (X:=X)) (ρ1:List Loc) (a:Act) (w:World),φ (iter fail (fun s' K'=>exec cfg fail ci fuel f (2*p) c s' (aV fail sp K')) k s K)→ρ<+:ρ1→FR ρ1 s.tm a→HR w0 ρ1 s.hp w→ae s.tm→Code.roundsIn (Wd rn) 0 P c (Ends w0 (fun e s=>φ (K e s)) ρ) k a w:=by
     intro k
     induction k with
     |zero=>intro s ρ1 a w h;exact absurd h hf0
     |succ k ihk=>
      intro s ρ1 a w h hρ hf hr hn
      rw[roundsIn_succ]
      refine Code.wpIn_mono ?_ (ih (2*p) s _ ρ1 a w (hS.loop _ _ hsub) h hf hr hn)
      intro e a' w' ⟨e',s',ρ',he,h1,h2,h3,h4,h5⟩
      subst he
      cases e' with
      |normal=>
       simp only[aV,lq]at h1
       split at h1
       ·rename_i ok s'' hs''
        cases ok with
        |false=>exact absurd h1 hf0
        |true=>
         obtain⟨_,ρ2,g0,g1,g2,g3⟩:=gA hs'' h3 h4 h5
         have hpre:ρ<+:ρ'.take sp.m:=List.prefix_take_iff.2 ⟨hρ.trans h2,by omega⟩
         exact ihk s'' _ a' w' h1 (hpre.trans g0) g1 g2 g3
       ·exact absurd h1 hf0
      |exit id=>exact⟨.exit id,s',ρ',rfl,h1,hρ.trans h2,h3,h4,h5⟩
      |goto l=>exact⟨.goto l,s',ρ',rfl,h1,hρ.trans h2,h3,h4,h5⟩
      |ret=>exact⟨.ret,s',ρ',rfl,h1,hρ.trans h2,h3,h4,h5⟩
    rw[lq]at h
    split at h
    ·rename_i ok s0 hs0
     cases ok with
     |false=>exact absurd h hf0
     |true=>
      obtain⟨_,ρ2,g0,g1,g2,g3⟩:=gA hs0 hf hr hn
      have:ρ.take sp.m=ρ:=by rw[←hlen,List.take_length]
      rw[this]at g0
      rw[B4]at h
      split at h
      ·rename_i con eo
       split at h
       ·rename_i ok l e s' hs'
        cases ok with
        |false=>exact absurd h hf0
        |true=>
         rw[B4,vj]at h
         obtain⟨cx,hgx⟩:=tU hg
         obtain⟨hcl,hrnd⟩:=hlo p c cx sp con hsub hgx eo
         rw[hrn hrnd]
         refine Code.wpIn_mono ?_ (hcl s0 l e s' hs' w0 ρ2 a w hG g1 g2 g3)
         intro e1 a1 w1 ⟨e2,s2,ρ3,k1,k2,k3,k4⟩
         have h':φ (K e2 s2):=by rw[←k2]at h;exact h
         have hpre:ρ=ρ2.take sp.m:=by rw[←hlen];exact List.prefix_iff_eq_take.1 g0
         exact⟨e2,s2,ρ3,k1,h',hpre▸k3,k4⟩
       ·exact absurd h hf0
      ·exact wpIn_loop_rounds fuel (key fuel s0 _ a w h g0 g1 g2 g3)
    ·exact absurd h hf0
  ·have key:∀(k:Nat) (s:St (X:=X)) (ρ1:List Loc) (a:Act) (w:World),φ (iter fail (fun s' K'=>exec cfg fail ci fuel f (2*p) c s' K') k s K)→ρ<+:ρ1→FR ρ1 s.tm a→HR w0 ρ1 s.hp w→ae s.tm→Code.roundsIn (Wd rn) 0 P c (Ends w0 (fun e s=>φ (K e s)) ρ) k a w:=by
    intro k
    induction k with
    |zero=>intro s ρ1 a w h;exact absurd h hf0
    |succ k ihk=>
     intro s ρ1 a w h hρ hf hr hn
     rw[roundsIn_succ]
     refine Code.wpIn_mono ?_ (ih (2*p) s _ ρ1 a w (hS.loop _ _ hsub) h hf hr hn)
     intro e a' w' ⟨e',s',ρ',he,h1,h2,h3,h4,h5⟩
     subst he
     cases e' with
     |normal=>exact ihk s' ρ' a' w' h1 (hρ.trans h2) h3 h4 h5
     |exit id=>exact⟨.exit id,s',ρ',rfl,h1,hρ.trans h2,h3,h4,h5⟩
     |goto l=>exact⟨.goto l,s',ρ',rfl,h1,hρ.trans h2,h3,h4,h5⟩
     |ret=>exact⟨.ret,s',ρ',rfl,h1,hρ.trans h2,h3,h4,h5⟩
   exact wpIn_loop_rounds 200 (key 200 s ρ a w h (List.prefix_refl _) hf hr hn)
theorem sZ (hf0:¬φ fail) (hq:EOk P G cfg) (hG:G w0.w) {ci:bo (X:=X) (R:=R)} (hci:hD P w0 φ ci) (hd:cC P w0 cfg fail φ) {fuel f:Nat} {S:Nat→Code→Prop} (hS:Down S) (hlo:nt P G cfg f S) (hy:kZ cfg f S)
  {sp:bj (X:=X)} {p:Nat} {c:Code} (hsub:S p (.loop c)) {K:Ex→St (X:=X)→R} {ρ:List Loc} (hlen:ρ.length=sp.m):
  ∀(k:Nat) (s:St (X:=X)) (ρ1:List Loc) (a:Act) (w:World),φ (iter fail (fun s' K'=>exec cfg fail ci fuel f (2*p) c s' (aV fail sp K')) k s K)→ρ<+:ρ1→FR ρ1 s.tm a→HR w0 ρ1 s.hp w→ae s.tm→Code.roundsIn (Wd none) 0 P c (Ends w0 (fun e s=>φ (K e s)) ρ) k a w:=by
 intro k
 induction k with
 |zero=>intro s ρ1 a w h;exact absurd h hf0
 |succ k ihk=>
  intro s ρ1 a w h hρ hf hr hn
  rw[roundsIn_succ]
  refine Code.wpIn_mono ?_ (gE hf0 hq hG hci hd hS hlo hy (fun _=>rfl) c (2*p) s _ ρ1 a w (hS.loop _ _ hsub) h hf hr hn)
  intro e a' w' ⟨e',s',ρ',he,h1,h2,h3,h4,h5⟩
  subst he
  cases e' with
  |normal=>
   simp only[aV,lq]at h1
   split at h1
   ·rename_i ok s'' hs''
    cases ok with
    |false=>exact absurd h1 hf0
    |true=>
     obtain⟨_,ρ2,g0,g1,g2,g3⟩:=gA hs'' h3 h4 h5
     have hpre:ρ<+:ρ'.take sp.m:=List.prefix_take_iff.2 ⟨hρ.trans h2,by omega⟩
     exact ihk s'' _ a' w' h1 (hpre.trans g0) g1 g2 g3
   ·exact absurd h1 hf0
  |exit id=>exact⟨.exit id,s',ρ',rfl,h1,hρ.trans h2,h3,h4,h5⟩
  |goto l=>exact⟨.goto l,s',ρ',rfl,h1,hρ.trans h2,h3,h4,h5⟩
  |ret=>exact⟨.ret,s',ρ',rfl,h1,hρ.trans h2,h3,h4,h5⟩
def num:List Bool→Nat
 | []=>1
 |true::l=>2*num l+1
 |false::l=>2*num l
omit X in
theorem qK:∀l,0<num l
 | []=>by simp[num]
 |true::l=>by simp[num]
 |false::l=>by have:=qK l;simp only[num];omega
omit X in
theorem mR:∀l m,num l=num m→l=m
 | [],[],_=>rfl
 | [],true::m,h=>by have:=qK m;simp only[num]at h;omega
 | [],false::m,h=>by simp only[num]at h;omega
 |true::l,[],h=>by have:=qK l;simp only[num]at h;omega
 |false::l,[],h=>by simp only[num]at h;omega
 |true::l,true::m,h=>by simp only[num]at h;rw[mR l m (by omega)]
 |false::l,false::m,h=>by simp only[num]at h;rw[mR l m (by omega)]
 |true::l,false::m,h=>by simp only[num]at h;omega
 |false::l,true::m,h=>by simp only[num]at h;omega
def down:Bool→Code→Option Code
 |false, .seq a _=>some a
 |true, .seq _ b=>some b
 |false, .cond _ a _=>some a
 |true, .cond _ _ b=>some b
 |false, .block _ a=>some a
 |false, .loop a=>some a
 |false, .scope a=>some a
 |false, .rangeFunc _ _ a _=>some a
 |true, .rangeFunc _ _ _ b=>some b
 |_,_=>none
def aG:List Bool→Code→Option Code
 | [],c=>some c
 |b::l,c=>match aG l c with
  |some x=>down b x
  |none=>none
omit X in
theorem Sub.path {body:Code} {p:Nat} {c:Code} (h:Sub body p c):∃ds,num ds=p∧aG ds body=some c:=by
 induction h with
 |root=>exact⟨[],rfl,rfl⟩
 |seq1 _ ih=>obtain⟨ds,h1,h2⟩:=ih;exact⟨false::ds,by simp[num,h1],by simp[aG,h2,down]⟩
 |seq2 _ ih=>obtain⟨ds,h1,h2⟩:=ih;exact⟨true::ds,by simp[num,h1],by simp[aG,h2,down]⟩
 |cond1 _ ih=>obtain⟨ds,h1,h2⟩:=ih;exact⟨false::ds,by simp[num,h1],by simp[aG,h2,down]⟩
 |cond2 _ ih=>obtain⟨ds,h1,h2⟩:=ih;exact⟨true::ds,by simp[num,h1],by simp[aG,h2,down]⟩
 |block _ ih=>obtain⟨ds,h1,h2⟩:=ih;exact⟨false::ds,by simp[num,h1],by simp[aG,h2,down]⟩
 |loop _ ih=>obtain⟨ds,h1,h2⟩:=ih;exact⟨false::ds,by simp[num,h1],by simp[aG,h2,down]⟩
 |scope _ ih=>obtain⟨ds,h1,h2⟩:=ih;exact⟨false::ds,by simp[num,h1],by simp[aG,h2,down]⟩
 |range1 _ ih=>obtain⟨ds,h1,h2⟩:=ih;exact⟨false::ds,by simp[num,h1],by simp[aG,h2,down]⟩
 |range2 _ ih=>obtain⟨ds,h1,h2⟩:=ih;exact⟨true::ds,by simp[num,h1],by simp[aG,h2,down]⟩
omit X in
theorem Sub.eq {body c c':Code} {ds:List Bool} (h:Sub body (num ds) c) (hc:aG ds body=some c'):c=c':=by
 obtain⟨ds',h1,h2⟩:=h.path
 have:=mR _ _ h1
 subst this
 rw[hc]at h2
 simpa using h2.symm
def qS (tmps:Array Value):ResultVar→Sem Value
 | .tmp t=>pure (tmps.getD t undef)
 | .cell ad t=>do loadVar t (←asAddr (tmps.getD ad undef))
omit X in
theorem tH (fn:Func) (tmps:Array Value):results fn tmps=(do
  let vs←fn.results.mapM (qS tmps)
  pure (if h:vs.size=1 then vs[0]else .tuple vs)):=by
 unfold results
 congr 1
theorem oK (hq:QOk P G cfg) {ρ:List Loc} {hp:List (Blk (X:=X))} {tm:List Slot} {a:Act} {w:World} {r:ResultVar} {v:AV} (hf:FR ρ tm a) (hr:HR w0 ρ hp w) (h:nZ cfg hp tm r=some v):
  ∃x,ah ρ v=some x∧(qS a.tmps r).run P w= .ok x w:=by
 cases r with
 |tmp t=>exact⟨_,aj (x:= .tmp t) hf (rfl:ai tm []=true) h,rfl⟩
 |cell ad t=>
  simp only[nZ]at h
  split at h
  ·rename_i k o i hrd ht
   obtain⟨inf,h1,h2⟩:=(ao hq.types t i ht).info
   obtain⟨d,h3,h4⟩:=(ao hq.types t i ht).und
   have hl:loadAt (bE d) inf.size hp (.ptr k o)=some (true,v):=by
    rw[h2,h4]
    split at h
    ·rename_i ok u hl
     cases ok with
     |false=>cases h
     |true=>
      simp only[B4,B0]at h
      rw[hl,h]
    ·cases h
   obtain⟨x,ad',e,hx,hrun⟩:=lv (P:=P) hq.elts hr h1 h3 (aj hf (rfl:ai tm []=true) hrd) hl rfl
   refine⟨x,hx,?_⟩
   have e':a.tmps.getD ad undef= .pointer (some ad'):=e
   simp only[qS,e',asAddr,Sem.run_bind,Sem.run_pure,Result.andThen_ok,hrun]
  ·cases h
theorem gY (hq:QOk P G cfg) {ρ:List Loc} {hp:List (Blk (X:=X))} {tm:List Slot} {a:Act} {w:World} (hf:FR ρ tm a) (hr:HR w0 ρ hp w):∀{rs:List ResultVar} {vs:List AV},cB cfg hp tm rs=some vs→
  ∃xs,ab ρ vs=some xs∧(rs.mapM (qS a.tmps)).run P w= .ok xs w
 | [],vs,h=>by simp only[cB,B0]at h;subst h;exact⟨[],rfl,by simp⟩
 |r::rs,vs,h=>by
  simp only[cB]at h
  split at h
  ·rename_i v us hv hus
   simp only[B0]at h
   subst h
   obtain⟨x,hx,hrun⟩:=oK (P:=P) hq hf hr hv
   obtain⟨xs,hxs,hruns⟩:=gY hq hf hr hus
   refine⟨x::xs,aa.2 ⟨_,_,hx,hxs,rfl⟩,?_⟩
   simp only[List.mapM_cons,Sem.run_bind,hrun,Result.andThen_ok,hruns,Sem.run_pure]
  ·cases h
theorem jK (hq:QOk P G cfg) {ρ:List Loc} {hp:List (Blk (X:=X))} {tm:List Slot} {a:Act} {w:World} {fn:Func} {vs:List AV} (hf:FR ρ tm a) (hr:HR w0 ρ hp w) (h:cB cfg hp tm fn.results.toList=some vs):
  ∃x,ah ρ (single vs)=some x∧(results fn a.tmps).run P w= .ok x w:=by
 obtain⟨xs,hxs,hrun⟩:=gY (P:=P) hq hf hr h
 have hlen:=ar hxs
 have hres:(results fn a.tmps).run P w= .ok (if h:xs.toArray.size=1 then xs.toArray[0]else .tuple xs.toArray) w:=by
  simp only[tH,Array.mapM_eq_mapM_toList,Sem.run_bind,Sem.run_map,hrun,Result.andThen_ok,Sem.run_pure]
 rw[hres]
 match vs,xs,hxs,hlen with
 | [v],[x],hxs,_=>
  obtain⟨y,ys,hy,_,e⟩:=aa.1 hxs
  simp only[List.cons.injEq]at e
  exact⟨x,by rw[e.1];exact hy,by simp⟩
 | [],[],hxs,_=>exact⟨_,by simp only[single,ah,hxs,Option.bind_some];rfl,by simp⟩
 |u::v::l,x::y::m,hxs,_=>exact⟨_,by simp only[single,ah,hxs,Option.bind_some];rfl,by simp⟩
 | [v],x::y::l,_,hlen=>simp at hlen
 | [v],[],_,hlen=>simp at hlen
 | [],x::l,_,hlen=>simp at hlen
 |u::v::l,[x],_,hlen=>simp at hlen
 |u::v::l,[],_,hlen=>simp at hlen
omit X in
theorem gS:∀(n:Nat) (l:List Slot),(fx n l).length=max n l.length
 |0,l=>by simp[fx]
 |n+1,[]=>by simp[fx,gS n []]
 |n+1,x::l=>by simp only[fx,List.length_cons,gS n l];omega
omit X in
theorem jk:∀(n:Nat) (l:List Slot) (i:Nat) (s:Slot),(fx n l)[i]?=some s→l[i]?=some s∨s= .any
 |0,l,i,s,h=> .inl h
 |n+1,[],0,s,h=>by simp only[fx,List.getElem?_cons_zero,B0]at h;exact .inr h.symm
 |n+1,[],i+1,s,h=>by
  simp only[fx,List.getElem?_cons_succ]at h
  rcases jk n [] i s h with h|h
  ·simp at h
  ·exact .inr h
 |n+1,x::l,0,s,h=> .inl h
 |n+1,x::l,i+1,s,h=>by
  simp only[fx,List.getElem?_cons_succ]at h⊢
  exact jk n l i s h
theorem jZ:∀(hp:List (Blk (X:=X))) (k:Nat),(bL hp)[k]?=(hp[k]?).map fun b=>match b with| .mark=> .dead|b=>b
 | [],k=>by simp[bL]
 |b::l,0=>by cases b<;>rfl
 |b::l,k+1=>by cases b<;>simp only[bL,List.getElem?_cons_succ,jZ l k]
theorem tx (hp:List (Blk (X:=X))):(bL hp).length=hp.length:=by
 induction hp with
 |nil=>rfl
 |cons b l ih=>cases b<;>simp[bL,ih]
theorem BOk.clr {w0:aN} {w:World} {ρ:List Loc} {l:Loc} {b:Blk (X:=X)} (h:BOk w0 w ρ l b):BOk w0 w (ρ.map Go.Proofs.Ytdadgkgkdgnihaa.Px.clr) (Go.Proofs.Ytdadgkgkdgnihaa.Px.clr l) b:=by
 cases b with
 |dead=>trivial
 |alias k f p=>
  cases p with
  |true=>
   have h1:ρ[k]?=some l:=h
   show(ρ.map Go.Proofs.Ytdadgkgkdgnihaa.Px.clr)[k]?=some (Go.Proofs.Ytdadgkgkdgnihaa.Px.clr l)
   rw[List.getElem?_map,h1]
   rfl
  |false=>
   rcases h with h|⟨h0,l',h1,h2⟩
   ·exact .inl h
   ·exact .inr ⟨h0,Go.Proofs.Ytdadgkgkdgnihaa.Px.clr l',by rw[List.getElem?_map,h1];rfl,h2⟩
 |raw cs=>
  obtain⟨h1,h2,h3,ys,t,h4,h5⟩:=h
  exact⟨h1,h2,h3,ys,t,by rw[eM];exact h4,h5⟩
 |vec t xs own=>cases own<;>exact h
 |dfr=>exact h
 |iJ=>exact h
 |mark=>exact h
 |rcd st id tm=>
  obtain⟨h1,h2,r,h3,h4,h5,h6,h7⟩:=h
  exact⟨h1,h2,r,h3,h4,h5,x8 h6,h7⟩
theorem HR.bL {w0:aN} {w:World} {ρ:List Loc} {hp:List (Blk (X:=X))} (h:HR w0 ρ hp w):HR w0 (ρ.map clr) (bL hp) w:=by
 have back:∀(k:Nat) (b:Blk (X:=X)) (l:Loc),(Go.Proofs.Ytdadgkgkdgnihaa.Px.bL hp)[k]?=some b→(ρ.map clr)[k]?=some l→∃b0 l0,hp[k]?=some b0∧ρ[k]?=some l0∧l=clr l0∧(b= .dead∨b=b0):=by
  intro k b l hk hl
  rw[jZ,Option.map_eq_some_iff]at hk
  rw[List.getElem?_map,Option.map_eq_some_iff]at hl
  obtain⟨b0,hb0,rfl⟩:=hk
  obtain⟨l0,hl0,rfl⟩:=hl
  refine⟨b0,l0,hb0,hl0,rfl,?_⟩
  cases b0<;>first|exact .inl rfl|exact .inr rfl
 refine⟨by rw[List.length_map,tx];exact h.len,h.below,fun k b l hk hl=>?_,fun k b l hk hl hm=>?_,fun k k' b b' l l' hk hk' hl hl' hne o o' n n'=>?_,fun p hp=>⟨(h.bz p hp).1,fun k b l hk hl o n=>?_⟩⟩
 rotate_left 3
 ·obtain⟨b0,l0,h1,h2,rfl,h3⟩:=back k b l hk hl
  rcases h3 with rfl|rfl
  ·cases o
  ·exact(h.bz p hp).2 k _ l0 h1 h2 o n
 ·obtain⟨b0,l0,h1,h2,rfl,h3⟩:=back k b l hk hl
  rcases h3 with rfl|rfl
  ·trivial
  ·exact(h.blk k _ l0 h1 h2).clr
 ·obtain⟨b0,l0,h1,h2,rfl,h3⟩:=back k b l hk hl
  cases hm
 ·obtain⟨b0,l0,h1,h2,rfl,h3⟩:=back k b l hk hl
  obtain⟨b0',l0',h1',h2',rfl,h3'⟩:=back k' b' l' hk' hl'
  rcases h3 with rfl|rfl
  ·cases o
  ·rcases h3' with rfl|rfl
   ·cases o'
   ·exact h.sep k k' _ _ l0 l0' h1 h1' h2 h2' hne o o' n n'
theorem sM (hq:QOk P G cfg) {ρ0 ρ:List Loc} {hp0 hp:List (Blk (X:=X))} {tm:List Slot} {a:Act} {w:World} {fn:Func} {vs:List AV} (hpre:ρ0<+:ρ) (hl0:ρ0.length=hp0.length) (hf:FR ρ tm a) (hr:HR w0 ρ hp w)
  (hnm:ba (takeN hp0.length hp)=true) (h:cB cfg (bL hp) tm fn.results.toList=some vs) {Rr:Ending→World→Prop}
  (hR:∀x ρ' w',ρ0<+:ρ'→ah ρ' (single vs)=some x→HR w0 ρ' (bL hp) w'→Rr (.returned x) w'):LeavesInM (Wd none) 0 P fn a.tmps Rr a.defers .returning w:=by
 have pre:ρ0<+:ρ.map clr:=by
  rw[List.prefix_iff_eq_take]
  refine List.ext_getElem? fun k=>?_
  by_cases hk:k<ρ0.length
  ·rw[List.getElem?_take,if_pos hk,List.getElem?_map]
   have e:=List.getElem?_eq_getElem hk
   have e2:=lk hpre e
   rw[e,e2]
   simp only[Option.map_some,B0]
   have hkl:k<hp.length:=by rw[←hr.len];exact(List.getElem?_eq_some_iff.1 e2).1
   have hb:=List.getElem?_eq_getElem hkl
   cases hm:ρ0[k].mark with
   |false=>
    unfold clr
    rw[←hm]
   |true=>
    have m1:=hr.marks k _ _ hb e2 hm
    have m2:=eK hnm k hp[k] (by rw[cT,List.getElem?_take,if_pos (by omega)];exact hb)
    rw[m1]at m2
    cases m2
  ·rw[List.getElem?_eq_none (by omega),List.getElem?_eq_none (by rw[List.length_take];omega)]
 have h0:=hr.bL
 have hfc:=x8 hf
 rcases hf.defers with hd|⟨k,l,h1,h2,h3⟩
 ·rw[hd]
  obtain⟨x,hx,hrun⟩:=jK (P:=P) hq hfc h0 h
  exact⟨x,hrun,hR x _ w pre hx h0⟩
 ·rw[h3]
  have hkl:k<hp.length:=by rw[←hr.len];exact(List.getElem?_eq_some_iff.1 h1).1
  have hb:=List.getElem?_eq_getElem hkl
  have m1:=hr.marks k _ _ hb h1 h2
  have hbm:hp[k]?=some .mark:=by rw[hb];cases he:hp[k]<;>rw[he]at m1<;>first|rfl|cases m1
  obtain⟨c1,c2,c3⟩:=hr.blk k _ l hbm h1
  have hfree:tO w0 (ρ.map clr) (Go.Proofs.Ytdadgkgkdgnihaa.Px.bL hp) l.b:=by
   refine⟨fun j c lj hj hlj ho hn=>?_,fun p hp e=>(hr.bz p hp).2 k _ l hbm h1 rfl c1 e.symm⟩
   rw[jZ,Option.map_eq_some_iff]at hj
   rw[List.getElem?_map,Option.map_eq_some_iff]at hlj
   obtain⟨b0,hb0,rfl⟩:=hj
   obtain⟨l0,hl0',rfl⟩:=hlj
   by_cases e:j=k
   ·subst e
    rw[hbm]at hb0
    simp only[B0]at hb0
    subst hb0
    cases ho
   ·refine hr.sep j k b0 _ l0 l hb0 hbm hl0' h1 e ?_ rfl hn c1
    cases b0<;>first|rfl|exact ho
  obtain⟨g1,g2,g3,g4,g5⟩:=nI (w:=w) (b:=l.b) (o:= .deferred none)
  have h0':=h0.yy hfree c2 g2 g3 g4 g5 g1
  obtain⟨x,hx,hrun⟩:=jK (P:=P) hq hfc h0' h
  exact⟨by simp, .inl ⟨l.b,_,rfl,run_takeDeferred c3,⟨x,hrun,hR x _ _ pre hx h0'⟩⟩⟩
theorem uK (hlo:nv P G cfg) (hrnd:cfg.rnd=false) {f:Nat} {fn:Func} {body:Code} (hfn:P.funcs[f]?=some fn) (hbody:fn.body=some body):nt P G cfg f (Sub body):=
 fun p c cx sp con hs hl hc=>⟨hlo f p cx sp con hl hc fn body hfn hbody _ hs,hrnd⟩
theorem rO (hy:kY P cfg) {f:Nat} {fn:Func} {body:Code} (hfn:P.funcs[f]?=some fn) (hbody:fn.body=some body):kZ cfg f (Sub body):=
 fun p g ps a c id keep hs hl=>hy f p id keep hl fn body hfn hbody g ps a c hs
theorem iM (hf0:¬φ fail) (hq:EOk P G cfg) (hlo:nv P G cfg) (hy:kY P cfg) (hrnd:cfg.rnd=false) (hG:G w0.w) {ci:bo (X:=X) (R:=R)} (hci:hD P w0 φ ci) (hd:cC P w0 cfg fail φ) {fuel f:Nat} {fn:Func} (hfn:P.funcs[f]?=some fn)
  {args:List AV} {hp:List (Blk (X:=X))} {K:AV→List (Blk (X:=X))→R} (h:φ (n5 cfg fail ci fuel f fn args hp K)) {ρ:List Loc} {w:World} {xs:List Value} (hr:HR w0 ρ hp w) (ha:ab ρ args=some xs):
  Calls P f xs.toArray w (fun e w'=>∃v hp' ρ' x,e= .returned x∧φ (K v hp')∧ρ<+:ρ'∧ah ρ' v=some x∧HR w0 ρ' hp' w'):=by
 rw[xU]at h
 unfold sT at h
 split at h
 ·rename_i c hc
  have hxl:=ar ha
  have hno:ae (fx fn.ntmps (args.map .is)):=by
   intro i s hi
   rcases jk _ _ i s hi with h1|rfl
   ·rw[List.getElem?_map]at h1
    simp only[Option.map_eq_some_iff]at h1
    obtain⟨v,_,rfl⟩:=h1
    rfl
   ·rfl
  have hfr:FR ρ (fx fn.ntmps (args.map .is)) {tmps:=xs.toArray++Array.replicate (fn.ntmps-xs.toArray.size) undef,defers:=[]}:=by
   refine⟨by rw[gS];simp;omega,fun i s hi=>?_, .inl rfl⟩
   rcases jk _ _ i s hi with h1|rfl
   ·rw[List.getElem?_map]at h1
    simp only[Option.map_eq_some_iff]at h1
    obtain⟨v,hv,rfl⟩:=h1
    obtain⟨x,hx,hcx⟩:=eR ha hv
    have hil:i<xs.length:=(List.getElem?_eq_some_iff.1 hx).1
    have:(xs.toArray++Array.replicate (fn.ntmps-xs.toArray.size) undef).getD i undef=x:=by
     rw[Array.getD_eq_getD_getElem?,Array.getElem?_append_left (by simpa using hil)]
     simp[hx]
    show ah ρ v=some _
    rw[this]
    exact hcx
   ·trivial
  refine jV.1 (callsIn_of_wp_marks (F:=Wd none) (n:=0) hfn hc trivial (Code.wpIn_mono ?_ (gE hf0 hq hG hci hd Sub.going (uK hlo hrnd hfn hc) (rO hy hfn hc) (fun _=>rfl) c 1 _ _ ρ _ w .root h hfr hr hno)))
  intro e a' w' ⟨e',s',ρ',he,h1,h2,h3,h4,h5⟩
  subst he
  have fin:φ (cond (ba (takeN hp.length s'.hp)) (match cB cfg (bL s'.hp) s'.tm fn.results.toList with
    |some vs=>K (single vs) (bL s'.hp)
    |none=>fail) fail)→LeavesInM (Wd none) 0 P fn a'.tmps (fun e w'=>∃v hp' ρ' x,e= .returned x∧φ (K v hp')∧ρ<+:ρ'∧ah ρ' v=some x∧HR w0 ρ' hp' w') a'.defers .returning w':=by
   intro h1
   cases hnm:ba (takeN hp.length s'.hp)with
   |false=>rw[hnm]at h1;exact absurd h1 hf0
   |true=>
    rw[hnm,B4]at h1
    split at h1
    ·rename_i vs hvs
     exact sM (P:=P) hq.toQOk h2 hr.len h3 h4 hnm hvs fun x ρ2 w2 g1 g2 g3=>⟨_,_,ρ2,x,rfl,h1,g1,g2,g3⟩
    ·exact absurd h1 hf0
  cases e' with
  |normal=>exact fin h1
  |ret=>exact fin h1
  |exit id=>exact absurd h1 hf0
  |goto l=>exact absurd h1 hf0
 ·exact absurd h hf0
def FOk (P:Program) (F:List (Nat×Func)):Prop:=∀f fn,look F f=some fn→qT P f∧P.funcs[f]?=some fn
omit X in
theorem mG {ρ:List Loc}:∀{ps:List Nat} {args:List AV} {xs:List Value} {tm tm':List Slot} {t:Array Value},oT ps args tm=some tm'→ab ρ args=some xs→FR ρ tm {tmps:=t,defers:=[]}→ae tm→
  xs.length=ps.length∧FR ρ tm' {tmps:=(ps.zip xs).foldl (fun t (p,v)=>t.setIfInBounds p v) t,defers:=[]}∧ae tm'
 | [],[],xs,tm,tm',t,h,hx,hf,hn=>by
  simp only[oT,B0]at h
  subst h
  simp only[ab,B0]at hx
  subst hx
  exact⟨rfl,hf,hn⟩
 |p::ps,v::vs,xs,tm,tm',t,h,hx,hf,hn=>by
  simp only[oT,au]at h
  obtain⟨y,ys,h1,h2,rfl⟩:=aa.1 hx
  have hf':=hf.put (d:=p) (s:= .is v) (x:=y) (er hn) h1
  obtain⟨e1,e2,e3⟩:=mG h h2 (t:=t.setIfInBounds p y) hf' (eS hn rfl)
  exact⟨by simp[e1],e2,e3⟩
 | [],_::_,_,_,_,_,h,_,_,_=>by simp[oT]at h
 |_::_,[],_,_,_,_,h,_,_,_=>by simp[oT]at h
theorem rr {ρ:List Loc} {hp:List (Blk (X:=X))} {w:World} {k id:Nat} {st st':RS} {tm:List Slot} {l:Loc} {r r':Loop} (hr:HR w0 ρ hp w) (hk:hp[k]?=some (.rcd st id tm)) (hl:ρ[k]?=some l) (hw:w.heap[l.b]?=some (.loop r)) (hst:zu st' r'.state r'.pending)
  (e1:r'.tmps=r.tmps) (e2:r'.params=r.params) (e3:r'.assign=r.assign) (e4:r'.body=r.body):HR w0 ρ (hp.set k (.rcd st' id tm)) (w.putObj l.b (.loop r')):=by
 obtain⟨b1,b2,r0,b3,b4,b5,b6,b7⟩:=hr.blk k _ l hk hl
 rw[hw]at b3
 simp only[B0,Obj.loop.injEq]at b3
 subst b3
 obtain⟨g1,g2,g3,g4,g5⟩:=nI (w:=w) (b:=l.b) (o:= .loop r')
 exact hr.write hk hl rfl rfl b1 b2 g2 g3 g4 g5 g1 ⟨b1,b2,r',World.putObj_heap_same (Array.getElem?_eq_some_iff.1 hw).1,hst,by rw[e2,e3,e4];exact b5,by rw[e1];exact b6,b7⟩
theorem rp (hf0:¬φ fail) (hq:EOk P G cfg) (hG:G w0.w) {ci:bo (X:=X) (R:=R)} (hci:hD P w0 φ ci) (hd:∀c:Cfg (X:=X),EOk P G c→cC P w0 c fail φ) {fuel k:Nat} {args:List AV} {hp:List (Blk (X:=X))} {K:AV→List (Blk (X:=X))→R}
  (h:φ (round cfg fail ci fuel k args hp K)) {ρ:List Loc} {w:World} {xs:List Value} {l:Loc} (hr:HR w0 ρ hp w) (ha:ab ρ args=some xs) (hl:ρ[k]?=some l):
  YieldAt (Wd none) 0 P l.b xs.toArray w (fun e w'=>∃v hp' ρ' x,e= .returned x∧φ (K v hp')∧ρ<+:ρ'∧ah ρ' v=some x∧HR w0 ρ' hp' w'):=by
 unfold round at h
 rw[ak]at h
 split at h
 ·rename_i id tm hk
  split at h
  ·rename_i ps a0 c0 hsrc
   split at h
   ·rename_i tm0 htm0
    rw[dH]at h
    obtain⟨b1,b2,r,b3,⟨b4,b4'⟩,b5,b6,b7⟩:=hr.blk k _ l hk hl
    rw[hsrc]at b5
    simp only[B0,Prod.mk.injEq]at b5
    obtain⟨rfl,rfl,rfl⟩:=b5
    obtain⟨s1,s2,s3⟩:=mG htm0 ha b6 b7
    have hq':EOk P G {cfg with lp:=[],Y:=[],rnd:=true}:={hq with}
    have hd':=hd _ hq'
    have hS:Down (fun(_:Nat) (_:Code)=>True):=⟨fun _ _ _ _=>⟨trivial,trivial⟩,fun _ _ _ _ _=>⟨trivial,trivial⟩,fun _ _ _ _=>trivial,fun _ _ _=>trivial,fun _ _ _=>trivial⟩
    have hlo':nt P G {cfg with lp:=[],Y:=[],rnd:=true} 0 (fun _ _=>True):=fun p c cx sp con _ e=>by cases e
    have hy':kZ {cfg with lp:=[],Y:=[],rnd:=true} 0 (fun _ _=>True):=fun p g ps a c id keep _ e=>by cases e
    have hrn':({cfg with lp:=[],Y:=[],rnd:=true}:Cfg (X:=X)).rnd=false→some l.b=none:=fun e=>by cases e
    have hsz:xs.toArray.size=r.params.size:=by simpa using s1
    refine⟨r.fn,_,r.assign,r.body,run_yield b3 hsz,roundIn_of_wpIn trivial ?_⟩
    have hfold:(r.params.zip xs.toArray).foldl (fun tmps (t,a)=>tmps.setIfInBounds t a) r.tmps=(r.params.toList.zip xs).foldl (fun t (p,v)=>t.setIfInBounds p v) r.tmps:=by
     rw[←Array.foldl_toList,Array.toList_zip]
    rw[hfold]
    have h1:=gE (rn:=some l.b) hf0 hq' hG hci hd' hS hlo' hy' hrn' r.assign 1 _ _ ρ _ w trivial h s2 hr s3
    refine Code.wpIn_mono ?_ h1
    intro e a1 w1 ⟨e',s',ρ1,he,g1,g2,g3,g4,g5⟩
    subst he
    cases e' with
    |exit id=>exact absurd g1 hf0
    |goto l=>exact absurd g1 hf0
    |ret=>exact absurd g1 hf0
    |normal=>
     simp only[ak]at g1
     split at g1
     ·rename_i id1 tm1 hk1
      rw[b8,au]at g1
      have hl1:=lk g2 hl
      obtain⟨d1,d2,r1,d3,⟨d4,d4'⟩,d5,d6,d7⟩:=g4.blk k _ l hk1 hl1
      refine⟨_,run_beginRound d3 d4,?_⟩
      have hr2:=rr (st':= .busy) (r':={r1 with state:= .busy}) g4 hk1 hl1 d3 ⟨rfl,d4'⟩ rfl rfl rfl rfl
      have h2:=gE (rn:=some l.b) hf0 hq' hG hci hd' hS hlo' hy' hrn' r.body 1 _ _ ρ1 a1 _ trivial g1 g3 hr2 g5
      refine Code.wpIn_mono ?_ h2
      intro e a2 w2 ⟨e2,s2,ρ2,he,j1,j2,j3,j4,j5⟩
      subst he
      simp only[ak]at j1
      split at j1
      ·rename_i id2 tm2 hk2
       have hl2:=lk j2 hl1
       obtain⟨f1,f2,r2,f3,⟨f4,f4'⟩,f5,f6,f7⟩:=j4.blk k _ l hk2 hl2
       have pre:=List.IsPrefix.trans g2 j2
       have fin:∀(jump:Option Code) (st:RS) (b:Bool),zu st (if jump.isNone then .ready else .done) jump→b=jump.isNone→φ (K (.bool b) (s2.hp.set k (.rcd st id2 tm2)))→
         ∃v w',(Instr.endRound l.b jump).run P w2= .ok v w'∧∃v' hp' ρ' x,Ending.returned v= .returned x∧φ (K v' hp')∧ρ<+:ρ'∧ah ρ' v'=some x∧HR w0 ρ' hp' w':=by
        intro jump st b hst hb hφ
        refine⟨_,_,run_endRound jump f3,_,_,ρ2,_,rfl,hφ,pre,?_,?_⟩
        ·subst hb;rfl
        ·exact rr (r':={r2 with state:=if jump.isNone then .ready else .done,pending:=jump}) j4 hk2 hl2 f3 hst rfl rfl rfl rfl
       cases e2 with
       |normal=>
        simp only[b8,au]at j1
        exact fin none .ready true ⟨rfl,rfl⟩ rfl j1
       |exit id=>
        simp only[b8,au]at j1
        exact fin (some (.exit id)) (.done (.exit id)) false ⟨rfl,rfl⟩ rfl j1
       |goto t=>
        simp only[b8,au]at j1
        exact fin (some (.goto t)) (.done (.goto t)) false ⟨rfl,rfl⟩ rfl j1
       |ret=>
        simp only[b8,au]at j1
        exact fin (some .ret) (.done .ret) false ⟨rfl,rfl⟩ rfl j1
      ·exact absurd j1 hf0
     ·exact absurd g1 hf0
   ·exact absurd h hf0
  ·exact absurd h hf0
 ·exact absurd h hf0
theorem ft (hf0:¬φ fail) (hq:EOk P G cfg) (hlo:nv P G cfg) (hy:kY P cfg) (hrnd:cfg.rnd=false) (hG:G w0.w) (hF:FOk P cfg.F) (hd:∀w1:aN,w1.w=w0.w→∀c:Cfg (X:=X),EOk P G c→cC P w1 c fail φ) {fuel:Nat}:∀d,hD P w0 φ (bA cfg fail fuel d)
 |0=>fun w1 hw1 n args hp K h=>absurd h hf0
 |d+1=>fun w1 hw1 n args hp K h ρ w xs hr ha=>by
  have hG:G w1.w:=by rw[hw1];exact hG
  have ih0:=ft hf0 hq hlo hy hrnd (by rw[←hw1];exact hG) hF hd (fuel:=fuel) d
  have ih:hD P w1 φ (bA cfg fail fuel d):=fun w2 e=>ih0 w2 (e.trans hw1)
  unfold bA at h
  split at h
  ·rename_i fn hfn
   cases hyb:Nat.ble dG n with
   |true=>rw[hyb]at h;exact absurd h hf0
   |false=>
    rw[hyb,B5]at h
    obtain⟨h1,h2⟩:=hF n fn hfn
    refine⟨fun _=>⟨h1,iM hf0 hq hlo hy hrnd hG ih (hd w1 hw1 _ hq) h2 h hr ha⟩,fun k l e=>?_⟩
    subst e
    rw[Nat.ble_eq_true_of_le (Nat.le_add_right _ _)]at hyb
    cases hyb
  ·cases hyb:Nat.ble dG n with
   |false=>rw[hyb]at h;exact absurd h hf0
   |true=>
    rw[hyb,B4]at h
    refine⟨(fun e=>by cases e),fun k l e hl hn=>?_⟩
    subst e
    rw[Nat.add_sub_cancel_left]at h
    exact rp hf0 hq hG ih (hd w1 hw1) h hr ha hl
end
end Go.Proofs.Ytdadgkgkdgnihaa.Px
