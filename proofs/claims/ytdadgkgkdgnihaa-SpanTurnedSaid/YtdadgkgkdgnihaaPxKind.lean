/- Regions with guards, calls in one chain, and loads of what was there before: what is asked of them. -/
import Derived.Test.YtdadgkgkdgnihaaPxCore
import Derived.OrdersHeld
set_option linter.unusedVariables false
set_option linter.unusedSimpArgs false
namespace Go.Proofs.Ytdadgkgkdgnihaa.Px
open Go Go.RowKit
section
variable [X:aS] {cfg:Cfg (X:=X)}
structure GK (wk:Bool) (ops:List Oper) (s:St (X:=X)):Prop where
 kind:∀(i:Nat) (o:Oper),ops[i]?=some o→bk o.op=some 0∨bk o.op=some 1∨bk o.op=some 2
 back:∀(i:Nat) (o:Oper) (j:Nat),ops[i]?=some o→aW o j=true→j<i
 guard:∀(i:Nat) (o:Oper) (g:Nat) (pol:Bool),ops[i]?=some o→o.guard=some (g,pol)→Anc ops i g
 load:∀(i:Nat) (o:Oper) (t:TypeId) (x:Operand),ops[i]?=some o→o.op= .load t x→o.guard≠none→wk=true∨(∀(j:Nat) (p:Oper),ops[j]?=some p→bC p=true)∨∃tt k q,x= .tmp tt∧(∀(j:Nat) (p:Oper),ops[j]?=some p→p.dst≠some tt)∧s.tm[tt]?=some (.is (.ptr k q))∧k<s.hp.length
 slc:∀(i:Nat) (o:Oper) (t:TypeId) (x:Operand) (lo hi mx:Option Operand),ops[i]?=some o→o.op= .slice t x lo hi mx→wk=true
 look:∀(i j:Nat) (o p:Oper) (d:Nat),ops[i]?=some o→ops[j]?=some p→p.dst=some d→a6 o d=true→Anc ops i j
 one:∀(i j:Nat) (o p:Oper) (d:Nat),ops[i]?=some o→ops[j]?=some p→i≠j→p.dst=some d→o.dst≠some d
 calls:∀(i j:Nat) (o p:Oper),ops[i]?=some o→ops[j]?=some p→cJ o=true→cJ p=true→j<i→Anc ops i j
theorem GK.of {wk:Bool} {ops:List Oper} {s:St (X:=X)} (h:kV wk ops s (reach ops)=true):GK wk ops s:=by
 simp only[kV,List.all_eq_true,B1]at h
 have h1:∀(i:Nat) (o:Oper),ops[i]?=some o→tV wk ops s (reach ops) i o=true:=fun i o ho=>(h _ (by have:=cE ops 0 i o ho;simpa using this)).1
 have h2:∀(i j:Nat) (o p:Oper),ops[i]?=some o→ops[j]?=some p→qJ (reach ops) i o j p=true:=fun i j o p ho hp=>
  (h _ (by have:=cE ops 0 i o ho;simpa using this)).2 (j,p) (by have:=cE ops 0 j p hp;simpa using this)
 refine⟨fun i o ho=>?_,fun i o j ho he=>?_,fun i o g pol ho hg=>?_,fun i o t x ho hl hng=>?_,fun i o t x lo hi mx ho hl=>?_,fun i j o p d ho hp hd hlk=>?_,fun i j o p d ho hp hne hd=>?_,fun i j o p ho hp ho2 hp2 hji=>?_⟩
 ·have:=h1 i o ho
  simp only[tV,B1]at this
  have:=this.2.2
  split at this
  ·rename_i e;rw[e];simp[bk,aq]
  ·rename_i e;rw[e];simp[bk]
  ·rename_i e _;exact .inl (by assumption)
  ·rename_i e _;exact .inr (.inr (by assumption))
  ·cases this
 ·have:=h1 i o ho
  simp only[tV,B1,List.all_eq_true,Bool.or_eq_true,Bool.not_eq_true',Nat.blt_eq]at this
  simp only[aW,List.any_eq_true,B1]at he
  obtain⟨e,he1,he2,he3⟩:=he
  have:=this.1 e he1
  rw[he2]at this
  rcases this with h|h
  ·cases h
  ·rwa[B2 he3]at h
 ·have:=h1 i o ho
  simp only[tV,B1,hg]at this
  exact fU this.2.1
 ·have:=h1 i o ho
  simp only[tV,B1]at this
  have:=this.2.2
  rw[hl]at this
  cases x with
  |tmp tt=>
   have hgd:ung o=false:=by
    unfold ung
    cases hg:o.guard with
    |none=>exact absurd hg hng
    |some _=>rfl
   cases wk with
   |true=>exact .inl rfl
   |false=>
   refine .inr ?_
   simp only[hgd,Bool.or_self,B5]at this
   simp only[Bool.or_eq_true,B1,Bool.not_eq_true',ak,List.all_eq_true]at this
   rcases this with this|this
   ·exact .inl fun j p hp=>this p (List.mem_of_getElem? hp)
   refine .inr ?_
   obtain⟨hw,hk⟩:=this
   split at hk
   ·rename_i k q hs
    refine⟨tt,k,q,rfl,fun j p hp e=>?_,hs,by simpa using hk⟩
    simp only[vd,List.any_eq_false]at hw
    have:=hw p (List.mem_of_getElem? hp)
    rw[e]at this
    simp at this
   ·cases hk
  |_=>simp[bk,aq]at this
 ·have:=h1 i o ho
  simp only[tV,B1]at this
  have:=this.2.2
  rw[hl]at this
  cases mx with
  |none=>exact this
  |some m=>simp[bk,aq]at this
 ·have:=h2 i j o p ho hp
  unfold qJ at this
  cases hij:Nat.beq i j with
  |true=>
   have:=B2 hij
   subst this
   rw[ho]at hp
   simp only[B0]at hp
   subst hp
   simp only[qJ,hij,B4,hd,hlk]at*
   simp at this
  |false=>
   rw[hij,B5]at this
   simp only[hd,hlk,B4,B1]at this
   exact fU this.1.1
 ·have:=h2 i j o p ho hp
  unfold qJ at this
  have hij:Nat.beq i j=false:=by cases hb:Nat.beq i j with
   |true=>exact absurd (B2 hb) hne
   |false=>rfl
  rw[hij,B5]at this
  simp only[hd,B1]at this
  have:=this.1.2
  intro e
  rw[e]at this
  simp at this
 ·have:=h2 i j o p ho hp
  unfold qJ at this
  have hij:Nat.beq i j=false:=by cases hb:Nat.beq i j with
   |true=>exact absurd (B2 hb) (by omega)
   |false=>rfl
  rw[hij,B5]at this
  simp only[B1,ho2,hp2,Bool.true_and,show Nat.blt j i=true by simpa using hji,Bool.and_self,B4]at this
  exact fU this.2
end
end Go.Proofs.Ytdadgkgkdgnihaa.Px


namespace Go.Proofs.Ytdadgkgkdgnihaa.Px
open Go Go.RowKit
section
variable [X:aS] {cfg:Cfg (X:=X)} {ops:List Oper} {hasG:Bool} {s0:St (X:=X)} {S:Nat→St (X:=X)}
theorem sU {o:Oper} {sl:Slot} {s s':St (X:=X)} (h:lX none hasG o sl s some=some s'):
  s'=cD s o.dst sl∧(∀d,o.dst=some d→(hasG=true→bZ d (sl::s.tm)=true)∧(hasG=false→∀cs v,sl≠ .opt cs v)):=by
 unfold lX at h
 split at h
 ·rename_i hd
  simp only[B0]at h
  exact⟨by rw[hd,←h];rfl,fun d e=>by rw[hd]at e;cases e⟩
 ·rename_i d hd
  split at h
  ·cases hn:bZ d (sl::s.tm)with
   |false=>rw[hn]at h;cases h
   |true=>
    rw[hn,B4]at h
    simp only[B0]at h
    refine⟨by rw[hd,←h];rfl,fun d' e=>?_⟩
    rw[hd]at e
    simp only[B0]at e
    subst e
    exact⟨fun _=>hn,fun e=>by cases e⟩
  ·split at h
   ·cases h
   ·rename_i hv
    simp only[B0]at h
    exact⟨by rw[hd,←h];rfl,fun d' e=>⟨(fun e=>by cases e),fun _ cs v e=>hv cs v e⟩⟩
theorem u7 {o:Oper} {sl:Slot} {s:St (X:=X)} (h:∀d,o.dst=some d→(hasG=true→bZ d (sl::s.tm)=true)∧(hasG=false→∀cs v,sl≠ .opt cs v)):
  lX none hasG o sl s some=some (cD s o.dst sl):=by
 unfold lX cD
 split
 ·rename_i hd;rw[hd]
 ·rename_i d hd
  rw[hd]
  obtain⟨h1,h2⟩:=h d hd
  cases hasG with
  |true=>simp only[h1 rfl,B4]
  |false=>
   simp only
   split
   ·exact absurd rfl (h2 rfl _ _)
   ·rfl
def lZ (cfg:Cfg (X:=X)):Prop:=∀n con,look cfg.H n=some con→∀args hp r,con args hp=some r→hp<+:r.hp
theorem ld (ha:lZ cfg) (hn:cfg.apn=false) {cs:List (Nat×Bool)} {op:Op} {hp h:List (Blk (X:=X))} {tm:List Slot} {ok:Bool} {v:Option AV} (hk:bk op=some 0∨bk op=some 1∨bk op=some 2)
  (he:aA cfg hp tm cs op=some (ok,v,h)):hp<+:h:=by
 cases op<;>simp[bk,aq]at hk<;>try (simp only[aA]at he;cases he;done)
 case buildSlice t n ps=>
  cases n with
  |zero=>
   rw[oz]at he
   split at he
   ·split at he
    ·rename_i i _ _ _ el _
     cases hb:(and i.slice (Nat.beq i.esz (X.width el)))with
     |false=>rw[hb]at he;cases he
     |true=>
      rw[hb]at he
      simp only[B4,B0,Prod.mk.injEq]at he
      obtain⟨_,_,rfl⟩:=he
      exact List.prefix_append _ _
    ·cases he
   ·cases he
  |succ n=>
   rw[om]at he
   split at he
   ·rename_i vs i _ _
    cases hb:(and i.slice (and (and (Nat.beq i.zero.length i.esz) (Nat.ble 1 i.esz)) (and (Nat.ble 1 (n+1)) (Nat.ble ((n+1)*i.esz) 4096))))with
    |false=>rw[hb]at he;cases he
    |true=>
     rw[hb,B4]at he
     split at he
     ·simp only[B0,Prod.mk.injEq]at he
      obtain⟨_,_,rfl⟩:=he
      exact List.prefix_append _ _
     ·cases he
   ·cases he
 case slice t x lo hi mx=>
  simp only[aA,hn,B5]at he
  cases he
 rename_i c
 simp only[aA]at he
 split at he
 ·split at he
  ·split at he
   ·split at he
    ·split at he
     ·simp[hn]at he
     ·cases he
    ·cases he
   ·cases he
  ·split at he
   ·split at he
    ·rename_i con eo
     simp only[Option.map_eq_some_iff,Prod.mk.injEq]at he
     obtain⟨r,hr,_,_,rfl⟩:=he
     exact ha _ _ eo _ _ _ hr
    ·rw[hn]at he;cases he
   ·cases he
  ·cases he
 ·cases he
theorem gR (ha:lZ cfg) (hn:cfg.apn=false) {cs:List (Nat×Bool)} {op:Op} {hp h:List (Blk (X:=X))} {tm:List Slot} {sl:Slot} (hk:bk op=some 0∨bk op=some 1∨bk op=some 2)
  (he:runCore cfg cs op hp tm=some (sl,h)):hp<+:h:=by
 unfold runCore at he
 split at he
 ·rename_i ok v hp'
  cases ok with
  |false=>cases he
  |true=>simp only[B4,B0,Prod.mk.injEq]at he;rw[he.2];exact List.prefix_refl _
 ·split at he
  ·split at he
   ·simp only[B0,Prod.mk.injEq]at he;rw[he.2];exact List.prefix_refl _
   ·split at he
    ·split at he
     ·rename_i ds g hb
      cases hds:ds.all (bW cs)with
      |false=>rw[hds]at he;cases he
      |true=>
       rw[hds,B4]at he
       split at he
       ·simp only[B0,Prod.mk.injEq]at he;rw[he.2];exact List.prefix_refl _
       ·cases he
     ·cases he
    ·cases he
  ·split at he
   ·rename_i ok v h' he'
    cases ok with
    |false=>cases he
    |true=>simp only[B4,B0,Prod.mk.injEq]at he;rw[←he.2];exact ld ha hn hk he'
   ·rename_i ok h' he'
    cases ok with
    |false=>cases he
    |true=>simp only[B4,B0,Prod.mk.injEq]at he;rw[←he.2];exact ld ha hn hk he'
   ·cases he
theorem pL (ha:lZ cfg) (hn:cfg.apn=false) {o:Oper} {cs:List (Nat×Bool)} {hp h:List (Blk (X:=X))} {tm:List Slot} {sl:Slot} (hk:bk o.op=some 0∨bk o.op=some 1∨bk o.op=some 2)
  (he:core cfg o cs hp tm=some (sl,h)):hp<+:h:=by
 unfold core at he
 split at he
 ·exact gR ha hn hk he
 ·split at he
  ·rename_i ok v hp'
   cases hc:(or ok (not (ai tm cs)))with
   |false=>rw[hc]at he;cases he
   |true=>rw[hc,B4]at he;simp only[B0,Prod.mk.injEq]at he;rw[he.2];exact List.prefix_refl _
  ·split at he
   ·split at he
    ·simp only[B0,Prod.mk.injEq]at he;rw[he.2];exact List.prefix_refl _
    ·cases hc:ai tm cs with
     |true=>rw[hc,B4]at he;exact gR ha hn hk he
     |false=>rw[hc,B5]at he;simp only[B0,Prod.mk.injEq]at he;rw[he.2];exact List.prefix_refl _
   ·cases hc:ai tm cs with
    |true=>rw[hc,B4]at he;exact gR ha hn hk he
    |false=>rw[hc,B5]at he;simp only[B0,Prod.mk.injEq]at he;rw[he.2];exact List.prefix_refl _
end
end Go.Proofs.Ytdadgkgkdgnihaa.Px


namespace Go.Proofs.Ytdadgkgkdgnihaa.Px
open Go Go.RowKit
section
variable [X:aS] {cfg:Cfg (X:=X)} {ops:List Oper} {hasG:Bool} {s0:St (X:=X)} {S:Nat→St (X:=X)}
omit X in
theorem wz {o:Oper} {tm tm':List Slot} (h:∀g pol og tg,o.guard=some (g,pol)→ops[g]?=some og→og.dst=some tg→tm'[tg]?=tm[tg]?):gcs ops o tm'=gcs ops o tm:=by
 unfold gcs
 cases hg:o.guard with
 |none=>rfl
 |some gp=>
  obtain⟨g,pol⟩:=gp
  simp only[ak]
  cases ho:ops[g]? with
  |none=>rfl
  |some og=>
   simp only
   cases hd:og.dst with
   |none=>rfl
   |some tg=>simp only;rw[dn (h g pol og tg hg ho hd)]
theorem fk {cs:List (Nat×Bool)} {o:Oper} {hp hp':List (Blk (X:=X))} {tm tm':List Slot} {sl:Slot} {h1:List (Blk (X:=X))} (h:iG o tm tm') (hcs:∀c∈cs,tm'[c.1]?=tm[c.1]?) (hm:∀cs,nz cs o tm hp hp')
  (hk:Still cfg o.op) (hc:core cfg o cs hp tm=some (sl,h1)):h1=hp∧core cfg o cs hp' tm'=some (sl,hp'):=by
 have hr:=fV h
 unfold core at hc⊢
 cases hg:o.guard with
 |none=>rw[hg]at hc;exact jB h (hm _) hk hc
 |some gp=>
  rw[hg]at hc
  simp only at hc⊢
  rw[cA (cfg:=cfg) (cs:=cs) h (hm cs),iI hcs]
  cases hpo:af cfg hp tm cs o.op with
  |some r=>
   obtain⟨ok,v⟩:=r
   rw[hpo]at hc
   simp only at hc⊢
   cases hb:(or ok (not (ai tm cs)))with
   |false=>rw[hb]at hc;cases hc
   |true=>rw[hb,B4]at hc;simp only[B0,Prod.mk.injEq]at hc;obtain⟨rfl,rfl⟩:=hc;exact⟨rfl,rfl⟩
  |none=>
   rw[hpo]at hc
   simp only at hc⊢
   have key:(cond (ai tm cs) (runCore cfg cs o.op hp tm) (some (.opt cs (.bool false),hp)))=some (sl,h1)→h1=hp∧(cond (ai tm cs) (runCore cfg cs o.op hp' tm') (some (.opt cs (.bool false),hp')))=some (sl,hp'):=by
    intro hc
    cases hb:ai tm cs with
    |true=>rw[hb,B4]at hc;exact jB h (hm _) hk hc
    |false=>rw[hb,B5]at hc;simp only[B0,Prod.mk.injEq]at hc;obtain⟨rfl,rfl⟩:=hc;exact⟨rfl,rfl⟩
   cases hop:o.op
   case pick c a b=>
    rw[hop]at hc hr key
    simp only at hc⊢
    have hv:=mE (cs:=cs) (c:=c) (a:=a) (b:=b) (tm:=tm) (tm':=tm') (fun t ht=>hr t (by simp[Op.operands];exact ht))
    rw[hv]
    cases hpv:fu tm cs c a b with
    |some v=>rw[hpv]at hc;simp only[B0,Prod.mk.injEq]at hc;obtain⟨rfl,rfl⟩:=hc;exact⟨rfl,rfl⟩
    |none=>rw[hpv]at hc;exact key hc
   all_goals
    rw[hop]at hc key
    exact key hc
def vW (hp:List (Blk (X:=X))):AV→Prop
 | .ptr k _=>k<hp.length
 | .pel k _ _ _=>k<hp.length∧deref hp k<hp.length
 |_=>True
theorem tL {hpA hpB:List (Blk (X:=X))} (hAB:hpA<+:hpB∨hpB<+:hpA) {g:Bool} {n:Nat} {v:AV} {r:Bool×AV} (h:loadAt g n hpA v=some r) (hs:vW hpB v):loadAt g n hpB v=some r:=by
 have same:∀k b,hpA[k]?=some b→k<hpB.length→hpB[k]?=some b:=by
  intro k b hk hl
  rcases hAB with⟨t,rfl⟩|⟨t,rfl⟩
  ·rw[List.getElem?_append_left (List.getElem?_eq_some_iff.1 hk).1];exact hk
  ·rw[List.getElem?_append_left hl]at hk;exact hk
 cases v with
 |ptr k o=>
  simp only[loadAt,ak]at h⊢
  cases hk:hpA[k]? with
  |none=>rw[hk]at h;cases h
  |some b=>rw[hk]at h;rw[same k b hk hs];exact h
 |pel k i wd o=>
  have hd:deref hpB k=deref hpA k:=by
   unfold deref
   rw[ak,ak]
   cases hk:hpA[k]? with
   |some b=>rw[same k b hk hs.1]
   |none=>
    have:loadAt (X:=X) g n hpA (.pel k i wd o)=none:=by
     simp only[loadAt,deref,ak,hk]
    rw[this]at h;cases h
  have hs2:=hs.2
  simp only[loadAt,ak]at h⊢
  rw[hd]at hs2⊢
  cases hk:hpA[deref hpA k]? with
  |none=>rw[hk]at h;cases h
  |some b=>rw[hk]at h;rw[same _ b hk hs2];exact h
 |_=>simp[loadAt]at h
theorem tJ {gl:List (Nat×List AV)} {g:Bool} {n:Nat} {v:AV} {r:Bool×AV} {hp:List (Blk (X:=X))} (h:orL none (rW gl g n v)=some r):loadAt (X:=X) g n hp v=none:=by
 cases v with
 |val u=>rfl
 |_=>simp[orL,rW]at h
theorem vS {o:Oper} {t:TypeId} {x:Operand} {cs:List (Nat×Bool)} {hp hp' h1:List (Blk (X:=X))} {tm tm':List Slot} {sl:Slot} (hop:o.op= .load t x) (hgd:o.guard=none) (hrd:rd tm' [] x=rd tm [] x) (hAB:hp<+:hp'∨hp'<+:hp)
  (hs:∀v,rd tm [] x=some v→vW hp' v) (hc:core cfg o cs hp tm=some (sl,h1)):h1=hp∧core cfg o cs hp' tm'=some (sl,hp'):=by
 have key:af cfg hp tm [] (.load t x)=none→False:=by
  intro hn
  unfold core at hc
  rw[hgd]at hc
  simp only[hop,runCore,hn,aA]at hc
  cases hc
 cases hp0:af cfg hp tm [] (.load t x)with
 |none=>exact(key hp0).elim
 |some r=>
  obtain⟨ok,v⟩:=r
  have hp1:af cfg hp' tm' [] (.load t x)=some (ok,v):=by
   simp only[af]at hp0⊢
   rw[hrd]
   split at hp0
   ·rename_i u i hu hi
    cases hl:loadAt (X:=X) i.agg i.size hp u with
    |some r=>rw[hl]at hp0;rw[tL hAB hl (hs u hu)];exact hp0
    |none=>
     rw[hl]at hp0
     rw[tJ hp0]
     exact hp0
   ·cases hp0
  unfold core at hc⊢
  rw[hgd]at hc⊢
  simp only[hop,runCore,hp0]at hc
  simp only[hop,runCore,hp1]
  cases ok with
  |false=>cases hc
  |true=>
   simp only[B4,B0,Prod.mk.injEq]at hc⊢
   obtain⟨rfl,rfl⟩:=hc
   exact⟨rfl,rfl,trivial⟩
theorem pU {cs:List (Nat×Bool)} {o:Oper} {hp:List (Blk (X:=X))} {tm tm':List Slot} (h:iG o tm tm') (hcs:∀c∈cs,tm'[c.1]?=tm[c.1]?) (hk:bk o.op=some 2):core cfg o cs hp tm'=core cfg o cs hp tm:=by
 have e1:∀cs,af cfg hp tm' cs o.op=af cfg hp tm cs o.op:=fun cs=>cA h (.inr (.inl rfl))
 have e2:∀cs,aA cfg hp tm' cs o.op=aA cfg hp tm cs o.op:=fun cs=>pr h (.inr (.inr hk))
 have e3:∀cs,runCore cfg cs o.op hp tm'=runCore cfg cs o.op hp tm:=by
  intro cs
  have e2':=e2 cs
  unfold runCore
  rw[e1 cs]
  cases hop:o.op<;>rw[hop]at hk<;>simp[bk,aq]at hk
  all_goals
   rw[hop]at e2'
   simp only[e2']
 unfold core
 simp only[e1,e3,iI hcs]
 cases hop:o.op<;>rw[hop]at hk<;>simp[bk,aq]at hk
end
end Go.Proofs.Ytdadgkgkdgnihaa.Px


namespace Go.Proofs.Ytdadgkgkdgnihaa.Px
open Go Go.RowKit
theorem Anc.trans {ops:List Oper} {i j k:Nat} (h:Anc ops i j) (h2:Anc ops j k):Anc ops i k:=by
 induction h with
 |edge h he=>exact .step h he h2
 |step h he _ ih=>exact .step h he (ih h2)
section
variable [X:aS] {wk:Bool} {cfg:Cfg (X:=X)} {ops:List Oper} {hasG:Bool} {s0:St (X:=X)} {S:Nat→St (X:=X)}
theorem GK.lt (hk:GK wk ops s0) {i j:Nat} (h:Anc ops i j):j<i:=by
 induction h with
 |edge h he=>exact hk.back _ _ _ h he
 |step h he _ ih=>exact Nat.lt_trans ih (hk.back _ _ _ h he)
structure ca (cfg:Cfg (X:=X)) (ops:List Oper) (hasG:Bool) (s0:St (X:=X)) (S:Nat→St (X:=X)):Prop where
 begin:S 0=s0
 step:∀(k:Nat) (o:Oper),ops[k]?=some o→fb cfg ops hasG o (S k)=some (S (k+1))
theorem ca.at (hr:ca cfg ops hasG s0 S) {k:Nat} {o:Oper} (ho:ops[k]?=some o):∃cs sl,gcs ops o (S k).tm=some cs∧core cfg o cs (S k).hp (S k).tm=some (sl,(S (k+1)).hp)∧
  (S (k+1)).tm=(cD (S k) o.dst sl).tm∧∀d,o.dst=some d→(hasG=true→bZ d (sl::(S k).tm)=true)∧(hasG=false→∀cs v,sl≠ .opt cs v):=by
 have:=hr.step k o ho
 rw[bI]at this
 cases hg:gcs ops o (S k).tm with
 |none=>rw[hg]at this;cases this
 |some cs=>
  rw[hg]at this
  simp only at this
  cases hc:core cfg o cs (S k).hp (S k).tm with
  |none=>rw[hc]at this;cases this
  |some r=>
   obtain⟨sl,h⟩:=r
   rw[hc]at this
   obtain⟨h1,h2⟩:=sU this
   refine⟨cs,sl,rfl,?_,?_,h2⟩
   ·rw[hc,h1]
    unfold cD
    cases o.dst<;>rfl
   ·rw[h1]
    unfold cD
    cases o.dst<;>rfl
theorem ca.len (hr:ca cfg ops hasG s0 S):∀k,k≤ops.length→(S k).tm.length=s0.tm.length
 |0,_=>by rw[hr.begin]
 |k+1,h=>by
  obtain⟨cs,sl,_,_,h3,_⟩:=hr.at (List.getElem?_eq_getElem (show k<ops.length by omega))
  rw[h3,←hr.len k (by omega)]
  unfold cD
  split<;>simp[au]
theorem ca.other (hr:ca cfg ops hasG s0 S) {k t:Nat} {o:Oper} (ho:ops[k]?=some o) (ht:o.dst≠some t):(S (k+1)).tm[t]?=(S k).tm[t]?:=by
 obtain⟨cs,sl,_,_,h3,_⟩:=hr.at ho
 rw[h3]
 unfold cD
 split
 ·rename_i d hd
  simp only[au]
  rw[List.getElem?_set_ne (fun e=>ht (by rw[hd,e]))]
 ·rfl
theorem ca.jn (hr:ca cfg ops hasG s0 S) {t i:Nat}:∀j,i≤j→j≤ops.length→(∀k o,i≤k→k<j→ops[k]?=some o→o.dst≠some t)→(S j).tm[t]?=(S i).tm[t]?
 |0,hij,_,_=>by rw[show i=0 by omega]
 |j+1,hij,hj,h=>by
  by_cases e:i=j+1
  ·rw[e]
  ·have hlt:j<ops.length:=by omega
   rw[hr.other (List.getElem?_eq_getElem hlt) (h j ops[j] (by omega) (by omega) (List.getElem?_eq_getElem hlt))]
   exact hr.jn j (by omega) (by omega) (fun k o h1 h2 h3=>h k o h1 (by omega) h3)
theorem ca.written (hr:ca cfg ops hasG s0 S) (hk:GK wk ops s0) {k t j:Nat} {o:Oper} (ho:ops[k]?=some o) (hd:o.dst=some t) (hkj:k<j) (hj:j≤ops.length):(S j).tm[t]?=(S (k+1)).tm[t]?:=
 hr.jn j (by omega) hj (fun k' o' h1 h2 h3 e=>hk.one k' k o' o t h3 ho (by omega) hd e)
theorem ca.cF (hr:ca cfg ops hasG s0 S) {t j:Nat} (hj:j≤ops.length) (h:∀k o,k<j→ops[k]?=some o→o.dst≠some t):(S j).tm[t]?=s0.tm[t]?:=by
 rw[hr.jn j (i:=0) (Nat.zero_le _) hj (fun k o _ h2 h3=>h k o h2 h3),hr.begin]
end
end Go.Proofs.Ytdadgkgkdgnihaa.Px


namespace Go.Proofs.Ytdadgkgkdgnihaa.Px
open Go Go.RowKit
section
variable [X:aS] {wk:Bool} {cfg:Cfg (X:=X)} {ops:List Oper} {hasG:Bool} {s0:St (X:=X)} {S:Nat→St (X:=X)}
theorem fB {cs ds:List (Nat×Bool)} {op:Op} {hp h:List (Blk (X:=X))} {tm:List Slot} {v:AV} (he:runCore cfg cs op hp tm=some (.opt ds v,h)):False:=by
 unfold runCore at he
 split at he
 ·rename_i ok v hp'
  cases ok with
  |false=>cases he
  |true=>simp at he
 ·split at he
  ·split at he
   ·simp at he
   ·split at he
    ·split at he
     ·rename_i ds g hb
      cases hds:ds.all (bW cs)with
      |false=>rw[hds]at he;cases he
      |true=>
       rw[hds,B4]at he
       split at he
       ·simp at he
       ·cases he
     ·cases he
    ·cases he
  ·split at he
   ·rename_i ok v h' he'
    cases ok<;>simp at he
   ·rename_i ok h' he'
    cases ok<;>simp at he
   ·cases he
theorem iS {o:Oper} {cs ds:List (Nat×Bool)} {hp h:List (Blk (X:=X))} {tm:List Slot} {v:AV} (he:core cfg o cs hp tm=some (.opt ds v,h)):ds=cs:=by
 unfold core at he
 split at he
 ·exact(fB he).elim
 ·split at he
  ·rename_i ok v hp'
   cases hc:(or ok (not (ai tm cs)))with
   |false=>rw[hc]at he;cases he
   |true=>rw[hc,B4]at he;simp only[B0,Prod.mk.injEq,Slot.opt.injEq]at he;exact he.1.1.symm
  ·split at he
   ·split at he
    ·simp only[B0,Prod.mk.injEq,Slot.opt.injEq]at he;exact he.1.1.symm
    ·cases hc:ai tm cs with
     |true=>rw[hc,B4]at he;exact(fB he).elim
     |false=>rw[hc,B5]at he;simp only[B0,Prod.mk.injEq,Slot.opt.injEq]at he;exact he.1.1.symm
   ·cases hc:ai tm cs with
    |true=>rw[hc,B4]at he;exact(fB he).elim
    |false=>rw[hc,B5]at he;simp only[B0,Prod.mk.injEq,Slot.opt.injEq]at he;exact he.1.1.symm
theorem ca.slot (hr:ca cfg ops hasG s0 S) {g tg:Nat} {og:Oper} {x:Slot} (ho:ops[g]?=some og) (hd:og.dst=some tg) (hx:(S (g+1)).tm[tg]?=some x):
  ∃cs,gcs ops og (S g).tm=some cs∧core cfg og cs (S g).hp (S g).tm=some (x,(S (g+1)).hp):=by
 obtain⟨cs,sl,h1,h2,h3,_⟩:=hr.at ho
 rw[h3,hd]at hx
 simp only[cD,au]at hx
 by_cases hl:tg<(S g).tm.length
 ·rw[List.getElem?_set_self hl]at hx
  simp only[B0]at hx
  subst hx
  exact⟨cs,h1,h2⟩
 ·rw[List.getElem?_eq_none (by rw[List.length_set];omega)]at hx
  cases hx
theorem ca.conds (hr:ca cfg ops hasG s0 S) (hk:GK wk ops s0):∀(j:Nat) (o:Oper) (cs:List (Nat×Bool)),ops[j]?=some o→gcs ops o (S j).tm=some cs→∀c∈cs,∃g og,Anc ops j g∧ops[g]?=some og∧og.dst=some c.1:=by
 intro j
 induction j using Nat.strongRecOn with
 |_ j ih=>
  intro o cs ho hg c hc
  have hlen:j<ops.length:=(List.getElem?_eq_some_iff.1 ho).1
  unfold gcs at hg
  split at hg
  ·simp only[B0]at hg;subst hg;cases hc
  ·rename_i g pol hgd
   simp only[ak]at hg
   split at hg
   ·rename_i og hog
    split at hg
    ·rename_i tg htg
     split at hg
     ·rename_i ds b hb
      simp only[B0]at hg
      subst hg
      have hanc:=hk.guard j o g pol ho hgd
      have hlt:=hk.lt hanc
      rcases List.mem_append.1 hc with hc|hc
      ·simp only[a8,ak]at hb
       split at hb
       ·simp only[B0,Prod.mk.injEq]at hb;rw[←hb.1]at hc;cases hc
       ·rename_i cs' b' hs
        simp only[B0,Prod.mk.injEq]at hb
        obtain⟨rfl,rfl⟩:=hb
        rw[hr.written hk hog htg hlt (by omega)]at hs
        obtain⟨csg,h1,h2⟩:=hr.slot hog htg hs
        have:=iS h2
        subst this
        obtain⟨g',og',a1,a2,a3⟩:=ih g hlt og _ hog h1 c hc
        exact⟨g',og',hanc.trans a1,a2,a3⟩
       ·cases hb
      ·simp only[List.mem_singleton]at hc
       subst hc
       exact⟨g,og,hanc,hog,htg⟩
     ·cases hg
    ·cases hg
   ·cases hg
end
end Go.Proofs.Ytdadgkgkdgnihaa.Px


namespace Go.Proofs.Ytdadgkgkdgnihaa.Px
open Go Go.RowKit
section
variable [X:aS] {wk:Bool} {cfg:Cfg (X:=X)} {ops:List Oper} {hasG:Bool} {s0:St (X:=X)} {S:Nat→St (X:=X)}
omit X in
theorem o7 {d:Nat}:∀{l:List Slot},(∀(t:Nat) cs v,l[t]?=some (.opt cs v)→∀c∈cs,c.1≠d)→bZ d l=true
 | [],_=>rfl
 |x::l,h=>by
  have ih:bZ d l=true:=o7 fun t cs v ht=>h (t+1) cs v (by simpa using ht)
  cases x with
  |opt cs v=>
   simp only[bZ,ih,Bool.and_true,List.all_eq_true,Bool.not_eq_true']
   intro c hc
   have:=h 0 cs v rfl c hc
   cases hb:Nat.beq c.1 d with
   |true=>exact absurd (B2 hb) this
   |false=>rfl
  |_=>simpa only[bZ]using ih
omit X in
theorem tF {d:Nat} {x:Slot} {l:List Slot} (h:bZ d (x::l)=true) {cs:List (Nat×Bool)} {v:AV} (e:x= .opt cs v):∀c∈cs,c.1≠d:=by
 subst e
 simp only[bZ,B1,List.all_eq_true,Bool.not_eq_true']at h
 intro c hc e
 have:=h.1 c hc
 rw[e]at this
 simp at this
theorem ca.grow (hr:ca cfg ops hasG s0 S) (hk:GK wk ops s0) (ha:lZ cfg) (hn:cfg.apn=false):∀k,k≤ops.length→s0.hp<+:(S k).hp
 |0,_=>by rw[hr.begin];exact List.prefix_refl _
 |k+1,h=>by
  have ho:=List.getElem?_eq_getElem (show k<ops.length by omega)
  obtain⟨cs,sl,_,h2,_⟩:=hr.at ho
  exact(hr.grow hk ha hn k (by omega)).trans (pL ha hn (hk.kind k _ ho) h2)
theorem ca.vD (hr:ca cfg ops hasG s0 S) (hk:GK wk ops s0) (ha:lZ cfg) (hn:cfg.apn=false) (i:Nat):∀j,i≤j→j≤ops.length→(S i).hp<+:(S j).hp
 |0,hij,_=>by rw[show i=0 by omega];exact List.prefix_refl _
 |j+1,hij,h=>by
  by_cases e:i=j+1
  ·rw[e];exact List.prefix_refl _
  ·have ho:=List.getElem?_eq_getElem (show j<ops.length by omega)
   obtain⟨cs,sl,_,h2,_⟩:=hr.at ho
   exact(hr.vD hk ha hn i j (by omega) (by omega)).trans (pL ha hn (hk.kind j _ ho) h2)
theorem ca.gI (hr:ca cfg ops hasG s0 S) (hn:cfg.apn=false) {k:Nat} {o:Oper} (ho:ops[k]?=some o) (hk:bk o.op=some 0∨bk o.op=some 1):(S (k+1)).hp=(S k).hp:=by
 obtain⟨cs,sl,_,h2,_⟩:=hr.at ho
 exact(fk (hp':=(S k).hp) (fun _ _=>rfl) (fun _ _=>rfl) (fun _=> .inr (.inl rfl)) (sX hn hk) h2).1
omit X in
theorem iY {o:Oper}:cJ o=true↔bk o.op=some 2∧bC o=false:=by
 unfold cJ
 constructor
 ·intro h;split at h
  ·rename_i e
   exact⟨e,by simpa using h⟩
  ·cases h
 ·rintro ⟨h,h2⟩;simp only[h,h2,Bool.not_false]
theorem rq {o:Oper} {c:Call} {cs:List (Nat×Bool)} {hp:List (Blk (X:=X))} {tm:List Slot} (hs:bC o=true) (hop:o.op= .call c):aA cfg hp tm cs (.call c)=none:=by
 unfold bC at hs
 rw[hop]at hs
 simp only[aA]
 split
 ·simp only at hs
  cases hcal:c.callee with
  |builtin b=>cases b<;>simp[hcal]at hs<;>rfl
  |_=>simp[hcal]at hs
 ·rfl
theorem kz {o:Oper} {c:Call} {cs:List (Nat×Bool)} {hp hp':List (Blk (X:=X))} {tm:List Slot} (hs:bC o=true) (hop:o.op= .call c):af cfg hp' tm cs (.call c)=af cfg hp tm cs (.call c):=by
 unfold bC at hs
 rw[hop]at hs
 simp only[af]
 split
 ·simp only at hs
  cases hcal:c.callee with
  |builtin b=>rfl
  |_=>simp[hcal]at hs
 ·rfl
theorem jG {o:Oper} {c:Call} {cs:List (Nat×Bool)} {hp hp' h1:List (Blk (X:=X))} {tm:List Slot} {sl:Slot} (hs:bC o=true) (hop:o.op= .call c) (h:runCore cfg cs (.call c) hp tm=some (sl,h1)):h1=hp∧runCore cfg cs (.call c) hp' tm=some (sl,hp'):=by
 simp only[runCore,rq hs hop,kz (hp:=hp) (hp':=hp') hs hop]at h⊢
 split at h
 ·rename_i ok v _
  cases ok with
  |false=>cases h
  |true=>
   simp only[B4,B0,Prod.mk.injEq]at h⊢
   exact⟨h.2.symm,h.1,trivial⟩
 ·cases h
theorem kj {o:Oper} {cs:List (Nat×Bool)} {hp hp' h1:List (Blk (X:=X))} {tm:List Slot} {sl:Slot} (hs:bC o=true) (hk:bk o.op=some 2) (hc:core cfg o cs hp tm=some (sl,h1)):h1=hp∧core cfg o cs hp' tm=some (sl,hp'):=by
 obtain⟨c,hop⟩:∃c,o.op= .call c:=by
  cases hop:o.op<;>rw[hop]at hk
  case slice t x lo hi mx=>cases mx<;>simp[bk,aq]at hk
  all_goals simp[bk,aq]at hk
  all_goals first
   |exact⟨_,rfl⟩
   |(unfold bC at hs;rw[hop]at hs;cases hs)
 unfold core at hc⊢
 rw[hop]at hc⊢
 split at hc
 ·exact jG hs hop hc
 ·rw[kz (hp:=hp) (hp':=hp') hs hop]
  split at hc
  ·rename_i ok v _
   cases hb:or ok (not (ai tm cs))with
   |false=>rw[hb]at hc;cases hc
   |true=>
    rw[hb]at hc
    simp only[B4,B0,Prod.mk.injEq]at hc⊢
    exact⟨hc.2.symm,hc.1,trivial⟩
  ·cases hb:ai tm cs with
   |false=>
    simp only[hb,B5,B0,Prod.mk.injEq]at hc⊢
    exact⟨hc.2.symm,hc.1,trivial⟩
   |true=>
    simp only[hb,B4]at hc⊢
    exact jG hs hop hc
theorem nW {o:Oper} {cs:List (Nat×Bool)} {hp hp' h1:List (Blk (X:=X))} {tm tm':List Slot} {sl:Slot} (h:iG o tm tm') (hcs:∀c∈cs,tm'[c.1]?=tm[c.1]?) (hs:bC o=true) (hk:bk o.op=some 2) (hc:core cfg o cs hp tm=some (sl,h1)):h1=hp∧core cfg o cs hp' tm'=some (sl,hp'):=by
 rw[←pU h hcs hk]at hc
 exact kj hs hk hc
theorem ca.aY (hr:ca cfg ops hasG s0 S) (hn:cfg.apn=false) (hk:GK wk ops s0) {i:Nat}:∀j,i≤j→j≤ops.length→(∀k o,i≤k→k<j→ops[k]?=some o→cJ o=false)→(S j).hp=(S i).hp
 |0,hij,_,_=>by rw[show i=0 by omega]
 |j+1,hij,hj,h=>by
  by_cases e:i=j+1
  ·rw[e]
  ·have hlt:j<ops.length:=by omega
   have ho:=List.getElem?_eq_getElem hlt
   have hnc:=h j ops[j] (by omega) (by omega) ho
   have hsame:(S (j+1)).hp=(S j).hp:=by
    rcases hk.kind j _ ho with h|h|h
    ·exact hr.gI hn ho (.inl h)
    ·exact hr.gI hn ho (.inr h)
    ·obtain⟨cs,sl,_,h2,_⟩:=hr.at ho
     refine(kj (hp':=(S j).hp) ?_ h h2).1
     cases hso:bC ops[j]with
     |true=>rfl
     |false=>rw[iY.2 ⟨h,hso⟩]at hnc;cases hnc
   rw[hsame]
   exact hr.aY hn hk j (by omega) (by omega) (fun k o h1 h2 h3=>h k o h1 (by omega) h3)
structure AtG (ops:List Oper) (s0:St (X:=X)) (S:Nat→St (X:=X)) (Y:Nat→Prop) (s:St (X:=X)):Prop where
 len:s.tm.length=s0.tm.length
 done:∀(k t:Nat) (o:Oper),ops[k]?=some o→Y k→o.dst=some t→s.tm[t]?=(S (k+1)).tm[t]?
 rest:∀t,(∀(k:Nat) (o:Oper),ops[k]?=some o→Y k→o.dst≠some t)→s.tm[t]?=s0.tm[t]?
 heap:∃m,m≤ops.length∧s.hp=(S m).hp∧∀(k:Nat) (o:Oper),ops[k]?=some o→cJ o=true→(Y k↔k<m)
theorem AtG.start (hr:ca cfg ops hasG s0 S):AtG ops s0 S (fun _=>False) s0:=
 ⟨rfl,fun _ _ _ _ h=>h.elim,fun _ _=>rfl,0,Nat.zero_le _,by rw[hr.begin],fun k o _ _=>⟨fun h=>h.elim,fun h=>by omega⟩⟩
theorem AtG.all (hr:ca cfg ops hasG s0 S) (hn:cfg.apn=false) (hk:GK wk ops s0) {Y:Nat→Prop} {s:St (X:=X)} (ha:AtG ops s0 S Y s) (bc:∀k,k<ops.length→Y k):s=S ops.length:=by
 obtain⟨m,hm,hhp,hst⟩:=ha.heap
 have h1:s.hp=(S ops.length).hp:=by
  rw[hhp]
  refine(hr.aY hn hk ops.length hm (Nat.le_refl _) (fun k p h1 h2 h3=>?_)).symm
  cases hc:cJ p with
  |false=>rfl
  |true=>have:=(hst k p h3 hc).1 (bc k h2);omega
 have h2:s.tm=(S ops.length).tm:=by
  apply List.ext_getElem?
  intro t
  by_cases hw:∃(k:Nat) (o:Oper),ops[k]?=some o∧o.dst=some t
  ·obtain⟨k,o,ho,hd⟩:=hw
   have hl:=(List.getElem?_eq_some_iff.1 ho).1
   rw[ha.done k t o ho (bc k hl) hd,hr.written hk ho hd hl (Nat.le_refl _)]
  ·rw[ha.rest t (fun k o ho _ e=>hw ⟨k,o,ho,e⟩),hr.cF (Nat.le_refl _) (fun k o _ ho e=>hw ⟨k,o,ho,e⟩)]
 cases s
 cases hS:S ops.length
 rw[hS]at h1 h2
 simp only at h1 h2
 rw[h1,h2]
end
end Go.Proofs.Ytdadgkgkdgnihaa.Px


namespace Go.Proofs.Ytdadgkgkdgnihaa.Px
open Go Go.RowKit
section
variable [X:aS] {wk:Bool} {cfg:Cfg (X:=X)} {ops:List Oper} {hasG:Bool} {s0:St (X:=X)} {S:Nat→St (X:=X)}
theorem ca.nM (hr:ca cfg ops hasG s0 S) (hn:cfg.apn=false) (hk:GK wk ops s0) (hs:∀(j:Nat) (p:Oper),ops[j]?=some p→bC p=true):∀j,j≤ops.length→(S j).hp=s0.hp
 |0,_=>by rw[hr.begin]
 |j+1,hj=>by
  have ho:=List.getElem?_eq_getElem (show j<ops.length by omega)
  have ih:=hr.nM hn hk hs j (by omega)
  rw[←ih]
  rcases hk.kind j _ ho with h|h|h
  ·exact hr.gI hn ho (.inl h)
  ·exact hr.gI hn ho (.inr h)
  ·obtain⟨cs,sl,_,h2,_⟩:=hr.at ho
   exact(kj (hp':=(S j).hp) (hs j _ ho) h h2).1
theorem AtG.next (hr:ca cfg ops hasG s0 S) (hk:GK wk ops s0) (hwk:wk=true→∀j,j≤ops.length→(S j).hp=s0.hp) (had:lZ cfg) (hn:cfg.apn=false) (h0:ae s0.tm) {Y:Nat→Prop} {s:St (X:=X)} (ha:AtG ops s0 S Y s) {i:Nat} {o:Oper} (ho:ops[i]?=some o) (hY:¬Y i)
  (hready:∀k,aW o k=true→Y k) (hclosed:∀(k:Nat) (p:Oper),ops[k]?=some p→Y k→∀j,aW p j=true→Y j)
  (hsees:∀t x v,o.op= .load t x→o.guard=none→rd s.tm [] x=some v→vW s.hp v):
  ∃s',fb cfg ops hasG o s=some s'∧AtG ops s0 S (fun k=>Y k∨k=i) s':=by
 have hlt:i<ops.length:=(List.getElem?_eq_some_iff.1 ho).1
 have hanc:∀j,Anc ops i j→Y j:=fun j hj=>hj.done hclosed (fun o' ho' k hk'=>by rw[ho]at ho';simp only[B0]at ho';subst ho';exact hready k hk')
 have hancY:∀k j,Y k→Anc ops k j→Y j:=fun k j hy hj=>hj.done hclosed (fun o' ho' k' hk'=>hclosed k o' ho' hy k' hk')
 -- a slot that an ancestor writes
 have slotEq:∀(j t:Nat) (p:Oper),Anc ops i j→ops[j]?=some p→p.dst=some t→s.tm[t]?=(S i).tm[t]?:=by
  intro j t p hij hj hd
  rw[ha.done j t p hj (hanc j hij) hd,hr.written hk hj hd (hk.lt hij) (by omega)]
 have hag:iG o (S i).tm s.tm:=by
  intro t ht
  by_cases hw:∃(j:Nat) (p:Oper),ops[j]?=some p∧p.dst=some t
  ·obtain⟨j,p,hj,hd⟩:=hw
   exact slotEq j t p (hk.look i j o p t ho hj hd ht) hj hd
  ·rw[ha.rest t (fun k p hkp _ e=>hw ⟨k,p,hkp,e⟩),hr.cF (by omega) (fun k p _ hkp e=>hw ⟨k,p,hkp,e⟩)]
 obtain⟨cs,sl,hg,hc,htm,hput⟩:=hr.at ho
 have hcs:∀c∈cs,s.tm[c.1]?=(S i).tm[c.1]?:=by
  intro c hc'
  obtain⟨g,og,a1,a2,a3⟩:=hr.conds hk i o cs ho hg c hc'
  exact slotEq g c.1 og a1 a2 a3
 have hg':gcs ops o s.tm=some cs:=by
  rw[←hg]
  exact wz fun g pol og tg e1 e2 e3=>slotEq g tg og (hk.guard i o g pol ho e1) e2 e3
 obtain⟨m,hm,hhp,hst⟩:=ha.heap
 -- what is put, and over which heap
 have hcore:∃h',core cfg o cs s.hp s.tm=some (sl,h')∧∃m',m'≤ops.length∧h'=(S m').hp∧∀(k:Nat) (p:Oper),ops[k]?=some p→cJ p=true→((Y k∨k=i)↔k<m'):=by
  by_cases hcall:cJ o=true
  ·have hmi:(S m).hp=(S i).hp:=by
    have hord:∀(k:Nat) (p:Oper),ops[k]?=some p→cJ p=true→(k<i→k<m)∧(i≤k→m≤k):=by
     intro k p hkp hp
     refine⟨fun hki=>(hst k p hkp hp).1 (hanc k (hk.calls i k o p ho hkp hcall hp hki)),fun hik=>?_⟩
     rcases Nat.lt_or_ge k m with h'|h'
     ·exfalso
      have hyk:=(hst k p hkp hp).2 h'
      by_cases e:k=i
      ·subst e;exact hY hyk
      ·exact hY (hancY k i hyk (hk.calls k i p o hkp ho hp hcall (by omega)))
     ·exact h'
    rcases Nat.le_total m i with hle|hle
    ·refine(hr.aY hn hk i hle (by omega) (fun k p h1 h2 h3=>?_)).symm
     cases hp:cJ p with
     |false=>rfl
     |true=>have:=(hord k p h3 hp).1 h2;omega
    ·refine hr.aY hn hk m hle hm (fun k p h1 h2 h3=>?_)
     cases hp:cJ p with
     |false=>rfl
     |true=>have:=(hord k p h3 hp).2 h1;omega
   refine⟨(S (i+1)).hp,?_,i+1,by omega,rfl,fun k p hkp hp=>?_⟩
   ·rw[hhp,hmi,pU hag hcs (iY.1 hcall).1]
    exact hc
   ·constructor
    ·rintro (hy|rfl)
     ·rcases Nat.lt_or_ge k (i+1)with h|h
      ·exact h
      ·exact absurd (hancY k i hy (hk.calls k i p o hkp ho hp hcall (by omega))) hY
     ·omega
    ·intro hlt'
     by_cases e:k=i
     ·exact .inr e
     ·exact .inl (hanc k (hk.calls i k o p ho hkp hcall hp (by omega)))
  ·have hcalls:∀(k:Nat) (p:Oper),ops[k]?=some p→cJ p=true→((Y k∨k=i)↔k<m):=by
    intro k p hkp hp
    constructor
    ·rintro (hy|rfl)
     ·exact(hst k p hkp hp).1 hy
     ·rw[ho]at hkp;simp only[B0]at hkp;subst hkp;exact absurd hp hcall
    ·exact fun h=> .inl ((hst k p hkp hp).2 h)
   by_cases h2:bk o.op=some 2
   ·have hs:bC o=true:=by
     cases hso:bC o with
     |true=>rfl
     |false=>exact absurd (iY.2 ⟨h2,hso⟩) hcall
    exact⟨s.hp,(nW hag hcs hs h2 hc).2,m,hm,hhp,hcalls⟩
   have hk01:bk o.op=some 0∨bk o.op=some 1:=by
    rcases hk.kind i o ho with h|h|h
    ·exact .inl h
    ·exact .inr h
    ·exact absurd h h2
   by_cases hsl:∃t x lo hi mx,o.op= .slice t x lo hi mx
   ·obtain⟨t1,x1,lo,hi,mx,hop⟩:=hsl
    have hw:=hk.slc i o t1 x1 lo hi mx ho hop
    have hpa:∀cs,nz cs o (S i).tm (S i).hp s.hp:=fun cs=> .inr (.inl (by rw[hhp,hwk hw m hm,hwk hw i (by omega)]))
    exact⟨s.hp,(fk hag hcs hpa (sX hn hk01) hc).2,m,hm,hhp,hcalls⟩
   by_cases hul:o.guard=none∧bk o.op=some 1
   ·obtain⟨hgd,hm1⟩:=hul
    obtain⟨tl,xl,hload⟩:∃t x,o.op= .load t x:=by
     cases hop:o.op<;>rw[hop]at hm1
     case slice=>exact absurd ⟨_,_,_,_,_,hop⟩ hsl
     all_goals simp[bk,aq]at hm1
     exact⟨_,_,rfl⟩
    have hrd:rd s.tm [] xl=rd (S i).tm [] xl:=by
     cases xl with
     |tmp u=>
      have:=hag u (by unfold a6;rw[hload];simp[Op.operands])
      simp only[rd,ak,this]
     |const v=>rfl
     |global g=>rfl
     |func f=>rfl
    have hAB:(S i).hp<+:s.hp∨s.hp<+:(S i).hp:=by
     rw[hhp]
     rcases Nat.le_total i m with hle|hle
     ·exact .inl (hr.vD hk had hn i m hle hm)
     ·exact .inr (hr.vD hk had hn m i hle (by omega))
    refine⟨s.hp,(vS hload hgd hrd hAB (fun v hv=>hsees tl xl v hload hgd (by rw[hrd];exact hv)) hc).2,m,hm,hhp,hcalls⟩
   have hpa:∀cs,nz cs o (S i).tm (S i).hp s.hp:=by
    intro cs
    rcases hk01 with h|h
    ·exact .inl (Bo h)
    ·obtain⟨tl,xl,hload⟩:∃t x,o.op= .load t x:=by
      cases hop:o.op<;>rw[hop]at h
      case slice=>exact absurd ⟨_,_,_,_,_,hop⟩ hsl
      all_goals simp[bk,aq]at h
      exact⟨_,_,rfl⟩
     rcases hk.load i o tl xl ho hload (fun e=>hul ⟨e,h⟩)with hw|hstill|⟨tt,kb,q,rfl,hun,hs,hkl⟩
     ·exact .inr (.inl (by rw[hhp,hwk hw m hm,hwk hw i (by omega)]))
     ·exact .inr (.inl (by rw[hhp,hr.nM hn hk hstill m hm,hr.nM hn hk hstill i (by omega)]))
     refine .inr (.inr ⟨_,_,hload,fun v iv hv=>?_⟩)
     have hv':v= .ptr kb q:=by
      simp only[rd,ak,hr.cF (Nat.le_of_lt hlt) (fun k p _ hp=>hun k p hp),hs,iu,B0]at hv
      exact hv.symm
     subst hv'
     refine oM ?_
     have p1:=hr.grow hk had hn i (by omega)
     have p2:=hr.grow hk had hn m hm
     rw[hhp]
     obtain⟨t1,e1⟩:=p1
     obtain⟨t2,e2⟩:=p2
     rw[←e1,←e2,List.getElem?_append_left hkl,List.getElem?_append_left hkl]
   refine⟨s.hp,(fk hag hcs hpa (sX hn hk01) hc).2,m,hm,hhp,fun k p hkp hp=>?_⟩
   constructor
   ·rintro (hy|rfl)
    ·exact(hst k p hkp hp).1 hy
    ·rw[ho]at hkp;simp only[B0]at hkp;subst hkp;exact absurd hp hcall
   ·exact fun h=> .inl ((hst k p hkp hp).2 h)
 obtain⟨h',hc',hheap⟩:=hcore
 -- nobody's condition is written anew
 have hok:∀d,o.dst=some d→(hasG=true→bZ d (sl::s.tm)=true)∧(hasG=false→∀cs v,sl≠ .opt cs v):=by
  intro d hd
  refine⟨fun hG=>o7 fun t cs' v ht c hcm e=>?_,(hput d hd).2⟩
  cases t with
  |zero=>
   simp only[List.getElem?_cons_zero,B0]at ht
   exact tF ((hput d hd).1 hG) ht c hcm e
  |succ t=>
   simp only[List.getElem?_cons_succ]at ht
   by_cases hw:∃(j:Nat) (p:Oper),ops[j]?=some p∧Y j∧p.dst=some t
   ·obtain⟨j,p,hj,hy,hdj⟩:=hw
    rw[ha.done j t p hj hy hdj]at ht
    obtain⟨csj,e1,e2⟩:=hr.slot hj hdj ht
    have:=iS e2
    subst this
    obtain⟨g,og,a1,a2,a3⟩:=hr.conds hk j p _ hj e1 c hcm
    have:g=i:=by
     apply Classical.byContradiction
     intro hne
     exact hk.one i g o og d ho a2 (fun e=>hne e.symm) (by rw[a3,e]) hd
    subst this
    exact hY (hancY j g hy a1)
   ·rw[ha.rest t (fun k p hkp hy e=>hw ⟨k,p,hkp,hy,e⟩)]at ht
    have:=h0 t _ ht
    simp[Slot.gh]at this
 refine⟨{(cD s o.dst sl)with hp:=h'},?_,?_⟩
 ·rw[bI,hg']
  simp only[hc',zf]
  rw[u7 (s:={tm:=s.tm,hp:=h'}) hok]
  unfold cD
  cases o.dst<;>rfl
 ·cases hd:o.dst with
  |none=>
   simp only[cD]
   refine⟨ha.len,fun k t p hkp hy hdp=>?_,fun t hno=>?_,hheap⟩
   ·rcases hy with hy|rfl
    ·exact ha.done k t p hkp hy hdp
    ·rw[ho]at hkp;simp only[B0]at hkp;subst hkp;rw[hd]at hdp;cases hdp
   ·exact ha.rest t (fun k p hkp hy=>hno k p hkp (.inl hy))
  |some d=>
   rw[hd]at htm
   simp only[cD,au]at htm⊢
   refine⟨by simpa using ha.len,fun k t p hkp hy hdp=>?_,fun t hno=>?_,hheap⟩
   ·by_cases e:t=d
    ·subst e
     have hki:k=i:=by
      apply Classical.byContradiction
      intro hne
      exact hk.one i k o p t ho hkp (fun e=>hne e.symm) hdp hd
     subst hki
     rw[htm]
     by_cases hl:t<s.tm.length
     ·rw[List.getElem?_set_self hl,List.getElem?_set_self (by rw[hr.len k (by omega),←ha.len];exact hl)]
     ·have hl2:¬t<(S k).tm.length:=by rw[hr.len k (Nat.le_of_lt hlt),←ha.len];exact hl
      rw[List.getElem?_eq_none (by rw[List.length_set];exact Nat.le_of_not_lt hl),List.getElem?_eq_none (by rw[List.length_set];exact Nat.le_of_not_lt hl2)]
    ·rw[List.getElem?_set_ne (fun h=>e h.symm)]
     rcases hy with hy|rfl
     ·exact ha.done k t p hkp hy hdp
     ·rw[ho]at hkp
      simp only[B0]at hkp
      subst hkp
      rw[hd]at hdp
      simp only[B0]at hdp
      exact absurd hdp.symm e
   ·have hne:t≠d:=fun e=>hno i o ho (.inr rfl) (by rw[hd,e])
    rw[List.getElem?_set_ne (fun h=>hne h.symm)]
    exact ha.rest t (fun k p hkp hy=>hno k p hkp (.inl hy))
end
end Go.Proofs.Ytdadgkgkdgnihaa.Px


namespace Go.Proofs.Ytdadgkgkdgnihaa.Px
open Go Go.RowKit
section
variable [X:aS] {P:Program} {G:World→Prop} {cfg:Cfg (X:=X)} {w0:aN} {R:Type} {fail:R} {φ:R→Prop}
theorem oH (hq:EOk P G cfg) (hG:G w0.w) {hasG:Bool} {ops:Array Oper} {s0:St (X:=X)} {S:Nat→St (X:=X)} (hr:ca cfg ops.toList hasG s0 S) (hk:GK false ops.toList s0) (had:lZ cfg) (hnp:cfg.apn=false) (h0:Px.ae s0.tm) {rn:Option Nat} {ρ0:List Loc} {Q:Exit→Act→World→Prop}
  (hQ:∀ρ' a' w',ρ0<+:ρ'→FR ρ' (S ops.size).tm a'→HR w0 ρ' (S ops.size).hp w'→(hasG=false→Px.ae (S ops.size).tm)→Q .normal a' w'):
  ∀(fuel:Nat) (listed:Array Bool) (a:Act) (w:World) (s:St (X:=X)) (ρ:List Loc),listed.size=ops.size→unl ops.size listed≤fuel→ρ0<+:ρ→AtG ops.toList s0 S (fun k=>listed.getD k false=true) s→FR ρ s.tm a→HR w0 ρ s.hp w→(hasG=false→Px.ae s.tm)→
  (∀(k:Nat) (p:Oper),ops.toList[k]?=some p→listed.getD k false=true→∀j,aW p j=true→listed.getD j false=true)→wpAnyIn (Wd rn) 0 P .any ops Q fuel listed a w:=by
 intro fuel
 -- when nothing may come up, all has come up
 have done:∀(listed:Array Bool) (a:Act) (w:World) (s:St (X:=X)) (ρ:List Loc),listed.size=ops.size→ρ0<+:ρ→AtG ops.toList s0 S (fun k=>listed.getD k false=true) s→FR ρ s.tm a→HR w0 ρ s.hp w→(hasG=false→Px.ae s.tm)→Region.ready .any ops listed=[]→Q .normal a w:=by
  intro listed a w s ρ hsz hρ ha hf hh hno hrd
  have bc:∀k,k<ops.toList.length→listed.getD k false=true:=by
   intro k
   induction k using Nat.strongRecOn with
   |_ k ih=>
    intro hkl
    have hkl':k<ops.size:=by simpa using hkl
    cases hg:listed.getD k false with
    |true=>rfl
    |false=>
     exfalso
     have hmem:k∈Region.ready .any ops listed:=by
      refine mem_ready.2 ⟨?_,ops[k],Array.getElem?_eq_getElem hkl',fun e he hb=>?_⟩
      ·rw[Array.getD_eq_getD_getElem?,Array.getElem?_eq_getElem (by rw[hsz];exact hkl')]at hg⊢
       exact hg
      ·refine ih e.on (hk.back k ops[k] e.on (by simp[hkl']) ?_) (by have:=hk.back k ops[k] e.on (by simp[hkl']) (by simp only[aW,List.any_eq_true,B1];exact⟨e,by simpa using he,hb,by simp⟩);omega)
       simp only[aW,List.any_eq_true,B1]
       exact⟨e,by simpa using he,hb,by simp⟩
     rw[hrd]at hmem
     cases hmem
  have:=ha.all hr hnp hk bc
  subst this
  exact hQ ρ a w hρ (by simpa using hf) (by simpa using hh) (by simpa using hno)
 induction fuel with
 |zero=>
  intro listed a w s ρ hsz hu hρ ha hf hh hn hc
  have hrd:Region.ready .any ops listed=[]:=by
   rw[List.eq_nil_iff_forall_not_mem]
   intro i hi
   obtain⟨h1,o,ho,_⟩:=mem_ready.1 hi
   have hlt:i<ops.size:=(Array.getElem?_eq_some_iff.1 ho).1
   have h1':listed.getD i false=false:=by
    rw[Array.getD_eq_getD_getElem?,Array.getElem?_eq_getElem (by rw[hsz];exact hlt)]at h1⊢
    exact h1
   have:=eG hsz hlt h1'
   omega
  exact⟨hrd,done listed a w s ρ hsz hρ ha hf hh hn hrd⟩
 |succ fuel ih=>
  intro listed a w s ρ hsz hu hρ ha hf hh hn hc
  refine⟨fun hrd=>done listed a w s ρ hsz hρ ha hf hh hn hrd,fun i hi=>?_⟩
  obtain⟨h1,o,ho,bc⟩:=mem_ready.1 hi
  have hlt:i<ops.size:=(Array.getElem?_eq_some_iff.1 ho).1
  have h1':listed.getD i false=false:=by
   rw[Array.getD_eq_getD_getElem?,Array.getElem?_eq_getElem (by rw[hsz];exact hlt)]at h1⊢
   exact h1
  have hol:ops.toList[i]?=some o:=by simpa using ho
  have hready:∀k,aW o k=true→listed.getD k false=true:=by
   intro k hk'
   simp only[aW,List.any_eq_true,B1]at hk'
   obtain⟨e,he,hb,hek⟩:=hk'
   have:=bc e (by simpa using he) hb
   rwa[B2 hek]at this
  have hsees:∀t x v,o.op= .load t x→o.guard=none→rd s.tm [] x=some v→vW s.hp v:=by
   intro t x v _ _ hv
   have hcv:=aj hf (rfl:ai s.tm []=true) hv
   cases v with
   |ptr k q=>
    obtain⟨l,hl,_⟩:=bF.1 hcv
    show k<s.hp.length
    rw[←hh.len]
    exact(List.getElem?_eq_some_iff.1 hl).1
   |pel k i wd q=>
    obtain⟨l,hl,hnl,_⟩:=cm.1 hcv
    have hkl:k<s.hp.length:=by rw[←hh.len];exact(List.getElem?_eq_some_iff.1 hl).1
    refine⟨hkl,?_⟩
    obtain⟨l2,hl2,_⟩:=cG hh hl hnl
    rw[←hh.len]
    exact(List.getElem?_eq_some_iff.1 hl2).1
   |_=>trivial
  obtain⟨s',hst,ha'⟩:=ha.next hr hk (fun h=>by cases h) had hnp h0 hol (by rw[h1'];simp) hready hc hsees
  have hset:∀k,(listed.setIfInBounds i true).getD k false=true↔(listed.getD k false=true∨k=i):=by
   intro k
   by_cases e:k=i
   ·subst e
    rw[Array.getD_eq_getD_getElem?,Array.getElem?_setIfInBounds_self_of_lt (by rw[hsz];exact hlt)]
    simp
   ·rw[Array.getD_eq_getD_getElem?,Array.getElem?_setIfInBounds_ne (fun h=>e h.symm),←Array.getD_eq_getD_getElem?]
    simp[e]
  have ha'':AtG ops.toList s0 S (fun k=>(listed.setIfInBounds i true).getD k false=true) s':=by
   have:(fun k=>(listed.setIfInBounds i true).getD k false=true)=(fun k=>listed.getD k false=true∨k=i):=funext fun k=>propext (hset k)
   rw[this]
   exact ha'
  have fin:∀(a':Act) (w':World),(∃ρ',ρ<+:ρ'∧FR ρ' s'.tm a'∧HR w0 ρ' s'.hp w'∧(hasG=false→Px.ae s'.tm))→wpAnyIn (Wd rn) 0 P .any ops Q fuel (listed.setIfInBounds i true) a' w':=by
   rintro a' w' ⟨ρ',h1,h2,h3,h4⟩
   refine ih _ a' w' s' ρ' (by simpa using hsz) (by have:=eG hsz hlt h1';omega) (hρ.trans h1) ha'' h2 h3 h4 (fun k p hkp hyk j hj=>?_)
   rw[hset]at hyk⊢
   rcases hyk with hyk|rfl
   ·exact .inl (hc k p hkp hyk j hj)
   ·rw[hol]at hkp
    simp only[B0]at hkp
    subst hkp
    exact .inl (hready j hj)
  have hw:=kG (rn:=rn) (P:=P) (cfg:=cfg) (w0:=w0) hq hG hst hf hh hn (Q:=Q)
  unfold wpOpIn
  simp only[ho]
  split
  ·rename_i hwt
   rw[if_pos hwt]at hw
   exact Oper.wpIn_mono (fun a' w' h=>fin a' w' h) hw
  ·rename_i hwt
   rw[if_neg hwt]at hw
   exact⟨fun _ _=>trivial,fin _ _ hw⟩
theorem tG (hm:P.follows .mixedOrders=true) (hf0:¬φ fail) (hq:EOk P G cfg) (hnp:cfg.apn=false) (hG:G w0.w) {id:Nat} {ops:Array Oper} {s:St (X:=X)} {K:St (X:=X)→R} {ρ:List Loc} {a:Act} {w:World} {rn:Option Nat}
  (hk:u0 ops.toList s (reach ops.toList)=true) (h:φ (bD cfg fail (fun _ _ _ _=>fail) ops.toList s K)) (hf:FR ρ s.tm a) (hr:HR w0 ρ s.hp w) (hn:Px.ae s.tm):(Code.region id ops true).wpIn (Wd rn) 0 P (bw (Next w0 φ ρ false K)) a w:=by
 have hgk:=GK.of hk
 have had:lZ cfg:=fun n con hc=>(hq.makes n con hc).2.2
 rw[ec]at h
 unfold dK at h
 refine wpIn_region_any hm ?_
 have none:∀k,¬(Array.replicate ops.size false).getD k false=true:=by
  intro k hy
  rw[Array.getD_eq_getD_getElem?]at hy
  by_cases hk:k<ops.size
  ·simp[hk]at hy
  ·simp[hk]at hy
 have e:(fun k=>(Array.replicate ops.size false).getD k false=true)=(fun _=>False):=by
  funext k
  exact propext ⟨fun h=>none k h,fun h=>h.elim⟩
 have hun:unl ops.size (Array.replicate ops.size false)≤ops.size:=by
  unfold unl
  exact Nat.le_trans (List.length_filter_le _ _) (by simp)
 split at h
 ·obtain⟨S,hS0,hS,hK⟩:=lM (cfg:=cfg) hf0 ops.toList h
  have hrun:ca cfg ops.toList true s S:=⟨hS0,hS⟩
  refine oH hq hG hrun hgk had hnp hn (ρ0:=ρ) ?_ ops.size _ a _ s ρ (by simp) hun (List.prefix_refl _) ?_ hf (fA hr) (fun _=>hn) (fun k p _ hy=>absurd hy (none k))
  ·intro ρ' a' w' h1 h2 h3 _
   exact⟨{tm:=bN (S ops.size).tm,hp:=(S ops.size).hp},ρ',by simpa using hK,h1,h2.clear,h3,fun _=>bR _⟩
  ·rw[e]
   exact AtG.start hrun
 ·obtain⟨S,hS0,hS,hK⟩:=lM (cfg:=cfg) hf0 ops.toList h
  have hrun:ca cfg ops.toList false s S:=⟨hS0,hS⟩
  refine oH hq hG hrun hgk had hnp hn (ρ0:=ρ) ?_ ops.size _ a _ s ρ (by simp) hun (List.prefix_refl _) ?_ hf (fA hr) (fun _=>hn) (fun k p _ hy=>absurd hy (none k))
  ·intro ρ' a' w' h1 h2 h3 h4
   exact⟨_,ρ',by simpa using hK,h1,h2,h3,h4⟩
  ·rw[e]
   exact AtG.start hrun
end
end Go.Proofs.Ytdadgkgkdgnihaa.Px


namespace Go.Proofs.Ytdadgkgkdgnihaa.Px
open Go Go.RowKit
section
variable [X:aS] {P:Program} {G:World→Prop} {cfg:Cfg (X:=X)} {w0:aN} {R:Type} {fail:R} {φ:R→Prop}
omit X in
theorem yd {F:Fence} {n:Nat} {o:Oper} {a:Act} {w:World} {K:Act→World→Prop} {Q:Exit→Act→World→Prop} (hh:o.wpIn F n P a w K Q):
  o.wpIn F n P a w (fun a' w'=>K a' w'∧∃x,a'.tmps=(a.put o.dst x).tmps) Q:=by
 unfold Oper.wpIn at*
 refine⟨hh.1,?_⟩
 have hh:=hh.2
 generalize (o.semAt F.round a.eval).run P w=r at*
 cases r with
 |ok x w'=>
  cases x<;>simp only[Oper.uponIn]at hh⊢ <;>
   first
    |exact⟨hh,_,rfl⟩
    |exact⟨hh,undef,by cases o.dst<;>rfl⟩
    |exact⟨hh.1,CallsIn.mono hh.2 (fun e w'' he=>by cases e<;>first|exact⟨he,_,rfl⟩|exact he)⟩
    |exact⟨hh.1,RowsIn.mono hh.2 (fun _ _ he=>⟨he,_,rfl⟩)⟩
    |exact⟨hh.1,RoundIn.mono hh.2 (fun e w'' he=>by cases e<;>first|exact⟨he,_,rfl⟩|exact he)⟩
 |halt x w'=>cases x<;>simp only[Oper.uponIn]at hh⊢ <;>exact hh
structure Bb (w0:aN) (zero:List AV) (t:TypeId) (n:Nat) (obj:Obj):Prop where
 ge:w0.w.heap.size≤n
 old:∀p∈w0.q,p.1≠n
 cells:∃ys,ab [] zero=some ys∧ys.all Value.oneCell'=true∧obj= .cells ys.toArray t (0,0)
theorem HR.A3 {w:World} {ρ:List Loc} {hp:List (Blk (X:=X))} (h:HR w0 ρ hp w) (obj:Obj):HR ⟨w0.w,(w.heap.size,obj)::w0.q⟩ ρ hp (w.alloc obj):=by
 have h':=h.grow (eh w obj)
 refine⟨h'.len,h'.below,fun k b l hk hl=>?_,h'.marks,h'.sep,fun p hp'=>?_⟩
 ·have:=h'.blk k b l hk hl
  cases b<;>exact this
 ·rcases List.mem_cons.1 hp' with rfl|hp'
  ·refine⟨heap_alloc_new w obj,fun k b l hk hl ho hn=>?_⟩
   have:=(h.blk k b l hk hl).lt ho hn
   simp only
   omega
  ·exact h'.bz p hp'
theorem HR.land {w:World} {ρ:List Loc} {hp:List (Blk (X:=X))} {n:Nat} {obj:Obj} {zero:List AV} {t:TypeId} (h:HR ⟨w0.w,(n,obj)::w0.q⟩ ρ hp w) (ho:Bb w0 zero t n obj):
  HR w0 (ρ++[⟨n,0,0,false,none,false⟩]) (hp++[.raw zero]) w:=by
 have h1:HR w0 ρ hp w:=by
  refine⟨h.len,h.below,fun k b l hk hl=>?_,h.marks,h.sep,fun p hp'=>h.bz p (List.mem_cons_of_mem _ hp')⟩
  have:=h.blk k b l hk hl
  cases b<;>exact this
 obtain⟨p1,p2⟩:=h.bz _ (List.mem_cons_self ..)
 obtain⟨ys,y1,y2,rfl⟩:=ho.cells
 refine h1.put (fun _ _=>⟨fun j c lj hj hlj oc nc=>p2 j c lj hj hlj oc nc,ho.old⟩) ?_
 exact⟨rfl,rfl,ho.ge,ys,t,aB List.nil_prefix _ _ y1,y2,p1⟩
omit X in
theorem nH {α:Type} {p:α→Bool}:∀{l a b:List α},mI p l=(a,b)→l=a++b∧∀x∈a,p x=true
 | [],_,_,h=>by
  simp only[mI,Prod.mk.injEq]at h
  obtain⟨rfl,rfl⟩:=h
  simp
 |o::l,a,b,h=>by
  cases hp:p o with
  |false=>
   simp only[mI,hp,B5,Prod.mk.injEq]at h
   obtain⟨rfl,rfl⟩:=h
   simp
  |true=>
   cases hs:mI p l with
   |mk a' b'=>
    simp only[mI,hp,B4,hs,Prod.mk.injEq]at h
    obtain⟨rfl,rfl⟩:=h
    obtain⟨h1,h2⟩:=nH hs
    refine⟨by rw[h1];rfl,fun x hx=>?_⟩
    rcases List.mem_cons.1 hx with rfl|hx
    ·exact hp
    ·exact h2 x hx
omit X in
theorem yZ {o:Oper} (h:yK o=true):∃t,o.op= .alloc t:=by
 unfold yK at h
 split at h
 ·rename_i t e;exact⟨t,e⟩
 ·cases h
def qX (A:List Oper) (j:Nat):Prop:=∃p,A[j]?=some p∧aq p.op=some 0∧p.guard=none
omit X in
theorem xz {A:List Oper} {j:Nat} (h:wQ A j=true):qX A j:=by
 unfold wQ at h
 rw[ak]at h
 split at h
 ·rename_i p hp
  simp only[B1]at h
  refine⟨p,hp,?_,?_⟩
  ·have:=h.2
   split at this
   ·assumption
   ·cases this
  ·have:=h.1
   unfold ung at this
   split at this
   ·assumption
   ·cases this
 ·cases h
omit X in
theorem sb {rs:List Nat} {A:List Oper}:∀{n:Nat} {T:List Oper},vE rs A n T=true→∀k o,T[k]?=some o→(o.guard=none∧(aq o.op=some 0∨aq o.op=some 1∨aq o.op=some 3))∧∀j,j<n+k→lL rs (n+k) j=true∨qX A j
 |n,[],_,k,o,h1=>by simp at h1
 |n,p::T,h,k,o,h1=>by
  simp only[vE,B1,List.all_eq_true,List.mem_range]at h
  obtain⟨⟨⟨u1,u2⟩,u3⟩,u4⟩:=h
  cases k with
  |zero=>
   simp only[List.getElem?_cons_zero,B0]at h1
   subst h1
   refine⟨⟨?_,?_⟩,fun j hj=>?_⟩
   ·unfold ung at u1
    split at u1
    ·assumption
    ·cases u1
   ·split at u2
    ·exact .inl ‹_›
    ·exact .inr (.inl ‹_›)
    ·exact .inr (.inr ‹_›)
    ·cases u2
   ·have:=u3 j (by simpa using hj)
    rw[Bool.or_eq_true]at this
    rcases this with h|h
    ·exact .inl (by simpa using h)
    ·exact .inr (xz h)
  |succ k=>
   have:=sb u4 k o (by simpa using h1)
   refine⟨this.1,fun j hj=>?_⟩
   rw[show n+(k+1)=n+1+k by omega]
   exact this.2 j (by omega)
structure rm (s0:St (X:=X)) (A:List Oper) (al:Oper) (t d:Nat):Prop where
 op:al.op= .alloc t
 dst:al.dst=some d
 ng:al.guard=none
 free:s0.tm[d]?=some .any
 nw:∀(k:Nat) (o:Oper),A[k]?=some o→o.dst≠some d
structure Shape (cfg:Cfg (X:=X)) (ops:Array Oper) (hasG:Bool) (s0:St (X:=X)) (S:Nat→St (X:=X)) (A B T:List Oper):Prop where
 eq:ops.toList=A++(B++T)
 als:∀(i:Nat) (al:Oper),B[i]?=some al→∃t d,rm s0 A al t d
 some_:0<B.length
 run:ca cfg ops.toList hasG s0 S
 qw:ca cfg A hasG s0 S
 gk:GK false A s0
 back:∀(i:Nat) (o:Oper) (j:Nat),ops.toList[i]?=some o→aW o j=true→j<i
 lks:∀(i j:Nat) (o p:Oper) (u:Nat),ops.toList[i]?=some o→ops.toList[j]?=some p→i≠j→p.dst=some u→a6 o u=true→Anc ops.toList i j
 tM:∀(i j:Nat) (o p:Oper) (u:Nat),ops.toList[i]?=some o→ops.toList[j]?=some p→i≠j→p.dst=some u→o.dst≠some u
 zF:∀(k:Nat) (o:Oper),A.length+B.length≤k→ops.toList[k]?=some o→o.guard=none∧(aq o.op=some 0∨aq o.op=some 1∨aq o.op=some 3)
 tail:∀k,A.length+B.length≤k→k<ops.size→∀j,j<k→Anc ops.toList k j∨qX A j
variable {ops:Array Oper} {hasG:Bool} {s0:St (X:=X)} {S:Nat→St (X:=X)} {A B T:List Oper} {al:Oper} {d t:Nat}
theorem nn {wk:Bool} {A B:List Oper} {s0:St (X:=X)} (hk:GK wk A s0) {i:Nat} {o:Oper} (ho:A[i]?=some o) (tm:List Slot):gcs (A++B) o tm=gcs A o tm:=by
 unfold gcs
 cases hg:o.guard with
 |none=>rfl
 |some gp=>
  obtain⟨g,pol⟩:=gp
  have hlt:g<A.length:=by
   have:=hk.lt (hk.guard i o g pol ho hg)
   have:=(List.getElem?_eq_some_iff.1 ho).1
   omega
  simp only[ak,List.getElem?_append_left hlt]
theorem Shape.Bf (hx:Shape cfg ops hasG s0 S A B T) {i:Nat} {o:Oper} (ho:A[i]?=some o) (s:St (X:=X)):fb cfg ops.toList hasG o s=fb cfg A hasG o s:=by
 rw[bI,bI,hx.eq,nn hx.gk ho]
theorem Shape.inA (hx:Shape cfg ops hasG s0 S A B T) {k:Nat} {o:Oper} (h:k<A.length) (ho:ops.toList[k]?=some o):A[k]?=some o:=by
 rw[hx.eq,List.getElem?_append_left h]at ho
 exact ho
theorem Shape.inB (hx:Shape cfg ops hasG s0 S A B T) {i:Nat} {al:Oper} (h:B[i]?=some al):ops.toList[A.length+i]?=some al:=by
 rw[hx.eq,List.getElem?_append_right (by omega),Nat.add_sub_cancel_left,List.getElem?_append_left (List.getElem?_eq_some_iff.1 h).1]
 exact h
theorem Shape.atB (hx:Shape cfg ops hasG s0 S A B T) {k:Nat} {o:Oper} (h1:A.length≤k) (h2:k<A.length+B.length) (ho:ops.toList[k]?=some o):B[k-A.length]?=some o:=by
 rw[hx.eq,List.getElem?_append_right h1,List.getElem?_append_left (by omega)]at ho
 exact ho
theorem Shape.size (hx:Shape cfg ops hasG s0 S A B T):ops.size=A.length+B.length+T.length:=by
 have:=congrArg List.length hx.eq
 simp at this
 omega
theorem Shape.Bd (hx:Shape cfg ops hasG s0 S A B T) (hal:rm s0 A al t d) (h0:Px.ae s0.tm) {Y:Nat→Prop} {s:St (X:=X)} (ha:AtG A s0 S Y s):∀(i:Nat) (cs:List (Nat×Bool)) (v:AV),s.tm[i]?=some (.opt cs v)→∀c∈cs,d≠c.1:=by
 intro u cs v ht c hcm e
 by_cases hw:∃(j:Nat) (p:Oper),A[j]?=some p∧Y j∧p.dst=some u
 ·obtain⟨j,p,hj,hy,hdj⟩:=hw
  rw[ha.done j u p hj hy hdj]at ht
  obtain⟨csj,e1,e2⟩:=hx.qw.slot hj hdj ht
  have:=iS e2
  subst this
  obtain⟨g,og,a1,a2,a3⟩:=hx.qw.conds hx.gk j p _ hj e1 c hcm
  exact hal.nw g og a2 (by rw[a3,e])
 ·rw[ha.rest u (fun k p hkp hy e=>hw ⟨k,p,hkp,hy,e⟩)]at ht
  have:=h0 u _ ht
  simp[Slot.gh]at this
theorem Shape.any (hx:Shape cfg ops hasG s0 S A B T) (hal:rm s0 A al t d) {Y:Nat→Prop} {s:St (X:=X)} (ha:AtG A s0 S Y s):s.tm[d]?=some .any:=by
 rw[ha.rest d (fun k o hk _=>hal.nw k o hk),hal.free]
theorem Shape.new (hx:Shape cfg ops hasG s0 S A B T) (hnp:cfg.apn=false) {j:Nat} (hB:B[j]?=some al) (hal:rm s0 A al t d):∃i,look cfg.ti t=some i∧i.var≠[]∧
  S (A.length+j+1)={tm:=(S (A.length+j)).tm.set d (.is (.ptr (S (A.length+j)).hp.length 0)),hp:=(S (A.length+j)).hp++[.raw i.var]}∧(hasG=true→bZ d (S (A.length+j)).tm=true):=by
 obtain⟨cs,sl,h1,h2,h3,h4⟩:=hx.run.at (hx.inB hB)
 unfold core at h2
 rw[hal.ng,hal.op]at h2
 simp only[runCore,af,aA]at h2
 split at h2
 ·rename_i ok v h hh
  split at hh
  ·rename_i i hi
   split at hh
   ·cases hb:i.var.isEmpty with
    |true=>rw[hb]at hh;cases hh
    |false=>
     rw[hb,B5]at hh
     simp only[List.isEmpty_eq_false_iff]at hb
     simp only[B0,Prod.mk.injEq]at hh
     obtain⟨rfl,rfl,rfl⟩:=hh
     simp only[B4,B0,Prod.mk.injEq]at h2
     obtain⟨rfl,h2⟩:=h2
     refine⟨i,hi,hb,?_,fun hg=>?_⟩
     ·rw[hal.dst]at h3
      simp only[cD,au]at h3
      cases hS:S (A.length+j+1)with
      |mk tm hp=>
       rw[hS]at h2 h3
       simp only at h2 h3
       rw[h2,h3]
     ·have:=(h4 d hal.dst).1 hg
      simpa[bZ]using this
   ·rw[hnp,Bool.false_and,B5]at hh
    cases hh
  ·cases hh
 ·rename_i ok h hh
  split at hh
  ·rename_i i hi
   split at hh
   ·cases hb:i.var.isEmpty with
    |true=>rw[hb]at hh;cases hh
    |false=>rw[hb,B5]at hh;simp at hh
   ·rw[hnp,Bool.false_and,B5]at hh
    cases hh
  ·cases hh
 ·cases h2
structure At3 (ops:Array Oper) (s0:St (X:=X)) (S:Nat→St (X:=X)) (m:Nat) (Y:Nat→Prop) (s:St (X:=X)):Prop where
 len:s.tm.length=s0.tm.length
 done:∀(k u:Nat) (o:Oper),ops.toList[k]?=some o→Y k→o.dst=some u→s.tm[u]?=(S (k+1)).tm[u]?
 rest:∀u,(∀(k:Nat) (o:Oper),ops.toList[k]?=some o→Y k→o.dst≠some u)→s.tm[u]?=s0.tm[u]?
 heap:s.hp=(S m).hp
theorem At3.all (hx:Shape cfg ops hasG s0 S A B T) {Y:Nat→Prop} {s:St (X:=X)} (ha:At3 ops s0 S ops.size Y s) (bc:∀k,k<ops.size→Y k):s=S ops.size:=by
 have h2:s.tm=(S ops.size).tm:=by
  apply List.ext_getElem?
  intro u
  by_cases hw:∃(k:Nat) (o:Oper),ops.toList[k]?=some o∧o.dst=some u
  ·obtain⟨k,o,ho,hd⟩:=hw
   have hlt:k<ops.size:=by have:=(List.getElem?_eq_some_iff.1 ho).1;simpa using this
   rw[ha.done k u o ho (bc k hlt) hd]
   exact(hx.run.jn ops.size (i:=k+1) hlt (by simp) (fun k' o' h1 h2 h3 e=>hx.tM k' k o' o u h3 ho (by omega) hd e)).symm
  ·rw[ha.rest u (fun k o ho _ e=>hw ⟨k,o,ho,e⟩),hx.run.cF (by simp) (fun k o _ ho e=>hw ⟨k,o,ho,e⟩)]
 have h1:=ha.heap
 cases s
 cases hS:S ops.size
 rw[hS]at h1 h2
 simp only at h1 h2
 rw[h1,h2]
theorem At3.next (hx:Shape cfg ops hasG s0 S A B T) (h0:Px.ae s0.tm) {m:Nat} {Y:Nat→Prop} {s:St (X:=X)} (ha:At3 ops s0 S m Y s) {i:Nat} {o:Oper} (ho:ops.toList[i]?=some o) (hY:¬Y i)
  (hready:∀k,aW o k=true→Y k) (hclosed:∀(k:Nat) (p:Oper),ops.toList[k]?=some p→Y k→∀j,aW p j=true→Y j) (hng:o.guard=none) (hk:aq o.op=some 0∨(i=m∧(aq o.op=some 1∨aq o.op=some 3))) {m':Nat} (hm':(S m').hp=if i=m then(S (m+1)).hp else(S m).hp):
  ∃s',fb cfg ops.toList hasG o s=some s'∧At3 ops s0 S m' (fun k=>Y k∨k=i) s':=by
 have hlt:i<ops.toList.length:=(List.getElem?_eq_some_iff.1 ho).1
 have hanc:∀j,Anc ops.toList i j→Y j:=fun j hj=>hj.done hclosed (fun o' ho' k hk'=>by rw[ho]at ho';simp only[B0]at ho';subst ho';exact hready k hk')
 have hag:iG o (S i).tm s.tm:=by
  intro u hu
  by_cases hw:∃(j:Nat) (p:Oper),ops.toList[j]?=some p∧j≠i∧p.dst=some u
  ·obtain⟨j,p,hj,hne,hd⟩:=hw
   have hij:=hx.lks i j o p u ho hj (fun e=>hne e.symm) hd hu
   have hlt':j<i:=by
    clear hready
    have:∀{a b:Nat},Anc ops.toList a b→b<a:=by
     intro a b h
     induction h with
     |edge h he=>exact hx.back _ _ _ h he
     |step h he _ ih=>have:=hx.back _ _ _ h he;omega
    exact this hij
   rw[ha.done j u p hj (hanc j hij) hd]
   exact(hx.run.jn i (i:=j+1) hlt' (by omega) (fun k' o' h1 h2 h3 e=>hx.tM k' j o' p u h3 hj (by omega) hd e)).symm
  ·have hno:∀(k:Nat) (p:Oper),ops.toList[k]?=some p→k≠i→p.dst≠some u:=fun k p hkp hne e=>hw ⟨k,p,hkp,hne,e⟩
   rw[ha.rest u (fun k p hkp hy=>hno k p hkp (fun e=>hY (e▸hy))),hx.run.cF (by omega) (fun k p hki hkp=>hno k p hkp (by omega))]
 obtain⟨cs,sl,hg,hc,htm,hput⟩:=hx.run.at ho
 have hcs:cs=[]:=by
  unfold gcs at hg
  rw[hng]at hg
  simp only[B0]at hg
  exact hg.symm
 subst hcs
 have hg':gcs ops.toList o s.tm=some []:=by
  unfold gcs
  rw[hng]
 have hcore:core cfg o [] s.hp s.tm=some (sl,(S m').hp):=by
  rw[hm']
  rcases hk with h0'|⟨rfl,h1|h3⟩
  ·obtain⟨e1,e2⟩:=fk (hp':=s.hp) hag (fun _ hc=>by cases hc) (fun _=> .inl h0') (.inl h0') hc
   rw[e2]
   split
   ·rename_i e
    subst e
    rw[e1,ha.heap]
   ·rw[ha.heap]
  ·obtain⟨e1,e2⟩:=fk (hp':=s.hp) hag (fun _ hc=>by cases hc) (fun _=> .inr (.inl ha.heap)) (.inr (.inl h1)) hc
   rw[e2,if_pos rfl,e1,ha.heap]
  ·rw[if_pos rfl,ha.heap]
   rw[←hc]
   have e1:af cfg (S i).hp s.tm [] o.op=none:=gn h3
   have e2:af cfg (S i).hp (S i).tm [] o.op=none:=gn h3
   have e3:=iQ (cfg:=cfg) (hp:=(S i).hp) hag h3
   have e4:∀tm,aA (eI cfg) (S i).hp tm [] o.op=aA cfg (S i).hp tm [] o.op:=by
    intro tm
    cases hop:o.op<;>rw[hop]at h3<;>simp[aq]at h3
    rfl
   rw[e4,e4]at e3
   unfold core
   rw[hng]
   simp only[runCore,e1,e2]
   cases hop:o.op<;>rw[hop]at h3<;>simp[aq]at h3
   rw[hop]at e3
   simp only[e3]
 -- nobody's condition is written anew
 have hslo:∀cs v,sl≠ .opt cs v:=by
  intro cs v e
  subst e
  unfold core at hc
  rw[hng]at hc
  exact fB hc
 have hok:∀d,o.dst=some d→(hasG=true→bZ d (sl::s.tm)=true)∧(hasG=false→∀cs v,sl≠ .opt cs v):=by
  intro d' hd
  refine⟨fun hG=>o7 fun u cs' v ht c hcm e=>?_,fun _=>hslo⟩
  cases u with
  |zero=>
   simp only[List.getElem?_cons_zero,B0]at ht
   exact hslo _ _ ht
  |succ u=>
   simp only[List.getElem?_cons_succ]at ht
   by_cases hw:∃(j:Nat) (p:Oper),ops.toList[j]?=some p∧Y j∧p.dst=some u
   ·obtain⟨j,p,hj,hy,hdj⟩:=hw
    rw[ha.done j u p hj hy hdj]at ht
    obtain⟨csj,e1,e2⟩:=hx.run.slot hj hdj ht
    have:=iS e2
    subst this
    have hjA:j<A.length:=by
     apply Classical.byContradiction
     intro hge
     have hpn:p.guard=none:=by
      rcases Nat.lt_or_ge j (A.length+B.length)with hjn|hjn
      ·obtain⟨t,d,hal⟩:=hx.als _ p (hx.atB (by omega) hjn hj)
       exact hal.ng
      ·exact(hx.zF j p hjn hj).1
     unfold gcs at e1
     rw[hpn]at e1
     simp only[B0]at e1
     subst e1
     cases hcm
    have hjA':A[j]?=some p:=by rw[hx.eq,List.getElem?_append_left hjA]at hj;exact hj
    rw[hx.eq,nn hx.gk hjA']at e1
    obtain⟨g,og,a1,a2,a3⟩:=hx.qw.conds hx.gk j p _ hjA' e1 c hcm
    have hgl:g<A.length:=(List.getElem?_eq_some_iff.1 a2).1
    have a2':ops.toList[g]?=some og:=by rw[hx.eq,List.getElem?_append_left hgl];exact a2
    have:g=i:=by
     apply Classical.byContradiction
     intro hne
     exact hx.tM i g o og d' ho a2' (fun e=>hne e.symm) (by rw[a3,e]) hd
    subst this
    refine hY (a1.done (Y:=Y) (fun k q hkq hyk=>hclosed k q (by rw[hx.eq,List.getElem?_append_left (List.getElem?_eq_some_iff.1 hkq).1];exact hkq) hyk) (fun o' ho' k hk'=>?_))
    rw[hjA']at ho'
    simp only[B0]at ho'
    subst ho'
    exact hclosed j p hj hy k hk'
   ·rw[ha.rest u (fun k p hkp hy e=>hw ⟨k,p,hkp,hy,e⟩)]at ht
    have:=h0 u _ ht
    simp[Slot.gh]at this
 refine⟨{(cD s o.dst sl)with hp:=(S m').hp},?_,?_⟩
 ·rw[bI,hg']
  simp only[hcore,zf]
  rw[u7 (s:={tm:=s.tm,hp:=(S m').hp}) hok]
  unfold cD
  cases o.dst<;>rfl
 ·cases hd:o.dst with
  |none=>
   simp only[cD]
   refine⟨ha.len,fun k u p hkp hy hdp=>?_,fun u hno=>?_,rfl⟩
   ·rcases hy with hy|rfl
    ·exact ha.done k u p hkp hy hdp
    ·rw[ho]at hkp;simp only[B0]at hkp;subst hkp;rw[hd]at hdp;cases hdp
   ·exact ha.rest u (fun k p hkp hy=>hno k p hkp (.inl hy))
  |some d'=>
   rw[hd]at htm
   simp only[cD,au]at htm⊢
   refine⟨by simpa using ha.len,fun k u p hkp hy hdp=>?_,fun u hno=>?_,rfl⟩
   ·by_cases e:u=d'
    ·subst e
     have hki:k=i:=by
      apply Classical.byContradiction
      intro hne
      exact hx.tM i k o p u ho hkp (fun e=>hne e.symm) hdp hd
     subst hki
     rw[htm]
     by_cases hl:u<s.tm.length
     ·rw[List.getElem?_set_self hl,List.getElem?_set_self (by rw[hx.run.len k (by omega),←ha.len];exact hl)]
     ·have hl2:¬u<(S k).tm.length:=by rw[hx.run.len k (Nat.le_of_lt hlt),←ha.len];exact hl
      rw[List.getElem?_eq_none (by rw[List.length_set];exact Nat.le_of_not_lt hl),List.getElem?_eq_none (by rw[List.length_set];exact Nat.le_of_not_lt hl2)]
    ·rw[List.getElem?_set_ne (fun h=>e h.symm)]
     rcases hy with hy|rfl
     ·exact ha.done k u p hkp hy hdp
     ·rw[ho]at hkp
      simp only[B0]at hkp
      subst hkp
      rw[hd]at hdp
      simp only[B0]at hdp
      exact absurd hdp.symm e
   ·have hne:u≠d':=fun e=>hno i o ho (.inr rfl) (by rw[hd,e])
    rw[List.getElem?_set_ne (fun h=>hne h.symm)]
    exact ha.rest u (fun k p hkp hy=>hno k p hkp (.inl hy))
def n8 (w0:aN) (cfg:Cfg (X:=X)) (al:Oper) (a:Act) (p:Nat×Obj):Prop:=
 ∃t d i,al.op= .alloc t∧al.dst=some d∧look cfg.ti t=some i∧a.tmps.getD d undef= .pointer (some ⟨p.1,0,none⟩)∧Bb w0 i.var t p.1 p.2
inductive wc (w0:aN) (cfg:Cfg (X:=X)) (ops:Array Oper) (hasG:Bool) (s0:St (X:=X)) (S:Nat→St (X:=X)) (A B:List Oper) (ρ0:List Loc) (listed:Array Bool) (a:Act) (w:World):Prop
 |two (hl:∀k,A.length+B.length≤k→listed.getD k false=false) (s:St (X:=X)) (ρ:List Loc) (z:Nat→Nat×Obj) (q:List (Nat×Obj)) (h1:ρ0<+:ρ) (ha:AtG A s0 S (fun k=>listed.getD k false=true) s)
   (hf:FR ρ s.tm a) (hh:HR ⟨w0.w,q⟩ ρ s.hp w) (hn:hasG=false→Px.ae s.tm) (hq0:∀p∈w0.q,p∈q)
   (hz:∀i al,B[i]?=some al→listed.getD (A.length+i) false=true→z i∈q∧n8 w0 cfg al a (z i))
   (hd:∀i j,i<B.length→j<B.length→listed.getD (A.length+i) false=true→listed.getD (A.length+j) false=true→i≠j→(z i).1≠(z j).1)
 |three (m:Nat) (hm:A.length+B.length≤m) (hm2:m≤ops.size) (hlT:∀k,A.length≤k→k<ops.size→(listed.getD k false=true↔k<m)) (hlA:∀k,k<A.length→listed.getD k false=true∨qX A k) (s:St (X:=X)) (ρ:List Loc) (h1:ρ0<+:ρ)
   (ha:At3 ops s0 S m (fun k=>listed.getD k false=true) s) (hf:FR ρ s.tm a) (hh:HR w0 ρ s.hp w) (hn:hasG=false→Px.ae s.tm)
theorem HR.Bk {w:World} {ρ:List Loc} {hp:List (Blk (X:=X))} {q q':List (Nat×Obj)} (h:HR ⟨w0.w,q⟩ ρ hp w) (hs:∀p∈q',p∈q):HR ⟨w0.w,q'⟩ ρ hp w:=by
 refine⟨h.len,h.below,fun k b l hk hl=>?_,h.marks,h.sep,fun p hp'=>h.bz p (hs p hp')⟩
 have:=h.blk k b l hk hl
 cases b<;>exact this
theorem Shape.Bp (hx:Shape cfg ops hasG s0 S A B T) (hnp:cfg.apn=false) (h0:Px.ae s0.tm) {j:Nat} (hB:B[j]?=some al) {Y:Nat→Prop} (hY:∀k,A.length+j≤k→¬Y k) {s:St (X:=X)} {ρ:List Loc} {a:Act} {w:World} {p:Nat×Obj} {q:List (Nat×Obj)}
  (ha:At3 ops s0 S (A.length+j) Y s) (hf:FR ρ s.tm a) (hh:HR ⟨w0.w,p::q⟩ ρ s.hp w) (hn:hasG=false→Px.ae s.tm) (hst:n8 ⟨w0.w,q⟩ cfg al a p):
  ∃s' ρ',ρ<+:ρ'∧At3 ops s0 S (A.length+j+1) (fun k=>Y k∨k=A.length+j) s'∧FR ρ' s'.tm a∧HR ⟨w0.w,q⟩ ρ' s'.hp w∧(hasG=false→Px.ae s'.tm):=by
 obtain⟨t,d,i,e1,e2,e3,hp,ho⟩:=hst
 obtain⟨t',d',hal⟩:=hx.als j al hB
 have et:t'=t:=by have:=hal.op;rw[e1]at this;cases this;rfl
 have ed:d'=d:=by have:=hal.dst;rw[e2]at this;cases this;rfl
 subst et ed
 obtain⟨i',f1,f2,hS,f5⟩:=hx.new hnp hB hal
 rw[e3]at f1
 simp only[B0]at f1
 subst f1
 obtain⟨n,obj⟩:=p
 have hany:s.tm[d']?=some .any:=by
  rw[ha.rest d' (fun k o hk hy=>?_),hal.free]
  have hkj:k<A.length+j:=Nat.lt_of_not_ge fun h=>hY k h hy
  exact hx.tM k (A.length+j) o al d' hk (hx.inB hB) (by omega) hal.dst
 have hdl:d'<s.tm.length:=(List.getElem?_eq_some_iff.1 hany).1
 have hunm:∀(i:Nat) (cs:List (Nat×Bool)) (v:AV),s.tm[i]?=some (.opt cs v)→∀c∈cs,d'≠c.1:=by
  intro u cs v ht c hcm e
  by_cases hw:∃(j:Nat) (p:Oper),ops.toList[j]?=some p∧Y j∧p.dst=some u
  ·obtain⟨k,p,hk,hy,hdk⟩:=hw
   have hkj:k<A.length+j:=Nat.lt_of_not_ge fun h=>hY k h hy
   rw[ha.done k u p hk hy hdk]at ht
   rcases Nat.lt_or_ge k A.length with hkA|hkA
   ·have hkA':=hx.inA hkA hk
    obtain⟨csj,g1,g2⟩:=hx.qw.slot hkA' hdk ht
    have:=iS g2
    subst this
    obtain⟨g,og,a1,a2,a3⟩:=hx.qw.conds hx.gk k p _ hkA' g1 c hcm
    exact hal.nw g og a2 (by rw[a3,e])
   ·have hkl:=(List.getElem?_eq_some_iff.1 hB).1
    have hkB:=hx.atB hkA (by omega) hk
    obtain⟨t2,d2,hal2⟩:=hx.als _ p hkB
    obtain⟨i2,_,_,hS2,_⟩:=hx.new hnp hkB hal2
    rw[show A.length+(k-A.length)=k by omega]at hS2
    rw[hS2]at ht
    rw[hal2.dst]at hdk
    simp only[B0]at hdk
    subst hdk
    by_cases hl:d2<(S k).tm.length
    ·simp only at ht
     rw[List.getElem?_set_self hl]at ht
     cases ht
    ·rw[List.getElem?_eq_none (by simpa using hl)]at ht
     cases ht
  ·rw[ha.rest u (fun k p hkp hy e=>hw ⟨k,p,hkp,hy,e⟩)]at ht
   have:=h0 u _ ht
   simp[Slot.gh]at this
 have hpre:ρ<+:ρ++[⟨n,0,0,false,none,false⟩]:=List.prefix_append _ _
 have hjs:A.length+j≤ops.toList.length:=by
  have:=(List.getElem?_eq_some_iff.1 (hx.inB hB)).1
  omega
 have hlenS:(S (A.length+j)).tm.length=s.tm.length:=by rw[hx.run.len (A.length+j) hjs,ha.len]
 refine⟨{tm:=s.tm.set d' (.is (.ptr s.hp.length 0)),hp:=s.hp++[.raw i.var]},_,hpre,?_,?_,HR.land (w0:=⟨w0.w,q⟩) hh ho,fun hg=>eS (hn hg) rfl⟩
 ·refine⟨by simpa using ha.len,fun k u o hk hy hdu=>?_,fun u hno=>?_,by rw[hS,ha.heap]⟩
  ·by_cases hkj:k=A.length+j
   ·subst hkj
    have:=hx.inB hB
    rw[hk]at this
    simp only[B0]at this
    subst this
    rw[hal.dst]at hdu
    simp only[B0]at hdu
    subst hdu
    rw[hS,List.getElem?_set_self hdl,List.getElem?_set_self (by rw[hlenS];exact hdl),ha.heap]
   ·have hne:d'≠u:=fun e=>hx.tM k (A.length+j) o al d' hk (hx.inB hB) hkj hal.dst (by rw[hdu,e])
    rw[List.getElem?_set_ne hne]
    exact ha.done k u o hk (hy.resolve_right hkj) hdu
  ·have hne:d'≠u:=fun e=>hno (A.length+j) al (hx.inB hB) (.inr rfl) (by rw[hal.dst,e])
   rw[List.getElem?_set_ne hne]
   exact ha.rest u (fun k o hk hy=>hno k o hk (.inl hy))
 have hlast:(ρ++[(⟨n,0,0,false,none,false⟩:Loc)])[s.hp.length]?=some ⟨n,0,0,false,none,false⟩:=by
  rw[←hh.len,List.getElem?_append_right (Nat.le_refl _),Nat.sub_self];rfl
 have hfp:=(hf.mono hpre).put (d:=d') (s:= .is (.ptr s.hp.length 0)) (x:= .pointer (some ⟨n,0,none⟩)) hunm (bF.2 ⟨_,hlast,rfl,rfl⟩)
 have ea:a.put (some d') (.pointer (some ⟨n,0,none⟩))=a:=by
  have:a.tmps.setIfInBounds d' (.pointer (some ⟨n,0,none⟩))=a.tmps:=by
   apply Array.ext_getElem?
   intro j
   by_cases ej:d'=j
   ·subst ej
    by_cases hd:d'<a.tmps.size
    ·rw[Array.getElem?_setIfInBounds_self_of_lt hd,←hp,Array.getD_eq_getD_getElem?,Array.getElem?_eq_getElem hd]
     rfl
    ·rw[Array.getElem?_eq_none (by simpa using hd),Array.getElem?_eq_none (by simpa using hd)]
   ·rw[Array.getElem?_setIfInBounds_ne ej]
  unfold Act.put
  simp only[this]
 rw[ea]at hfp
 exact hfp
theorem Shape.zi (hx:Shape cfg ops hasG s0 S A B T) (hnp:cfg.apn=false) (h0:Px.ae s0.tm) {z:Nat→Nat×Obj} {a:Act} {w:World}
  (hz:∀i al,B[i]?=some al→n8 w0 cfg al a (z i)) (hd:∀i j,i<B.length→j<B.length→i≠j→(z i).1≠(z j).1):
  ∀(c j:Nat) (Y:Nat→Prop) (s:St (X:=X)) (ρ:List Loc),j+c=B.length→(∀k,A.length+j≤k→¬Y k)→At3 ops s0 S (A.length+j) Y s→FR ρ s.tm a→HR ⟨w0.w,(List.range' j c).map z++w0.q⟩ ρ s.hp w→(hasG=false→Px.ae s.tm)→
  ∃s' ρ',ρ<+:ρ'∧At3 ops s0 S (A.length+B.length) (fun k=>Y k∨(A.length+j≤k∧k<A.length+B.length)) s'∧FR ρ' s'.tm a∧HR w0 ρ' s'.hp w∧(hasG=false→Px.ae s'.tm):=by
 intro c
 induction c with
 |zero=>
  intro j Y s ρ hj hY ha hf hh hn
  have:j=B.length:=by omega
  subst this
  have e:(fun k=>Y k∨(A.length+B.length≤k∧k<A.length+B.length))=Y:=by
   funext k
   refine propext ⟨fun h=>h.resolve_right (by omega), .inl⟩
  exact⟨s,ρ,List.prefix_refl _,by rw[e];exact ha,hf,by simpa using hh,hn⟩
 |succ c ih=>
  intro j Y s ρ hj hY ha hf hh hn
  have hjl:j<B.length:=by omega
  have hB:=List.getElem?_eq_getElem hjl
  rw[List.range'_succ,List.map_cons,List.cons_append]at hh
  obtain⟨t,d,i,e1,e2,e3,e4,e5⟩:=hz j _ hB
  have hst:n8 ⟨w0.w,(List.range' (j+1) c).map z++w0.q⟩ cfg B[j] a (z j):=by
   refine⟨t,d,i,e1,e2,e3,e4,e5.ge,fun p hp=>?_,e5.cells⟩
   rcases List.mem_append.1 hp with hp|hp
   ·obtain⟨k,hk,rfl⟩:=List.mem_map.1 hp
    rw[List.mem_range'_1]at hk
    exact hd k j (by omega) hjl (by omega)
   ·exact e5.old p hp
  obtain⟨s1,ρ1,g1,g2,g3,g4,g5⟩:=hx.Bp hnp h0 hB hY ha hf hh hn hst
  obtain⟨s2,ρ2,k1,k2,k3,k4,k5⟩:=ih (j+1) _ s1 ρ1 (by omega) (fun k hk hy=>by rcases hy with hy|hy;exact hY k (by omega) hy;omega) g2 g3 g4 g5
  refine⟨s2,ρ2,g1.trans k1,?_,k3,k4,k5⟩
  have e:(fun k=>(Y k∨k=A.length+j)∨(A.length+(j+1)≤k∧k<A.length+B.length))=(fun k=>Y k∨(A.length+j≤k∧k<A.length+B.length)):=by
   funext k
   refine propext ⟨fun h=>?_,fun h=>?_⟩
   ·rcases h with(h|h)|h
    ·exact .inl h
    ·exact .inr (by omega)
    ·exact .inr (by omega)
   ·rcases h with h|h
    ·exact .inl (.inl h)
    ·by_cases e:k=A.length+j
     ·exact .inl (.inr e)
     ·exact .inr (by omega)
  rw[←e]
  exact k2
theorem wc.land (hx:Shape cfg ops hasG s0 S A B T) (hnp:cfg.apn=false) (h0:Px.ae s0.tm) {ρ0:List Loc} {listed:Array Bool} {a:Act} {w:World}
  (hlA:∀k,k<A.length→listed.getD k false=true∨qX A k) (hl1:∀k,A.length≤k→k<A.length+B.length→listed.getD k false=true) (hl:∀k,A.length+B.length≤k→listed.getD k false=false)
  {s:St (X:=X)} {ρ:List Loc} {z:Nat→Nat×Obj} {q:List (Nat×Obj)} (h1:ρ0<+:ρ) (ha:AtG A s0 S (fun k=>listed.getD k false=true) s)
   (hf:FR ρ s.tm a) (hh:HR ⟨w0.w,q⟩ ρ s.hp w) (hn:hasG=false→Px.ae s.tm) (hq0:∀p∈w0.q,p∈q)
   (hz:∀i al,B[i]?=some al→listed.getD (A.length+i) false=true→z i∈q∧n8 w0 cfg al a (z i))
   (hd:∀i j,i<B.length→j<B.length→listed.getD (A.length+i) false=true→listed.getD (A.length+j) false=true→i≠j→(z i).1≠(z j).1):
  ∃s' ρ',ρ0<+:ρ'∧At3 ops s0 S (A.length+B.length) (fun k=>listed.getD k false=true) s'∧FR ρ' s'.tm a∧HR w0 ρ' s'.hp w∧(hasG=false→Px.ae s'.tm):=by
 have hhp:s.hp=(S A.length).hp:=by
  obtain⟨m,hm,hhp,hst⟩:=ha.heap
  rw[hhp]
  refine(hx.qw.aY hnp hx.gk A.length hm (Nat.le_refl _) (fun k p h1 h2 h3=>?_)).symm
  cases hp':cJ p with
  |false=>rfl
  |true=>
   rcases hlA k h2 with hy|⟨q,e1,e2,_⟩
   ·have:=(hst k p h3 hp').1 hy;omega
   ·rw[h3]at e1
    simp only[B0]at e1
    subst e1
    have:=(iY.1 hp').1
    rw[w7 e2]at this
    cases this
 have ha3:At3 ops s0 S (A.length+0) (fun k=>listed.getD k false=true∧k<A.length) s:=by
  refine⟨ha.len,fun k u o hk hy hdu=>ha.done k u o (hx.inA hy.2 hk) hy.1 hdu,fun u hno=>ha.rest u (fun k o hk hy=>?_),hhp⟩
  have hkl:=(List.getElem?_eq_some_iff.1 hk).1
  exact hno k o (by rw[hx.eq,List.getElem?_append_left hkl];exact hk) ⟨hy,hkl⟩
 have hin:∀i,i<B.length→listed.getD (A.length+i) false=true:=fun i hi=>hl1 _ (by omega) (by omega)
 have hh':HR ⟨w0.w,(List.range' 0 B.length).map z++w0.q⟩ ρ s.hp w:=hh.Bk fun p hp=>by
  rcases List.mem_append.1 hp with hp|hp
  ·obtain⟨k,hk,rfl⟩:=List.mem_map.1 hp
   rw[List.mem_range'_1]at hk
   exact(hz k _ (List.getElem?_eq_getElem (by omega)) (hin k (by omega))).1
  ·exact hq0 p hp
 obtain⟨s',ρ',k1,k2,k3,k4,k5⟩:=hx.zi hnp h0 (fun i al hB=>(hz i al hB (hin i (List.getElem?_eq_some_iff.1 hB).1)).2) (fun i j hi hj=>hd i j hi hj (hin i hi) (hin j hj)) B.length 0 _ s ρ (by omega) (fun k hk hy=>by omega) ha3 hf hh' hn
 refine⟨s',ρ',h1.trans k1,?_,k3,k4,k5⟩
 have e:(fun k=>(listed.getD k false=true∧k<A.length)∨(A.length+0≤k∧k<A.length+B.length))=(fun k=>listed.getD k false=true):=by
  funext k
  refine propext ⟨fun h=>?_,fun h=>?_⟩
  ·rcases h with h|h
   ·exact h.1
   ·exact hl1 k (by omega) h.2
  ·by_cases hk:k<A.length
   ·exact .inl ⟨h,hk⟩
   ·refine .inr ⟨by omega,Nat.lt_of_not_ge fun hge=>?_⟩
    rw[hl k hge]at h
    cases h
 rw[←e]
 exact k2
end
end Go.Proofs.Ytdadgkgkdgnihaa.Px


namespace Go.Proofs.Ytdadgkgkdgnihaa.Px
open Go Go.RowKit
section
variable [X:aS] {P:Program} {G:World→Prop} {cfg:Cfg (X:=X)} {w0:aN} {R:Type} {fail:R} {φ:R→Prop}
variable {ops:Array Oper} {hasG:Bool} {s0:St (X:=X)} {S:Nat→St (X:=X)} {A B T:List Oper} {al:Oper} {d t:Nat}
omit X in
theorem nU {a:Act} {o:Option Nat} {x:Value} {d:Nat} (h:o≠some d):(a.put o x).tmps.getD d undef=a.tmps.getD d undef:=by
 cases o with
 |none=>rfl
 |some e=>
  have:e≠d:=fun h'=>h (by rw[h'])
  simp only[Act.put]
  rw[Array.getD_eq_getD_getElem?,Array.getElem?_setIfInBounds_ne this,←Array.getD_eq_getD_getElem?]
theorem Shape.one (hq:EOk P G cfg) {W:aN} (hG:G W.w) (hx:Shape cfg ops hasG s0 S A B T) (had:lZ cfg) (hnp:cfg.apn=false) (h0:Px.ae s0.tm) {rn:Option Nat} {Q:Exit→Act→World→Prop} {Y:Nat→Prop} {s:St (X:=X)} {ρ:List Loc} {a:Act} {w:World}
  (ha:AtG A s0 S Y s) (hf:FR ρ s.tm a) (hh:HR W ρ s.hp w) (hn:hasG=false→Px.ae s.tm) {i:Nat} {o:Oper} (ho:A[i]?=some o) (hY:¬Y i) (hready:∀k,aW o k=true→Y k) (hc:∀(k:Nat) (p:Oper),A[k]?=some p→Y k→∀j,aW p j=true→Y j)
  {K:Act→World→Prop} (hK:∀s' ρ' a' w',ρ<+:ρ'→AtG A s0 S (fun k=>Y k∨k=i) s'→FR ρ' s'.tm a'→HR W ρ' s'.hp w'→(hasG=false→Px.ae s'.tm)→(∀d,o.dst≠some d→a'.tmps.getD d undef=a.tmps.getD d undef)→K a' w'):
  wpOpIn (Wd rn) 0 P ops Q i K a w:=by
 have hsees:∀t x v,o.op= .load t x→o.guard=none→rd s.tm [] x=some v→vW s.hp v:=by
  intro t x v _ _ hv
  have hcv:=aj hf (rfl:ai s.tm []=true) hv
  cases v with
  |ptr k q=>
   obtain⟨l,hl,_⟩:=bF.1 hcv
   show k<s.hp.length
   rw[←hh.len]
   exact(List.getElem?_eq_some_iff.1 hl).1
  |pel k i wd q=>
   obtain⟨l,hl,hnl,_⟩:=cm.1 hcv
   have hkl:k<s.hp.length:=by rw[←hh.len];exact(List.getElem?_eq_some_iff.1 hl).1
   refine⟨hkl,?_⟩
   obtain⟨l2,hl2,_⟩:=cG hh hl hnl
   rw[←hh.len]
   exact(List.getElem?_eq_some_iff.1 hl2).1
  |_=>trivial
 obtain⟨s',hst,ha'⟩:=ha.next hx.qw hx.gk (fun h=>by cases h) had hnp h0 ho hY hready hc hsees
 rw[←hx.Bf ho]at hst
 have hol:ops.toList[i]?=some o:=by
  rw[hx.eq,List.getElem?_append_left (List.getElem?_eq_some_iff.1 ho).1]
  exact ho
 have hoo:ops[i]?=some o:=by simpa using hol
 have hw:=kG (rn:=rn) (P:=P) (cfg:=cfg) (w0:=W) hq hG hst hf hh hn (Q:=Q)
 unfold wpOpIn
 simp only[hoo]
 split
 ·rename_i hwt
  rw[if_pos hwt]at hw
  refine Oper.wpIn_mono (fun a' w' h=>?_) (yd hw)
  obtain⟨⟨ρ',h1,h2,h3,h4⟩,x,hx'⟩:=h
  exact hK s' ρ' a' w' h1 ha' h2 h3 h4 (fun d hnd=>by rw[hx',nU hnd])
 ·rename_i hwt
  rw[if_neg hwt]at hw
  obtain⟨ρ',h1,h2,h3,h4⟩:=hw
  exact⟨fun _ _=>trivial,hK s' ρ' _ w h1 ha' h2 h3 h4 (fun d hnd=>nU hnd)⟩
theorem oR (hq:EOk P G cfg) (hG:G w0.w) (hx:Shape cfg ops hasG s0 S A B T) (had:lZ cfg) (hnp:cfg.apn=false) (h0:Px.ae s0.tm) {rn:Option Nat} {ρ0:List Loc} {Q:Exit→Act→World→Prop}
  (hQ:∀ρ' a' w',ρ0<+:ρ'→FR ρ' (S ops.size).tm a'→HR w0 ρ' (S ops.size).hp w'→(hasG=false→Px.ae (S ops.size).tm)→Q .normal a' w'):
  ∀(fuel:Nat) (listed:Array Bool) (a:Act) (w:World),listed.size=ops.size→unl ops.size listed≤fuel→wc w0 cfg ops hasG s0 S A B ρ0 listed a w→
  (∀(k:Nat) (p:Oper),ops.toList[k]?=some p→listed.getD k false=true→∀j,aW p j=true→listed.getD j false=true)→wpAnyIn (Wd rn) 0 P .any ops Q fuel listed a w:=by
 intro fuel
 have hsize:=hx.size
 have hBl:=hx.some_
 -- the new objects and all that must be ahead have come
 have land:∀(listed:Array Bool) (a:Act) (w:World),wc w0 cfg ops hasG s0 S A B ρ0 listed a w→(∀k,A.length≤k→k<A.length+B.length→listed.getD k false=true)→(∀k,k<A.length→listed.getD k false=true∨qX A k)→∃m,A.length+B.length≤m∧m≤ops.size∧(∀k,A.length≤k→k<ops.size→(listed.getD k false=true↔k<m))∧
   ∃s ρ,ρ0<+:ρ∧At3 ops s0 S m (fun k=>listed.getD k false=true) s∧FR ρ s.tm a∧HR w0 ρ s.hp w∧(hasG=false→Px.ae s.tm):=by
  intro listed a w hI hn1 bc
  cases hI with
  |two hl s ρ z q h1 ha hf hh hn hq0 hz hd=>
   refine⟨A.length+B.length,Nat.le_refl _,by omega,fun k hk1 hk=>⟨fun h=>?_,fun h=>hn1 k hk1 h⟩,wc.land hx hnp h0 bc hn1 hl h1 ha hf hh hn hq0 hz hd⟩
   refine Nat.lt_of_not_ge fun h'=>?_
   rw[hl k h']at h
   cases h
  |three m hm hm2 hlT hlA s ρ h1 ha hf hh hn=>exact⟨m,hm,hm2,hlT,s,ρ,h1,ha,hf,hh,hn⟩
 have done:∀(listed:Array Bool) (a:Act) (w:World),listed.size=ops.size→wc w0 cfg ops hasG s0 S A B ρ0 listed a w→Region.ready .any ops listed=[]→Q .normal a w:=by
  intro listed a w hsz hI hrd
  have bc:∀k,k<ops.size→listed.getD k false=true:=by
   intro k
   induction k using Nat.strongRecOn with
   |_ k ih=>
    intro hkl
    cases hg:listed.getD k false with
    |true=>rfl
    |false=>
     exfalso
     have hmem:k∈Region.ready .any ops listed:=by
      refine mem_ready.2 ⟨?_,ops[k],Array.getElem?_eq_getElem hkl,fun e he hb=>?_⟩
      ·rw[Array.getD_eq_getD_getElem?,Array.getElem?_eq_getElem (by rw[hsz];exact hkl)]at hg⊢
       exact hg
      ·have hE:aW ops[k] e.on=true:=by
        simp only[aW,List.any_eq_true,B1]
        exact⟨e,by simpa using he,hb,by simp⟩
       have hlt:=hx.back k ops[k] e.on (by simp[hkl]) hE
       exact ih e.on hlt (by omega)
     rw[hrd]at hmem
     cases hmem
  obtain⟨m,hm,hm2,hl,s,ρ,h1,ha,hf,hh,hn⟩:=land listed a w hI (fun k hk1 hk=>bc k (by omega)) (fun k hk=> .inl (bc k (by omega)))
  have hms:m=ops.size:=by
   rcases Nat.lt_or_ge m ops.size with h'|h'
   ·have:=(hl m (by omega) h').1 (bc m h');omega
   ·omega
  subst hms
  have:=ha.all hx bc
  subst this
  exact hQ ρ a w h1 hf hh hn
 induction fuel with
 |zero=>
  intro listed a w hsz hu' hI hc
  have hrd:Region.ready .any ops listed=[]:=by
   rw[List.eq_nil_iff_forall_not_mem]
   intro i hi
   obtain⟨h1,o,ho,_⟩:=mem_ready.1 hi
   have hlt:i<ops.size:=(Array.getElem?_eq_some_iff.1 ho).1
   have h1':listed.getD i false=false:=by
    rw[Array.getD_eq_getD_getElem?,Array.getElem?_eq_getElem (by rw[hsz];exact hlt)]at h1⊢
    exact h1
   have:=eG hsz hlt h1'
   omega
  exact⟨hrd,done listed a w hsz hI hrd⟩
 |succ fuel ih=>
  intro listed a w hsz hu' hI hc
  refine⟨fun hrd=>done listed a w hsz hI hrd,fun i' hi=>?_⟩
  obtain⟨h1,o,ho,bc⟩:=mem_ready.1 hi
  have hlt:i'<ops.size:=(Array.getElem?_eq_some_iff.1 ho).1
  have h1':listed.getD i' false=false:=by
   rw[Array.getD_eq_getD_getElem?,Array.getElem?_eq_getElem (by rw[hsz];exact hlt)]at h1⊢
   exact h1
  have hol:ops.toList[i']?=some o:=by simpa using ho
  have hready:∀k,aW o k=true→listed.getD k false=true:=by
   intro k hk'
   simp only[aW,List.any_eq_true,B1]at hk'
   obtain⟨e,he,hb,hek⟩:=hk'
   have:=bc e (by simpa using he) hb
   rwa[B2 hek]at this
  have hset:∀k,(listed.setIfInBounds i' true).getD k false=true↔(listed.getD k false=true∨k=i'):=by
   intro k
   by_cases e:k=i'
   ·subst e
    rw[Array.getD_eq_getD_getElem?,Array.getElem?_setIfInBounds_self_of_lt (by rw[hsz];exact hlt)]
    simp
   ·rw[Array.getD_eq_getD_getElem?,Array.getElem?_setIfInBounds_ne (fun h=>e h.symm),←Array.getD_eq_getD_getElem?]
    simp[e]
  have hsetf:∀k,k≠i'→listed.getD k false=false→(listed.setIfInBounds i' true).getD k false=false:=by
   intro k hk hf
   rw[Bool.eq_false_iff]
   intro h
   rcases(hset k).1 h with h|h
   ·rw[hf]at h;cases h
   ·exact hk h
  have efun:(fun k=>(listed.setIfInBounds i' true).getD k false=true)=(fun k=>listed.getD k false=true∨k=i'):=funext fun k=>propext (hset k)
  have go:∀(a':Act) (w':World),wc w0 cfg ops hasG s0 S A B ρ0 (listed.setIfInBounds i' true) a' w'→wpAnyIn (Wd rn) 0 P .any ops Q fuel (listed.setIfInBounds i' true) a' w':=by
   intro a' w' hI'
   refine ih _ a' w' (by simpa using hsz) (by have:=eG hsz hlt h1';omega) hI' (fun k p hkp hyk j hj=>?_)
   rw[hset]at hyk⊢
   rcases hyk with hyk|rfl
   ·exact .inl (hc k p hkp hyk j hj)
   ·rw[hol]at hkp
    simp only[B0]at hkp
    subst hkp
    exact .inl (hready j hj)
  have step:∀{s s':St (X:=X)} {ρ:List Loc},fb cfg ops.toList hasG o s=some s'→FR ρ s.tm a→HR w0 ρ s.hp w→(hasG=false→Px.ae s.tm)→
    (∀a' w' ρ',ρ<+:ρ'→FR ρ' s'.tm a'→HR w0 ρ' s'.hp w'→(hasG=false→Px.ae s'.tm)→wpAnyIn (Wd rn) 0 P .any ops Q fuel (listed.setIfInBounds i' true) a' w')→wpOpIn (Wd rn) 0 P ops Q i' (wpAnyIn (Wd rn) 0 P .any ops Q fuel (listed.setIfInBounds i' true)) a w:=by
   intro s s' ρ hst hf hh hn fin
   have hw:=kG (rn:=rn) (P:=P) (cfg:=cfg) (w0:=w0) hq hG hst hf hh hn (Q:=Q)
   unfold wpOpIn
   simp only[ho]
   split
   ·rename_i hwt
    rw[if_pos hwt]at hw
    exact Oper.wpIn_mono (fun a' w' ⟨ρ',e1,e2,e3,e4⟩=>fin a' w' ρ' e1 e2 e3 e4) hw
   ·rename_i hwt
    rw[if_neg hwt]at hw
    obtain⟨ρ',e1,e2,e3,e4⟩:=hw
    exact⟨fun _ _=>trivial,fin _ _ ρ' e1 e2 e3 e4⟩
  have hcA:∀(k:Nat) (p:Oper),A[k]?=some p→listed.getD k false=true→∀j,aW p j=true→listed.getD j false=true:=by
   intro k p hkp
   refine hc k p ?_
   rw[hx.eq,List.getElem?_append_left (List.getElem?_eq_some_iff.1 hkp).1]
   exact hkp
  rcases Nat.lt_or_ge i' A.length with hiA|hiA
  ·-- ahead of the new objects
   have hoA:A[i']?=some o:=hx.inA hiA hol
   cases hI with
   |two hl s ρ z q hp1 ha hf hh hn hq0 hz hd=>
    refine hx.one hq (W:=⟨w0.w,q⟩) hG had hnp h0 ha hf hh hn hoA (by rw[h1'];simp) hready hcA (fun s' ρ' a' w' e1 e2 e3 e4 e5 e6=>?_)
    have hBk:∀j,(listed.setIfInBounds i' true).getD (A.length+j) false=true→listed.getD (A.length+j) false=true:=fun j h=>((hset _).1 h).resolve_right (by omega)
    refine go a' w' (.two (fun k hk=>hsetf k (by omega) (hl k hk)) s' ρ' z q (hp1.trans e1) ?_ e3 e4 e5 hq0 (fun j al hj hlj=>?_) (fun j k hj hk h1 h2=>hd j k hj hk (hBk j h1) (hBk k h2)))
    ·rw[efun]
     exact e2
    ·obtain⟨z1,t,d,i,z2,z3,z4,z5,z6⟩:=hz j al hj (hBk j hlj)
     refine⟨z1,t,d,i,z2,z3,z4,?_,z6⟩
     obtain⟨t',d',hal⟩:=hx.als j al hj
     have ed:d'=d:=by have:=hal.dst;rw[z3]at this;cases this;rfl
     rw[e6 d (by rw[←ed];exact hal.nw i' o hoA),z5]
   |three m hm hm2 hlT hlA s ρ hp1 ha hf hh hn=>
    rcases hlA i' hiA with h'|⟨p,e1,e2,e3⟩
    ·rw[h1']at h';cases h'
    ·rw[hoA]at e1
     simp only[B0]at e1
     subst e1
     obtain⟨s',hst,ha'⟩:=ha.next hx h0 hol (by rw[h1'];simp) hready hc e3 (.inl e2) (m':=m) (by rw[if_neg (by omega)])
     refine step hst hf hh hn (fun a' w' ρ' f1 f2 f3 f4=>go a' w' (.three m hm hm2 (fun k hk1 hk=>?_) (fun k hk=>?_) s' ρ' (hp1.trans f1) (by rw[efun];exact ha') f2 f3 f4))
     ·rw[hset,hlT k hk1 hk]
      omega
     ·rcases hlA k hk with h'|h'
      ·exact .inl ((hset k).2 (.inl h'))
      ·exact .inr h'
  rcases Nat.lt_or_ge i' (A.length+B.length)with hiB|hiB
  ·-- a new object
   have hBo:=hx.atB hiA hiB hol
   obtain⟨t,d,hal⟩:=hx.als _ o hBo
   obtain⟨i,hti,hzn,_,_⟩:=hx.new hnp hBo hal
   cases hI with
   |two hl s ρ z q hp1 ha hf hh hn hq0 hz hd=>
    unfold wpOpIn
    simp only[ho]
    rw[if_pos (by simp[Region.wanted,hal.ng])]
    have hnd:∀c,o.op≠ .defer c:=fun c e=>by rw[hal.op]at e;cases e
    obtain⟨inf,zv,z1,z2,z3,z4⟩:=j0 hq.types t i hti hzn
    have hzv:(zeroValue t).run P w= .ok zv w:=by simp[zeroValue,eg z1,z2]
    have hrun:(execOp a.eval o).run P w= .ok (.value (.pointer (some ⟨w.heap.size,0,none⟩))) (w.alloc (.cells zv.cells t)):=by
     obtain⟨dst,op,ty,pos,after,gd⟩:=o
     have:=hal.op
     simp only at this
     subst this
     simp only[execOp,Instr.alloc,newVar,newRow,Sem.run_bind,hzv,Result.andThen_ok,run_newObj,Sem.run_pure,World.alloc_eq]
    refine inW ?_ hnd
    unfold Oper.wp
    rw[hrun]
    simp only[Oper.upon]
    have hany:=hx.any hal ha
    have hdl:d<s.tm.length:=(List.getElem?_eq_some_iff.1 hany).1
    have hlo:∀p∈q,p.1<w.heap.size:=fun p hp=>(Array.getElem?_eq_some_iff.1 (hh.bz p hp).1).1
    have hzj:∀j,j<B.length→(listed.setIfInBounds i' true).getD (A.length+j) false=true→j≠i'-A.length→listed.getD (A.length+j) false=true:=fun j _ h hne=>((hset _).1 h).resolve_right (by omega)
    have hnotd:∀j al2,B[j]?=some al2→j≠i'-A.length→al2.dst≠some d:=by
     intro j al2 hj hne
     have:=hx.tM (A.length+j) i' al2 o d (hx.inB hj) hol (by omega) hal.dst
     exact this
    refine go _ _ (.two (fun k hk=>hsetf k (by omega) (hl k (by omega))) s ρ (fun j=>if j=i'-A.length then(w.heap.size, .cells zv.cells t)else z j) ((w.heap.size, .cells zv.cells t)::q) hp1 ?_ ?_ (HR.A3 (w0:=⟨w0.w,q⟩) hh _) hn (fun p hp=>List.mem_cons_of_mem _ (hq0 p hp)) (fun j al2 hj hlj=>?_) (fun j k hj hk hlj hlk hne=>?_))
    ·rw[efun]
     refine⟨ha.len,fun k u p hkp hy hdp=>?_,fun u hno=>ha.rest u (fun k p hkp hy=>hno k p hkp (.inl hy)),?_⟩
     ·rcases hy with hy|rfl
      ·exact ha.done k u p hkp hy hdp
      ·have:=(List.getElem?_eq_some_iff.1 hkp).1;omega
     ·obtain⟨m,hm,hhp,hst⟩:=ha.heap
      refine⟨m,hm,hhp,fun k p hkp hp=>⟨fun h=>?_,fun h=> .inl ((hst k p hkp hp).2 h)⟩⟩
      rcases h with h|rfl
      ·exact(hst k p hkp hp).1 h
      ·have:=(List.getElem?_eq_some_iff.1 hkp).1;omega
    ·have e:s.tm.set d .any=s.tm:=by
      apply List.ext_getElem?
      intro j
      by_cases ej:d=j
      ·subst ej
       rw[List.getElem?_set_self hdl,hany]
      ·rw[List.getElem?_set_ne ej]
     have:=hf.put (d:=d) (s:= .any) (x:= .pointer (some ⟨w.heap.size,0,none⟩)) (hx.Bd hal h0 ha) trivial
     rw[e]at this
     rw[hal.dst]
     exact this
    ·by_cases e:j=i'-A.length
     ·subst e
      rw[hBo]at hj
      simp only[B0]at hj
      subst hj
      rw[if_pos rfl]
      refine⟨List.mem_cons_self ..,t,d,i,hal.op,hal.dst,hti,?_,hh.below.size,fun p hp e=>?_,zv.cells.toList,z3,z4,by simp⟩
      ·rw[hal.dst]
       simp only[Act.put]
       rw[Array.getD_eq_getD_getElem?,Array.getElem?_setIfInBounds_self_of_lt (by rw[hf.size];exact hdl)]
       rfl
      ·have:=hlo p (hq0 p hp)
       simp only at e
       omega
     ·rw[if_neg e]
      have hjl:=(List.getElem?_eq_some_iff.1 hj).1
      obtain⟨y1,t2,d2,i2,y2,y3,y4,y5,y6⟩:=hz j al2 hj (hzj j hjl hlj e)
      refine⟨List.mem_cons_of_mem _ y1,t2,d2,i2,y2,y3,y4,?_,y6⟩
      rw[nU (by rw[hal.dst];intro e2;exact hnotd j al2 hj e (by rw[y3,e2])),y5]
    ·have fresh:∀k,k<B.length→(listed.setIfInBounds i' true).getD (A.length+k) false=true→k≠i'-A.length→(z k).1<w.heap.size:=fun k hk hlk hne=>
      hlo _ (hz k _ (List.getElem?_eq_getElem hk) (hzj k hk hlk hne)).1
     by_cases e1:j=i'-A.length
     ·have e2:k≠i'-A.length:=fun e=>hne (by omega)
      rw[if_pos e1,if_neg e2]
      have:=fresh k hk hlk e2
      simp only
      omega
     ·by_cases e2:k=i'-A.length
      ·rw[if_neg e1,if_pos e2]
       have:=fresh j hj hlj e1
       simp only
       omega
      ·rw[if_neg e1,if_neg e2]
       exact hd j k hj hk (hzj j hj hlj e1) (hzj k hk hlk e2) hne
   |three m hm hm2 hlT=>
    have:=(hlT i' hiA hlt).2 (by omega)
    rw[h1']at this
    cases this
  ·-- behind
   have hbef:∀j,j<i'→listed.getD j false=true∨qX A j:=by
    intro j hj
    rcases hx.tail i' hiB hlt j hj with h|h
    ·exact .inl (h.done (Y:=fun k=>listed.getD k false=true) hc (fun o' ho' k hk'=>by rw[hol]at ho';simp only[B0]at ho';subst ho';exact hready k hk'))
    ·exact .inr h
   have nlate:∀j,A.length≤j→¬qX A j:=fun j hj ⟨p,hp,_⟩=>by
    have:=(List.getElem?_eq_some_iff.1 hp).1
    omega
   have hbefT:∀j,A.length≤j→j<i'→listed.getD j false=true:=fun j hj hji=>(hbef j hji).resolve_right (nlate j hj)
   obtain⟨m,hm,hm2,hl,s,ρ,hp1,ha,hf,hh,hn⟩:=land listed a w hI (fun k hk1 hk=>hbefT k hk1 (by omega)) (fun k hk=>hbef k (by omega))
   have hmi:m=i':=by
    rcases Nat.lt_trichotomy m i' with h|h|h
    ·have:=(hl m (by omega) (by omega)).1 (hbefT m (by omega) h);omega
    ·exact h
    ·have:=(hl i' hiA hlt).2 h
     rw[h1']at this
     cases this
   subst hmi
   obtain⟨k1,k2⟩:=hx.zF m o hiB hol
   obtain⟨s',hst,ha'⟩:=ha.next hx h0 hol (by rw[h1'];simp) hready hc k1 (by rcases k2 with h|h|h;exact .inl h;exact .inr ⟨rfl, .inl h⟩;exact .inr ⟨rfl, .inr h⟩) (m':=m+1) (by rw[if_pos rfl])
   refine step hst hf hh hn (fun a' w' ρ' f1 f2 f3 f4=>go a' w' (.three (m+1) (by omega) (by omega) (fun k hk1 hk=>?_) (fun k hk=>?_) s' ρ' (hp1.trans f1) (by rw[efun];exact ha') f2 f3 f4))
   ·rw[hset,hl k hk1 hk]
    omega
   ·rcases hbef k (by omega)with h'|h'
    ·exact .inl ((hset k).2 (.inl h'))
    ·exact .inr h'
theorem tf (hm:P.follows .mixedOrders=true) (hf0:¬φ fail) (hq:EOk P G cfg) (hnp:cfg.apn=false) (hG:G w0.w) {id:Nat} {ops:Array Oper} {s:St (X:=X)} {K:St (X:=X)→R} {ρ:List Loc} {a:Act} {w:World} {rn:Option Nat}
  (hk:xX ops.toList s=true) (h:φ (bD cfg fail (fun _ _ _ _=>fail) ops.toList s K)) (hf:FR ρ s.tm a) (hr:HR w0 ρ s.hp w) (hn:Px.ae s.tm):(Code.region id ops true).wpIn (Wd rn) 0 P (bw (Next w0 φ ρ false K)) a w:=by
 unfold xX at hk
 split at hk
 rename_i A C hsp1
 split at hk
 rename_i B T hsp2
 obtain⟨heq1,_⟩:=nH hsp1
 obtain⟨heq2,hBal⟩:=nH hsp2
 have heq:ops.toList=A++(B++T):=by rw[heq1,heq2]
 simp only[B1,List.all_eq_true,Bool.not_eq_true',List.isEmpty_eq_false_iff]at hk
 obtain⟨hBne,hkA,hany,hback,htail⟩:=hk
 have hgk:=GK.of hkA
 have had:lZ cfg:=fun n con hc=>(hq.makes n con hc).2.2
 have hsize:ops.size=A.length+B.length+T.length:=by
  have:=congrArg List.length heq
  simp at this
  omega
 have hback':∀(i:Nat) (o:Oper) (j:Nat),ops.toList[i]?=some o→aW o j=true→j<i:=by
  intro i o j ho he
  simp only[aW,List.any_eq_true,B1]at he
  obtain⟨e,h1,h2,h3⟩:=he
  have:=(hback _ (by have:=cE ops.toList 0 i o ho;simpa using this)).1 e h1
  simp only[h2,Bool.not_true,Bool.false_or,Nat.blt_eq]at this
  rw[←B2 h3]
  exact this
 have h2:∀(i j:Nat) (o p:Oper),ops.toList[i]?=some o→ops.toList[j]?=some p→qJ (reach ops.toList) i o j p=true:=fun i j o p ho hp=>
  (hback _ (by have:=cE ops.toList 0 i o ho;simpa using this)).2 (j,p) (by have:=cE ops.toList 0 j p hp;simpa using this)
 have hlk:∀(i j:Nat) (o p:Oper) (u:Nat),ops.toList[i]?=some o→ops.toList[j]?=some p→i≠j→p.dst=some u→(a6 o u=true→Anc ops.toList i j)∧o.dst≠some u:=by
  intro i j o p u ho hp hne hdu
  have:=h2 i j o p ho hp
  unfold qJ at this
  have hij:Nat.beq i j=false:=by cases hb:Nat.beq i j with
   |true=>exact absurd (B2 hb) hne
   |false=>rfl
  rw[hij,B5]at this
  simp only[hdu,B1]at this
  refine⟨fun hl=>?_,fun e=>?_⟩
  ·have:=this.1.1
   rw[hl,B4]at this
   exact fU this
  ·have:=this.1.2
   rw[e]at this
   simp at this
 have hinB:∀(i:Nat) (al:Oper),B[i]?=some al→ops.toList[A.length+i]?=some al:=by
  intro i al h
  rw[heq,List.getElem?_append_right (by omega),Nat.add_sub_cancel_left,List.getElem?_append_left (List.getElem?_eq_some_iff.1 h).1]
  exact h
 have hals:∀(i:Nat) (al:Oper),B[i]?=some al→∃t d,rm s A al t d:=by
  intro i al h
  obtain⟨t,hop⟩:=yZ (hBal al (List.mem_of_getElem? h))
  have hk1:=hany al (List.mem_of_getElem? h)
  unfold Bg at hk1
  split at hk1
  ·rename_i d hd hng
   refine⟨t,d,hop,hd,hng,?_,fun k o hk=>?_⟩
   ·rw[ak]at hk1
    split at hk1
    ·assumption
    ·cases hk1
   ·have hkl:=(List.getElem?_eq_some_iff.1 hk).1
    exact(hlk k (A.length+i) o al d (by rw[heq,List.getElem?_append_left hkl];exact hk) (hinB i al h) (by omega) hd).2
  ·cases hk1
 have htl:∀(k:Nat) (o:Oper),A.length+B.length≤k→ops.toList[k]?=some o→(o.guard=none∧(aq o.op=some 0∨aq o.op=some 1∨aq o.op=some 3))∧∀j,j<k→Anc ops.toList k j∨qX A j:=by
  intro k o hk ho
  have ho':T[k-(A.length+B.length)]?=some o:=by
   rw[heq,List.getElem?_append_right (by omega),List.getElem?_append_right (by omega)]at ho
   rw[show k-A.length-B.length=k-(A.length+B.length) by omega]at ho
   exact ho
  have:=sb htail _ o ho'
  rw[show A.length+B.length+(k-(A.length+B.length))=k by omega]at this
  exact⟨this.1,fun j hj=>(this.2 j hj).imp fU (fun h=>h)⟩
 have shape:∀{hasG:Bool} {S:Nat→St (X:=X)},S 0=s→(∀k o,ops.toList[k]?=some o→fb cfg ops.toList hasG o (S k)=some (S (k+1)))→Shape cfg ops hasG s S A B T:=by
  intro hasG S hS0 hS
  refine⟨heq,hals,List.length_pos_iff.2 hBne,⟨hS0,hS⟩,⟨hS0,fun k o ho=>?_⟩,hgk,hback',fun i j o p u h1 h2 h3 h4=>(hlk i j o p u h1 h2 h3 h4).1,fun i j o p u h1 h2 h3 h4=>(hlk i j o p u h1 h2 h3 h4).2,fun k o h1 h2=>(htl k o h1 h2).1,fun k h1 h2=>(htl k ops[k] h1 (by simp[h2])).2⟩
  have:=hS k o (by rw[heq,List.getElem?_append_left (List.getElem?_eq_some_iff.1 ho).1];exact ho)
  rw[bI,heq,nn hgk ho,←bI]at this
  exact this
 rw[ec]at h
 unfold dK at h
 refine wpIn_region_any hm ?_
 have none:∀k,¬(Array.replicate ops.size false).getD k false=true:=by
  intro k hy
  rw[Array.getD_eq_getD_getElem?]at hy
  by_cases hk:k<ops.size
  ·simp[hk]at hy
  ·simp[hk]at hy
 have nonef:∀k,(Array.replicate ops.size false).getD k false=false:=fun k=>by
  cases hc:(Array.replicate ops.size false).getD k false with
  |false=>rfl
  |true=>exact absurd hc (none k)
 have e:(fun k=>(Array.replicate ops.size false).getD k false=true)=(fun _=>False):=by
  funext k
  exact propext ⟨fun h=>none k h,fun h=>h.elim⟩
 have hun:unl ops.size (Array.replicate ops.size false)≤ops.size:=by
  unfold unl
  exact Nat.le_trans (List.length_filter_le _ _) (by simp)
 split at h
 ·obtain⟨S,hS0,hS,hK⟩:=lM (cfg:=cfg) hf0 ops.toList h
  have hsh:=shape hS0 hS
  refine oR hq hG hsh had hnp hn (ρ0:=ρ) ?_ ops.size _ a _ (by simp) hun (.two (fun k _=>nonef k) s ρ (fun _=>(0, .deferred Option.none)) w0.q (List.prefix_refl _) ?_ hf (fA hr) (fun _=>hn) (fun _ h=>h) (fun _ _ _ h=>absurd h (none _)) (fun _ _ _ _ h=>absurd h (none _))) (fun k p _ hy=>absurd hy (none k))
  ·intro ρ' a' w' h1 h2 h3 _
   exact⟨{tm:=bN (S ops.size).tm,hp:=(S ops.size).hp},ρ',by simpa using hK,h1,h2.clear,h3,fun _=>bR _⟩
  ·rw[e]
   exact AtG.start hsh.qw
 ·obtain⟨S,hS0,hS,hK⟩:=lM (cfg:=cfg) hf0 ops.toList h
  have hsh:=shape hS0 hS
  refine oR hq hG hsh had hnp hn (ρ0:=ρ) ?_ ops.size _ a _ (by simp) hun (.two (fun k _=>nonef k) s ρ (fun _=>(0, .deferred Option.none)) w0.q (List.prefix_refl _) ?_ hf (fA hr) (fun _=>hn) (fun _ h=>h) (fun _ _ _ h=>absurd h (none _)) (fun _ _ _ _ h=>absurd h (none _))) (fun k p _ hy=>absurd hy (none k))
  ·intro ρ' a' w' h1 h2 h3 h4
   exact⟨_,ρ',by simpa using hK,h1,h2,h3,h4⟩
  ·rw[e]
   exact AtG.start hsh.qw
end
end Go.Proofs.Ytdadgkgkdgnihaa.Px


namespace Go.Proofs.Ytdadgkgkdgnihaa.Px
open Go Go.RowKit
section
variable [X:aS] {P:Program} {G:World→Prop} {cfg:Cfg (X:=X)} {w0:aN} {R:Type} {fail:R} {φ:R→Prop}
theorem rf {ci:bo (X:=X) (R:=R)} (ops:List Oper) (t:Nat) (s:St (X:=X)) (K:St (X:=X)→R):eN cfg fail ci ops t s K=jW cfg fail ci ops t s K:=by
 unfold eN jW
 congr 1
 funext s1
 congr 2
 funext s'
 cases aR ops
 ·rfl
 ·simp only[dH]
structure yB (ops:Array Oper) (A T:List Oper):Prop where
 eq:ops.toList=A++T
 back:∀(i:Nat) (o:Oper) (j:Nat),ops.toList[i]?=some o→aW o j=true→j<i
 tail:∀k,A.length≤k→k<ops.size→∀j,j<k→Anc ops.toList k j
variable {ops:Array Oper} {hasG:Bool} {s0:St (X:=X)} {S:Nat→St (X:=X)} {A T:List Oper}
theorem ta (hf0:¬φ fail) (hq:EOk P G cfg) (hG:G w0.w) {ci:bo (X:=X) (R:=R)} (hci:hD P w0 φ ci) {cfgF:Cfg (X:=X)} (hqF:EOk P G cfgF) (hx:yB ops A T) (hrA:ca cfgF A hasG s0 S) {wk:Bool} (hk:GK wk A s0) (hwk:wk=true→∀j,j≤A.length→(S j).hp=s0.hp) (had:lZ cfgF) (hnp:cfgF.apn=false) (h0:Px.ae s0.tm) {rn:Option Nat} {ρ0:List Loc} {Q:Exit→Act→World→Prop} {K:St (X:=X)→R}
  (hT:φ (cn cfg fail ci ops.toList hasG T (S A.length) K))
  (hQ:∀s ρ' a' w',φ (K s)→ρ0<+:ρ'→FR ρ' s.tm a'→HR w0 ρ' s.hp w'→(hasG=false→Px.ae s.tm)→Q .normal a' w'):
  ∀(fuel:Nat) (listed:Array Bool) (a:Act) (w:World),listed.size=ops.size→unl ops.size listed≤fuel→
  ((∃(s:St (X:=X)) (ρ:List Loc),(∀k,A.length≤k→listed.getD k false=false)∧ρ0<+:ρ∧AtG A s0 S (fun k=>listed.getD k false=true) s∧FR ρ s.tm a∧HR w0 ρ s.hp w∧(hasG=false→Px.ae s.tm))∨
   (∃(j:Nat) (s:St (X:=X)) (ρ:List Loc),A.length≤j∧j≤ops.size∧(∀k,k<ops.size→(listed.getD k false=true↔k<j))∧ρ0<+:ρ∧φ (cn cfg fail ci ops.toList hasG (ops.toList.drop j) s K)∧FR ρ s.tm a∧HR w0 ρ s.hp w∧(hasG=false→Px.ae s.tm)))→
  (∀(k:Nat) (p:Oper),ops.toList[k]?=some p→listed.getD k false=true→∀j,aW p j=true→listed.getD j false=true)→wpAnyIn (Wd rn) 0 P .any ops Q fuel listed a w:=by
 intro fuel
 have hsize:ops.size=A.length+T.length:=by
  have:=congrArg List.length hx.eq
  simpa using this
 have hgetA:∀{k:Nat} {o:Oper},k<A.length→ops.toList[k]?=some o→A[k]?=some o:=by
  intro k o h ho
  rw[hx.eq,List.getElem?_append_left h]at ho
  exact ho
 -- all of the first part has come
 have two:∀(listed:Array Bool) (a:Act) (w:World),(∀k,k<A.length→listed.getD k false=true)→
   ((∃(s:St (X:=X)) (ρ:List Loc),(∀k,A.length≤k→listed.getD k false=false)∧ρ0<+:ρ∧AtG A s0 S (fun k=>listed.getD k false=true) s∧FR ρ s.tm a∧HR w0 ρ s.hp w∧(hasG=false→Px.ae s.tm))∨
   (∃(j:Nat) (s:St (X:=X)) (ρ:List Loc),A.length≤j∧j≤ops.size∧(∀k,k<ops.size→(listed.getD k false=true↔k<j))∧ρ0<+:ρ∧φ (cn cfg fail ci ops.toList hasG (ops.toList.drop j) s K)∧FR ρ s.tm a∧HR w0 ρ s.hp w∧(hasG=false→Px.ae s.tm)))→
   (∃(j:Nat) (s:St (X:=X)) (ρ:List Loc),A.length≤j∧j≤ops.size∧(∀k,k<ops.size→(listed.getD k false=true↔k<j))∧ρ0<+:ρ∧φ (cn cfg fail ci ops.toList hasG (ops.toList.drop j) s K)∧FR ρ s.tm a∧HR w0 ρ s.hp w∧(hasG=false→Px.ae s.tm)):=by
  intro listed a w bc hI
  rcases hI with⟨s,ρ,hl,hρ,ha,hf,hh,hn⟩|h
  ·have hs:=ha.all hrA hnp hk bc
   subst hs
   refine⟨A.length,_,ρ,Nat.le_refl _,by omega,fun k hk'=>⟨fun h=>Nat.lt_of_not_ge fun hge=>?_,fun h=>bc k h⟩,hρ,?_,hf,hh,hn⟩
   ·rw[hl k hge]at h;cases h
   ·rw[hx.eq,List.drop_left]
    rw[hx.eq]at hT
    exact hT
  ·exact h
 have done:∀(listed:Array Bool) (a:Act) (w:World),listed.size=ops.size→
   ((∃(s:St (X:=X)) (ρ:List Loc),(∀k,A.length≤k→listed.getD k false=false)∧ρ0<+:ρ∧AtG A s0 S (fun k=>listed.getD k false=true) s∧FR ρ s.tm a∧HR w0 ρ s.hp w∧(hasG=false→Px.ae s.tm))∨
   (∃(j:Nat) (s:St (X:=X)) (ρ:List Loc),A.length≤j∧j≤ops.size∧(∀k,k<ops.size→(listed.getD k false=true↔k<j))∧ρ0<+:ρ∧φ (cn cfg fail ci ops.toList hasG (ops.toList.drop j) s K)∧FR ρ s.tm a∧HR w0 ρ s.hp w∧(hasG=false→Px.ae s.tm)))→Region.ready .any ops listed=[]→Q .normal a w:=by
  intro listed a w hsz hI hrd
  have bc:∀k,k<ops.size→listed.getD k false=true:=by
   intro k
   induction k using Nat.strongRecOn with
   |_ k ih=>
    intro hkl
    cases hg:listed.getD k false with
    |true=>rfl
    |false=>
     exfalso
     have hmem:k∈Region.ready .any ops listed:=by
      refine mem_ready.2 ⟨?_,ops[k],Array.getElem?_eq_getElem hkl,fun e he hb=>?_⟩
      ·rw[Array.getD_eq_getD_getElem?,Array.getElem?_eq_getElem (by rw[hsz];exact hkl)]at hg⊢
       exact hg
      ·have hE:aW ops[k] e.on=true:=by
        simp only[aW,List.any_eq_true,B1]
        exact⟨e,by simpa using he,hb,by simp⟩
       have hlt:=hx.back k ops[k] e.on (by simp[hkl]) hE
       exact ih e.on hlt (by omega)
     rw[hrd]at hmem
     cases hmem
  obtain⟨j,s,ρ,hj1,hj2,hl,hρ,hφ,hf,hh,hn⟩:=two listed a w (fun k hk'=>bc k (by omega)) hI
  have hjs:j=ops.size:=by
   rcases Nat.lt_or_ge j ops.size with h|h
   ·have:=(hl j h).1 (bc j h);omega
   ·omega
  subst hjs
  have:ops.toList.drop ops.size=[]:=List.drop_eq_nil_of_le (by simp)
  rw[this]at hφ
  exact hQ s ρ a w hφ hρ hf hh hn
 induction fuel with
 |zero=>
  intro listed a w hsz hu' hI hc
  have hrd:Region.ready .any ops listed=[]:=by
   rw[List.eq_nil_iff_forall_not_mem]
   intro i hi
   obtain⟨h1,o,ho,_⟩:=mem_ready.1 hi
   have hlt:i<ops.size:=(Array.getElem?_eq_some_iff.1 ho).1
   have h1':listed.getD i false=false:=by
    rw[Array.getD_eq_getD_getElem?,Array.getElem?_eq_getElem (by rw[hsz];exact hlt)]at h1⊢
    exact h1
   have:=eG hsz hlt h1'
   omega
  exact⟨hrd,done listed a w hsz hI hrd⟩
 |succ fuel ih=>
  intro listed a w hsz hu' hI hc
  refine⟨fun hrd=>done listed a w hsz hI hrd,fun i hi=>?_⟩
  obtain⟨h1,o,ho,bc⟩:=mem_ready.1 hi
  have hlt:i<ops.size:=(Array.getElem?_eq_some_iff.1 ho).1
  have h1':listed.getD i false=false:=by
   rw[Array.getD_eq_getD_getElem?,Array.getElem?_eq_getElem (by rw[hsz];exact hlt)]at h1⊢
   exact h1
  have hol:ops.toList[i]?=some o:=by simpa using ho
  have hready:∀k,aW o k=true→listed.getD k false=true:=by
   intro k hk'
   simp only[aW,List.any_eq_true,B1]at hk'
   obtain⟨e,he,hb,hek⟩:=hk'
   have:=bc e (by simpa using he) hb
   rwa[B2 hek]at this
  have hset:∀k,(listed.setIfInBounds i true).getD k false=true↔(listed.getD k false=true∨k=i):=by
   intro k
   by_cases e:k=i
   ·subst e
    rw[Array.getD_eq_getD_getElem?,Array.getElem?_setIfInBounds_self_of_lt (by rw[hsz];exact hlt)]
    simp
   ·rw[Array.getD_eq_getD_getElem?,Array.getElem?_setIfInBounds_ne (fun h=>e h.symm),←Array.getD_eq_getD_getElem?]
    simp[e]
  have efun:(fun k=>(listed.setIfInBounds i true).getD k false=true)=(fun k=>listed.getD k false=true∨k=i):=funext fun k=>propext (hset k)
  have go:∀(a':Act) (w':World),_→wpAnyIn (Wd rn) 0 P .any ops Q fuel (listed.setIfInBounds i true) a' w':=fun a' w' hI'=>by
   refine ih _ a' w' (by simpa using hsz) (by have:=eG hsz hlt h1';omega) hI' (fun k p hkp hyk j hj=>?_)
   rw[hset]at hyk⊢
   rcases hyk with hyk|rfl
   ·exact .inl (hc k p hkp hyk j hj)
   ·rw[hol]at hkp
    simp only[B0]at hkp
    subst hkp
    exact .inl (hready j hj)
  have wr:∀{N:Act→World→Prop},(if Region.wanted o (yielded ops a.tmps)then o.wpIn (Wd rn) 0 P a w N Q else N (a.put o.dst undef) w)→(∀a' w',N a' w'→wpAnyIn (Wd rn) 0 P .any ops Q fuel (listed.setIfInBounds i true) a' w')→wpOpIn (Wd rn) 0 P ops Q i (wpAnyIn (Wd rn) 0 P .any ops Q fuel (listed.setIfInBounds i true)) a w:=by
   intro N hw fin
   unfold wpOpIn
   simp only[ho]
   split
   ·rename_i hwt
    rw[if_pos hwt]at hw
    exact Oper.wpIn_mono (fun a' w' h=>fin a' w' h) hw
   ·rename_i hwt
    rw[if_neg hwt]at hw
    exact⟨fun _ _=>trivial,fin _ _ hw⟩
  have behind:A.length≤i→wpOpIn (Wd rn) 0 P ops Q i (wpAnyIn (Wd rn) 0 P .any ops Q fuel (listed.setIfInBounds i true)) a w:=by
   intro hiA
   have hbef:∀j,j<i→listed.getD j false=true:=fun j hj=>(hx.tail i hiA hlt j hj).done (Y:=fun k=>listed.getD k false=true) hc (fun o' ho' k hk'=>by rw[hol]at ho';simp only[B0]at ho';subst ho';exact hready k hk')
   obtain⟨j,s,ρ,hj1,hj2,hl,hρ,hφ,hf,hh,hn⟩:=two listed a w (fun k hk'=>hbef k (by omega)) hI
   have hji:j=i:=by
    rcases Nat.lt_trichotomy j i with h|h|h
    ·have:=(hl j (by omega)).1 (hbef j h);omega
    ·exact h
    ·have:=(hl i hlt).2 h
     rw[h1']at this
     cases this
   subst hji
   have hdrop:ops.toList.drop j=o::ops.toList.drop (j+1):=by
    have hjl:j<ops.toList.length:=by simpa using hlt
    rw[List.drop_eq_getElem_cons hjl]
    congr 1
    have:=(List.getElem?_eq_some_iff.1 hol).2
    exact this
   rw[hdrop]at hφ
   have hw:=eF (rn:=rn) hf0 hq hG hci hφ hf hh hn (Q:=Q)
   refine wr hw (fun a' w' ⟨s',ρ',h1,h2,h3,h4,h5⟩=>go a' w' (.inr ⟨j+1,s',ρ',by omega,by omega,fun k hk'=>?_,hρ.trans h2,h1,h3,h4,h5⟩))
   rw[hset,hl k hk']
   omega
  rcases Nat.lt_or_ge i A.length with hiA|hiA
  ·rcases hI with⟨s,ρ,hl,hρ,ha,hf,hh,hn⟩|⟨j,s,ρ,hj1,hj2,hl,_⟩
   ·have hoA:=hgetA hiA hol
    have hcA:∀(k:Nat) (p:Oper),A[k]?=some p→listed.getD k false=true→∀j,aW p j=true→listed.getD j false=true:=by
     intro k p hkp
     refine hc k p ?_
     rw[hx.eq,List.getElem?_append_left (List.getElem?_eq_some_iff.1 hkp).1]
     exact hkp
    have hsees:∀t x v,o.op= .load t x→o.guard=none→rd s.tm [] x=some v→vW s.hp v:=by
     intro t x v _ _ hv
     have hcv:=aj hf (rfl:ai s.tm []=true) hv
     cases v with
     |ptr k q=>
      obtain⟨l,hl,_⟩:=bF.1 hcv
      show k<s.hp.length
      rw[←hh.len]
      exact(List.getElem?_eq_some_iff.1 hl).1
     |pel k i wd q=>
      obtain⟨l,hl,hnl,_⟩:=cm.1 hcv
      have hkl:k<s.hp.length:=by rw[←hh.len];exact(List.getElem?_eq_some_iff.1 hl).1
      refine⟨hkl,?_⟩
      obtain⟨l2,hl2,_⟩:=cG hh hl hnl
      rw[←hh.len]
      exact(List.getElem?_eq_some_iff.1 hl2).1
     |_=>trivial
    obtain⟨s',hst,ha'⟩:=ha.next hrA hk hwk had hnp h0 hoA (by rw[h1'];simp) hready hcA hsees
    have hst':fb cfgF ops.toList hasG o s=some s':=by
     rw[←hst,bI,bI,hx.eq,nn hk hoA]
    have hw:=kG (rn:=rn) (P:=P) (cfg:=cfgF) (w0:=w0) hqF hG hst' hf hh hn (Q:=Q)
    refine wr hw (fun a' w' ⟨ρ',h1,h2,h3,h4⟩=>go a' w' (.inl ⟨s',ρ',fun k hk'=>?_,hρ.trans h1,by rw[efun];exact ha',h2,h3,h4⟩))
    rw[Bool.eq_false_iff]
    intro h
    rcases(hset k).1 h with h|h
    ·rw[hl k hk']at h;cases h
    ·omega
   ·exact absurd ((hl i hlt).2 (by omega)) (by rw[h1'];simp)
  ·exact behind hiA
theorem wD (hm:P.follows .mixedOrders=true) (hf0:¬φ fail) (hq:EOk P G cfg) (hG:G w0.w) {ci:bo (X:=X) (R:=R)} (hci:hD P w0 φ ci) {id t:Nat} {ops:Array Oper} {s:St (X:=X)} {K:St (X:=X)→R} {ρ:List Loc} {a:Act} {w:World} {rn:Option Nat}
  (hk:vh ops.toList s t=true) (h:φ (eN cfg fail ci ops.toList t s K)) (hf:FR ρ s.tm a) (hr:HR w0 ρ s.hp w) (hn:Px.ae s.tm):(Code.region id ops true).wpIn (Wd rn) 0 P (bw (Next w0 φ ρ false K)) a w:=by
 have hq':EOk P G {cfg with apn:=false}:={toQOk:={hq.toQOk with},makes:=hq.makes,writes:=hq.writes}
 have had:lZ {cfg with apn:=false}:=fun n con hc=>(hq.makes n con hc).2.2
 unfold vh at hk
 simp only[B1,List.all_eq_true]at hk
 obtain⟨hkA,hrest⟩:=hk
 have heq:ops.toList=ops.toList.take t++ops.toList.drop t:=(List.take_append_drop t _).symm
 have hone:∀(i:Nat) (o:Oper),ops.toList[i]?=some o→_:=fun i o ho=>hrest (i,o) (by have:=cE ops.toList 0 i o ho;simpa using this)
 have hx:yB ops (ops.toList.take t) (ops.toList.drop t):=by
  refine⟨heq,fun i o j ho he=>?_,fun k hk1 hk2 j hj=>?_⟩
  ·simp only[aW,List.any_eq_true,B1]at he
   obtain⟨e,h1,h2,h3⟩:=he
   have:=(hone i o ho).1 e h1
   simp only[h2,Bool.not_true,Bool.false_or,Nat.blt_eq]at this
   rw[←B2 h3]
   exact this
  ·have ho:ops.toList[k]?=some ops[k]:=by simp[hk2]
   have:=(hone k _ ho).2
   rw[Bool.or_eq_true]at this
   rcases this with h|h
   ·have hkt:k<t:=by simpa using h
    rw[List.length_take]at hk1
    simp at hk1
    omega
   ·rw[List.all_eq_true]at h
    exact fU (h j (by simpa using hj))
 rw[rf]at h
 unfold jW at h
 rw[cT,cN]at h
 refine wpIn_region_any hm ?_
 have none:∀k,¬(Array.replicate ops.size false).getD k false=true:=by
  intro k hy
  rw[Array.getD_eq_getD_getElem?]at hy
  by_cases hk:k<ops.size
  ·simp[hk]at hy
  ·simp[hk]at hy
 have nonef:∀k,(Array.replicate ops.size false).getD k false=false:=fun k=>by
  cases hc:(Array.replicate ops.size false).getD k false with
  |false=>rfl
  |true=>exact absurd hc (none k)
 have e:(fun k=>(Array.replicate ops.size false).getD k false=true)=(fun _=>False):=by
  funext k
  exact propext ⟨fun h=>none k h,fun h=>h.elim⟩
 have hun:unl ops.size (Array.replicate ops.size false)≤ops.size:=by
  unfold unl
  exact Nat.le_trans (List.length_filter_le _ _) (by simp)
 obtain⟨S,hS0,hS,hK⟩:=lM (cfg:={cfg with apn:=false}) hf0 (ops.toList.take t) h
 have hrun:ca {cfg with apn:=false} (ops.toList.take t) (aR ops.toList) s S:=⟨hS0,hS⟩
 have key:∃wk,GK wk (ops.toList.take t) s∧(wk=true→∀j,j≤(ops.toList.take t).length→(S j).hp=s.hp)∧φ (cn cfg fail ci ops.toList (aR ops.toList) (ops.toList.drop t) (S (ops.toList.take t).length) fun s'=>match aR ops.toList with
   |true=>K {s' with tm:=bN s'.tm}
   |false=>K s'):=by
  rw[cT,Bool.or_eq_true]at hkA
  cases hkf:kV false (ops.toList.take t) s (reach (ops.toList.take t))with
  |true=>
   rw[hkf]at hK
   exact⟨false,GK.of hkf,(fun e=>by cases e),hK⟩
  |false=>
   rw[hkf,Bool.false_or]at hK
   have hgk:GK true (ops.toList.take t) s:=GK.of (hkA.resolve_left (by rw[hkf];simp))
   cases hlen:Nat.beq (S (ops.toList.take t).length).hp.length s.hp.length with
   |false=>rw[hlen]at hK;exact absurd hK hf0
   |true=>
    rw[hlen,B4]at hK
    have hlen':=B2 hlen
    refine⟨true,hgk,fun _ j hj=>?_,hK⟩
    have p1:=hrun.grow hgk had rfl j hj
    have p2:=hrun.vD hgk had rfl j (ops.toList.take t).length hj (Nat.le_refl _)
    have l1:=p1.length_le
    have l2:=p2.length_le
    exact(p1.eq_of_length (by omega)).symm
 obtain⟨wk,hgk,hwk,hK⟩:=key
 refine ta (cfg:=cfg) (ci:=ci) (cfgF:={cfg with apn:=false}) hf0 hq hG hci hq' hx hrun hgk hwk had rfl hn (ρ0:=ρ) hK ?_ ops.size _ a _ (by simp) hun (.inl ⟨s,ρ,fun k _=>nonef k,List.prefix_refl _,?_,hf,fA hr,fun _=>hn⟩) (fun k p _ hy=>absurd hy (none k))
 ·intro s' ρ' a' w' h1 h2 h3 h4 h5
  cases hg:aR ops.toList with
  |true=>
   rw[hg]at h1
   exact⟨{tm:=bN s'.tm,hp:=s'.hp},ρ',h1,h2,h3.clear,h4,fun _=>bR _⟩
  |false=>
   rw[hg]at h1
   exact⟨s',ρ',h1,h2,h3,h4,fun _=>h5 hg⟩
 ·rw[e]
  exact AtG.start hrun
end
end Go.Proofs.Ytdadgkgkdgnihaa.Px


namespace Go.Proofs.Ytdadgkgkdgnihaa.Px
open Go Go.RowKit
section
variable {P:Program} {ops:Array Oper} {Q:Exit→Act→World→Prop} {S:World→Prop} {rn:Option Nat}
theorem AL {s:Sem Value} {w w':World} {n:Go.Next} (h:(do pure (Go.Next.value (←s)):Sem Go.Next).run P w= .ok n w'):∃x,n= .value x:=by
 rw[Sem.run_bind]at h
 cases hs:s.run P w with
 |ok x w1=>rw[hs]at h;simp only[Result.andThen_ok,Sem.run_pure]at h;injection h with h1 h2;exact⟨x,h1.symm⟩
 |halt x w1=>rw[hs]at h;cases h
theorem we {o:Oper} (h:qop o.op=true) {ρ:Operand→Value} {w w':World} {n:Go.Next} (hr:(execOp ρ o).run P w= .ok n w'):∃x,n= .value x:=by
 obtain⟨dst,op,ty,pos,after,guard⟩:=o
 cases op<;>simp only[qop]at h<;>first|(cases h;done)|(simp only[execOp]at hr;exact AL hr)|skip
 all_goals
  simp only[execOp,Sem.run_pure]at hr
  injection hr with h1 h2
  exact⟨_,h1.symm⟩
theorem oW {o:Oper} {d:Nat} (h:vk ops.toList o d=false):d∉o.looksAt ops:=by
 unfold vk at h
 rw[Bool.or_eq_false_iff]at h
 obtain⟨h1,h2⟩:=h
 intro hd
 unfold Oper.looksAt at hd
 rcases List.mem_append.1 hd with hd|hd
 ·obtain⟨x,hx,hxd⟩:=List.mem_filterMap.1 hd
  cases x with
  |tmp t=>
   simp only[B0]at hxd
   subst hxd
   unfold a6 at h1
   rw[List.any_eq_false]at h1
   exact h1 _ hx (by simp)
  |_=>cases hxd
 ·cases hg:o.guard with
  |none=>rw[hg]at hd;cases hd
  |some gw=>
   obtain⟨g,pol⟩:=gw
   rw[hg]at hd h2
   simp only[ak]at hd h2
   cases ho:ops[g]? with
   |none=>rw[ho]at hd;simp at hd
   |some og=>
    have ho':ops.toList[g]?=some og:=by simpa using ho
    rw[ho]at hd
    rw[ho']at h2
    simp only[Option.bind_some,Option.mem_toList]at hd
    unfold fw at h2
    have hd':og.dst=some d:=hd
    simp[hd']at h2
theorem ye {x y:Oper} (h:apX ops.toList x y=true):
  (∀d,x.dst=some d→d∉y.looksAt ops)∧(∀d,x.dst=some d→y.dst≠some d)∧(∀d,y.dst=some d→d∉x.looksAt ops):=by
 unfold apX at h
 rw[B1]at h
 obtain⟨h1,h2⟩:=h
 refine⟨fun d hd=>?_,fun d hd e=>?_,fun d hd=>?_⟩
 ·rw[hd]at h1
  simp only[B1,Bool.not_eq_true']at h1
  exact oW h1.1
 ·rw[hd]at h1
  simp only[B1,Bool.not_eq_true']at h1
  have:=h1.2
  unfold fw at this
  rw[e]at this
  simp at this
 ·rw[hd]at h2
  simp only[Bool.not_eq_true']at h2
  exact oW h2
theorem pw {i:Nat} {o:Oper} {v:Value} {a:Act} (hi:ops[i]?=some o) (hnd:∀c,o.op≠ .defer c) (hy:YieldsIf P ops S o v a)
  {K:Act→World→Prop} {w:World} (hS:S w) (h:K (a.put o.dst v) w):wpOpIn (Wd rn) 0 P ops Q i K a w:=by
 unfold wpOpIn
 simp only[hi]
 rcases hy with⟨hw,hv⟩|⟨hw,rfl⟩
 ·simp only[hw,if_true,Oper.wpIn,Oper.semAt_eq _ _ _ hnd,hv w hS,Oper.uponIn];exact⟨fun f _=>trivial,h⟩
 ·simp only[hw,Bool.false_eq_true,if_false];exact⟨fun f _=>trivial,h⟩
theorem sE {j:Nat} {oi oj:Oper} {v:Value} (hj:ops[j]?=some oj) (hap:apX ops.toList oi oj=true)
  (hsi:∀cs b,oi.op≠ .select cs b) (hsj:∀cs b,oj.op≠ .select cs b) (hdj:∀c,oj.op≠ .defer c)
  (hQ:∀c a w,Q (.panic c) (a.put oi.dst v) w→Q (.panic c) a w) {K:Act→World→Prop} {a:Act} {w:World}
  (hy:YieldsIf P ops S oi v a) (h:wpOpIn (Wd rn) 0 P ops Q j K (a.put oi.dst v) w):
  wpOpIn (Wd rn) 0 P ops Q j (fun a' w'=>YieldsIf P ops S oi v a'∧K (a'.put oi.dst v) w') a w:=by
 obtain⟨h1,h2,h3⟩:=ye hap
 have keep:∀(a:Act),YieldsIf P ops S oi v a→∀u,YieldsIf P ops S oi v (a.put oj.dst u):=fun a hy u=>
  hy.of_same (execOp_put oi hsi a oj.dst u h3) (wanted_put oi a oj.dst u h3)
 unfold wpOpIn at*
 simp only[hj]at*
 rw[wanted_put oj a oi.dst v h1,about_put oj w a oi.dst v h1]at h
 split
 ·rename_i hw
  simp only[hw,if_true]at h
  unfold Oper.wpIn at*
  rw[about_put oj w a oi.dst v h1]at h
  refine⟨h.1,?_⟩
  have h:=h.2
  rw[Oper.semAt_eq _ _ _ hdj,execOp_put oj hsj a oi.dst v h1]at h
  rw[Oper.semAt_eq _ _ _ hdj]
  generalize (execOp a.eval oj).run P w=r at*
  cases r with
  |ok x w'=>
   cases x<;>simp only[Oper.uponIn]at h⊢
   case value u=>exact⟨keep a hy u,by rw[←Act.put_comm a v u h2];exact h⟩
   case skip=>exact⟨keep a hy _,by rw[←Act.put_comm a v undef h2];exact h⟩
   case defer d=>
    refine⟨YieldsIf.of_same (keep a hy _) (by cases hd:oj.dst<;>rfl) (by cases hd:oj.dst<;>rfl),?_⟩
    rw[←Act.put_comm _ v undef h2,←Act.put_defers]
    exact h
   case enter f args=>
    refine⟨h.1,CallsIn.mono h.2 fun e w'' he=>?_⟩
    cases e with
    |returned u=>exact⟨keep a hy u,by rw[←Act.put_comm a v u h2];exact he⟩
    |panicked c=>exact hQ _ _ _ he
    |outgrown=>exact he
   case row row args=>exact⟨h.1,RowsIn.mono h.2 fun u w'' he=>⟨keep a hy u,by rw[←Act.put_comm a v u h2];exact he⟩⟩
   case round l f tmps assign body=>
    refine⟨h.1,RoundIn.mono h.2 fun e w'' he=>?_⟩
    cases e with
    |returned u=>exact⟨keep a hy u,by rw[←Act.put_comm a v u h2];exact he⟩
    |panicked c=>exact hQ _ _ _ he
    |outgrown=>exact he
  |halt x w'=>
   cases x<;>simp only[Oper.uponIn]at h⊢
   case panic u=>exact hQ _ _ _ h
 ·rename_i hw
  simp only[hw]at h
  exact⟨h.1,keep a hy _,by rw[←Act.put_comm a v undef h2];exact h.2⟩
def wpAnyS (rn:Option Nat) (P:Program) (ops:Array Oper) (Q:Exit→Act→World→Prop) (S:World→Prop):Nat→Array Bool→Act→World→Prop
 |0,listed,a,w=>Region.ready .any ops listed=[]∧Q .normal a w
 |fuel+1,listed,a,w=>
  (Region.ready .any ops listed=[]→Q .normal a w)∧
  ∀i∈Region.ready .any ops listed,wpOpIn (Wd rn) 0 P ops Q i (fun a' w'=>S w'∧wpAnyS rn P ops Q S fuel (listed.setIfInBounds i true) a' w') a w
theorem oe:∀(fuel:Nat) (listed:Array Bool) (a:Act) (w:World),wpAnyS rn P ops Q S fuel listed a w→wpAnyIn (Wd rn) 0 P .any ops Q fuel listed a w
 |0,_,_,_,h=>h
 |fuel+1,_,_,_,h=>⟨h.1,fun i hi=>wpOpIn_mono (fun a' w' h'=>oe fuel _ a' w' h'.2) (h.2 i hi)⟩
theorem mJ {S':World→Prop} (hS:∀w,S' w→S w):∀(fuel:Nat) (listed:Array Bool) (a:Act) (w:World),wpAnyS rn P ops Q S' fuel listed a w→wpAnyS rn P ops Q S fuel listed a w
 |0,_,_,_,h=>h
 |fuel+1,_,_,_,h=>⟨h.1,fun i hi=>wpOpIn_mono (fun a' w' h'=>⟨hS _ h'.1,mJ hS fuel _ a' w' h'.2⟩) (h.2 i hi)⟩
theorem wpAnyS_first {i:Nat} {oi:Oper} {v:Value} (hi:ops[i]?=some oi) (hdi:∀c,oi.op≠ .defer c) (hsel:∀(j:Nat) (o:Oper) cs b,ops[j]?=some o→o.op≠ .select cs b) (hdf:∀(j:Nat) (o:Oper) c,ops[j]?=some o→o.op≠ .defer c)
  (hQ:∀c a w,Q (.panic c) (a.put oi.dst v) w→Q (.panic c) a w):
  ∀(fuel:Nat) (listed:Array Bool) (a:Act) (w:World),
   (∀j oj,ops[j]?=some oj→j≠i→listed.getD j true=false→(∀e∈oj.after,Region.binds .any e=true→e.on≠i)→apX ops.toList oi oj=true)→
   i∈Region.ready .any ops listed→YieldsIf P ops S oi v a→S w→
   wpAnyS rn P ops Q S fuel (listed.setIfInBounds i true) (a.put oi.dst v) w→wpAnyS rn P ops Q S (fuel+1) listed a w:=by
 intro fuel
 induction fuel with
 |zero=>
  intro listed a w _ hr hy hS H
  refine⟨fun h=>(by rw[h]at hr;cases hr),fun j hj=>?_⟩
  by_cases hji:j=i
  ·subst hji;exact pw hi hdi hy hS ⟨hS,H⟩
  ·have:=ready_mono hj hji
   rw[H.1]at this
   cases this
 |succ fuel ih=>
  intro listed a w hfree hr hy hS H
  refine⟨fun h=>(by rw[h]at hr;cases hr),fun j hj=>?_⟩
  by_cases hji:j=i
  ·subst hji;exact pw hi hdi hy hS ⟨hS,H⟩
  ·have h1:=H.2 j (ready_mono hj hji)
   obtain⟨hjun,oj,hoj,bc⟩:=mem_ready.1 hj
   have hnot:∀e∈oj.after,Region.binds .any e=true→e.on≠i:=fun e he hb heq=>by
    have h1:=bc e he hb
    have h0:=(mem_ready.1 hr).1
    rw[heq]at h1
    rcases Nat.lt_or_ge i listed.size with h'|h'
    ·simp[h']at h0 h1;rw[h0]at h1;cases h1
    ·simp[Array.getElem?_eq_none h']at h1
   have h2:=sE hoj (hfree j oj hoj hji hjun hnot) (fun cs b=>hsel i oi cs b hi) (fun cs b=>hsel j oj cs b hoj) (fun c=>hdf j oj c hoj) hQ hy h1
   have hfree':∀k ok,ops[k]?=some ok→k≠i→(listed.setIfInBounds j true).getD k true=false→
     (∀e∈ok.after,Region.binds .any e=true→e.on≠i)→apX ops.toList oi ok=true:=fun k ok hk hki hun hno=>by
    refine hfree k ok hk hki ?_ hno
    by_cases hjk:j=k
    ·subst hjk;exact hjun
    ·rw[getD_set_ne true hjk]at hun;exact hun
   refine wpOpIn_mono (fun a' w' h3=>⟨h3.2.1,ih (listed.setIfInBounds j true) a' w' hfree' (ready_mono hr (Ne.symm hji)) h3.1 h3.2.1 ?_⟩) h2
   rw[Array.setIfInBounds_comm _ _ hji]
   exact h3.2.2
end
section
variable [X:aS] {P:Program} {G:World→Prop} {cfg:Cfg (X:=X)} {w0:aN} {R:Type} {fail:R} {φ:R→Prop}
theorem yU (b:Blk (X:=X)):A5 b=b.own:=by cases b<;>rfl
theorem jr:∀(l:List (Blk (X:=X))) (k:Nat),(dt l)[k]?=(l[k]?).map fun b=>cond b.own .dead b
 | [],k=>by simp[dt]
 |b::l,0=>by simp[dt,yU]
 |b::l,k+1=>by simp[dt,jr l k]
theorem lA:∀l:List (Blk (X:=X)),(dt l).length=l.length
 | []=>rfl
 |b::l=>by simp[dt,lA l]
theorem iD:∀(F:List (Nat×List AV)) (l:List (Blk (X:=X))),(fQ F l).length=l.length
 | [],l=>rfl
 |(k,cs)::F,l=>by simp[fQ,au,iD F l]
theorem kU:∀(F:List (Nat×List AV)) (l:List (Blk (X:=X))),(iP F l).length=l.length
 | [],l=>rfl
 |(k,cs)::F,l=>by simp[iP,au,kU F l]
theorem cU:∀(F:List (Nat×List AV)) (l:List (Blk (X:=X))) (k:Nat) (b:Blk (X:=X)),(fQ F l)[k]?=some b→(∃cs,(k,cs)∈F∧b= .raw cs)∨(l[k]?=some b∧∀cs,(k,cs)∉F)
 | [],l,k,b,h=> .inr ⟨h,fun cs hc=>by cases hc⟩
 |(j,cs)::F,l,k,b,h=>by
  simp only[fQ,au]at h
  by_cases e:j=k
  ·subst e
   rw[List.getElem?_set_self']at h
   cases hx:(fQ F l)[j]? with
   |none=>rw[hx]at h;cases h
   |some y=>
    rw[hx]at h
    have h:Blk.raw cs=b:=by simpa using h
    exact .inl ⟨cs,List.mem_cons_self,h.symm⟩
  ·rw[List.getElem?_set_ne e]at h
   rcases cU F l k b h with⟨cs',h1,h2⟩|⟨h1,h2⟩
   ·exact .inl ⟨cs',List.mem_cons_of_mem _ h1,h2⟩
   ·exact .inr ⟨h1,fun cs' hc=>by
     rcases List.mem_cons.1 hc with hc|hc
     ·exact e (congrArg Prod.fst hc).symm
     ·exact h2 cs' hc⟩
theorem dN:∀(F:List (Nat×List AV)) (l:List (Blk (X:=X))) (k:Nat) (b:Blk (X:=X)),(iP F l)[k]?=some b→b= .dead∨(l[k]?=some b∧∀cs,(k,cs)∉F)
 | [],l,k,b,h=> .inr ⟨h,fun cs hc=>by cases hc⟩
 |(j,cs)::F,l,k,b,h=>by
  simp only[iP,au]at h
  by_cases e:j=k
  ·subst e
   rw[List.getElem?_set_self']at h
   cases hx:(iP F l)[j]? with
   |none=>rw[hx]at h;cases h
   |some y=>
    rw[hx]at h
    have h:Blk.dead=b:=by simpa using h
    exact .inl h.symm
  ·rw[List.getElem?_set_ne e]at h
   rcases dN F l k b h with h1|⟨h1,h2⟩
   ·exact .inl h1
   ·exact .inr ⟨h1,fun cs' hc=>by
     rcases List.mem_cons.1 hc with hc|hc
     ·exact e (congrArg Prod.fst hc).symm
     ·exact h2 cs' hc⟩
structure j9 (w0:aN) (ρ0:List Loc) (F:List (Nat×List AV)) (q:List (Nat×Obj)):Prop where
 each:∀k cs,(k,cs)∈F→∃l ys t,ρ0[k]?=some l∧l.nil=false∧l.off=0∧w0.w.heap.size≤l.b∧ab ρ0 cs=some ys∧ys.all Value.oneCell'=true∧(l.b,Obj.cells ys.toArray t (0,0))∈q∧l.mark=false∧∀p∈w0.q,l.b≠p.1
 apart:∀k k' cs cs' l l',(k,cs)∈F→(k',cs')∈F→k≠k'→ρ0[k]?=some l→ρ0[k']?=some l'→l.b≠l'.b
def wide (w0:aN) (q:List (Nat×Obj)):aN:=⟨w0.w,w0.q++q⟩
theorem j9.start {ρ:List Loc} {hp:List (Blk (X:=X))} {w:World} (hr:HR w0 ρ hp w) {F:List (Nat×List AV)} (hF:∀k cs,(k,cs)∈F→hp[k]?=some (.raw cs)):
  ∃q,j9 w0 ρ F q∧HR (wide w0 q) ρ (iP F hp) w:=by
 have hloc:∀k cs,(k,cs)∈F→∃l ys t,ρ[k]?=some l∧l.nil=false∧l.off=0∧w0.w.heap.size≤l.b∧ab ρ cs=some ys∧ys.all Value.oneCell'=true∧w.heap[l.b]?=some (.cells ys.toArray t (0,0)):=by
  intro k cs hm
  have hk:=hF k cs hm
  have hlt:k<ρ.length:=by rw[hr.len];exact(List.getElem?_eq_some_iff.1 hk).1
  obtain⟨h1,h2,h3,ys,t,h4,h5,h6⟩:=hr.blk k _ _ hk (List.getElem?_eq_getElem hlt)
  exact⟨_,ys,t,List.getElem?_eq_getElem hlt,h1,h2,h3,h4,h5,h6⟩
 refine⟨F.filterMap fun x=>(ρ[x.1]?).bind fun l=>(w.heap[l.b]?).map fun o=>(l.b,o),⟨fun k cs hm=>?_,fun k k' cs cs' l l' h1 h2 hne hl hl'=>?_⟩,?_⟩
 ·obtain⟨l,ys,t,h1,h2,h3,h4,h5,h6,h7⟩:=hloc k cs hm
  refine⟨l,ys,t,h1,h2,h3,h4,h5,h6,List.mem_filterMap.2 ⟨(k,cs),hm,by simp[h1,h7]⟩,?_,fun p hp=>(hr.bz p hp).2 k _ l (hF k cs hm) h1 rfl h2⟩
  cases hmk:l.mark with
  |false=>rfl
  |true=>have:=hr.marks k _ l (hF k cs hm) h1 hmk;cases this
 ·obtain⟨l1,_,_,e1,e2,_⟩:=hloc k cs h1
  obtain⟨l2,_,_,f1,f2,_⟩:=hloc k' cs' h2
  rw[hl]at e1
  rw[hl']at f1
  simp only[B0]at e1 f1
  subst e1 f1
  exact hr.sep k k' _ _ l l' (hF k cs h1) (hF k' cs' h2) hl hl' hne rfl rfl e2 f2
 ·refine⟨by rw[kU];exact hr.len,hr.below,fun k b l hk hl=>?_,fun k b l hk hl hm=>?_,fun k k' b b' l l' hk hk' hl hl' hne ho ho' hn hn'=>?_,fun p hp=>?_⟩
  ·rcases dN F hp k b hk with rfl|⟨h1,_⟩
   ·trivial
   ·exact hr.blk k b l h1 hl
  ·rcases dN F hp k b hk with rfl|⟨h1,_⟩
   ·exfalso
    have hlt:k<hp.length:=by rw[←hr.len];exact(List.getElem?_eq_some_iff.1 hl).1
    have hkm:=hr.marks k _ l (List.getElem?_eq_getElem hlt) hl hm
    by_cases hex:∃cs,(k,cs)∈F
    ·obtain⟨cs,hc⟩:=hex
     have:=hF k cs hc
     rw[List.getElem?_eq_getElem hlt]at this
     simp only[B0]at this
     rw[this]at hkm
     cases hkm
    ·have:∀(F:List (Nat×List AV)),(∀cs,(k,cs)∉F)→(iP F hp)[k]?=hp[k]?:=by
      intro F
      induction F with
      |nil=>intro _;rfl
      |cons x F ih=>
       intro h
       obtain⟨j,cs⟩:=x
       simp only[iP,au]
       rw[List.getElem?_set_ne (fun e=>h cs (by subst e;exact List.mem_cons_self)),ih (fun cs hc=>h cs (List.mem_cons_of_mem _ hc))]
     rw[this F (fun cs hc=>hex ⟨cs,hc⟩),List.getElem?_eq_getElem hlt]at hk
     simp only[B0]at hk
     rw[hk]at hkm
     cases hkm
   ·exact hr.marks k b l h1 hl hm
  ·rcases dN F hp k b hk with rfl|⟨h1,_⟩
   ·cases ho
   ·rcases dN F hp k' b' hk' with rfl|⟨h2,_⟩
    ·cases ho'
    ·exact hr.sep k k' b b' l l' h1 h2 hl hl' hne ho ho' hn hn'
  ·rcases List.mem_append.1 hp with hp|hp
   ·obtain⟨h1,h2⟩:=hr.bz p hp
    refine⟨h1,fun k b l hk hl ho hn=>?_⟩
    rcases dN F _ k b hk with rfl|⟨h3,_⟩
    ·cases ho
    ·exact h2 k b l h3 hl ho hn
   ·obtain⟨⟨j,cs⟩,hm,he⟩:=List.mem_filterMap.1 hp
    obtain⟨l,ys,t,h1,h2,h3,h4,h5,h6,h7⟩:=hloc j cs hm
    simp only[h1,h7,Option.bind_some,Option.map_some,B0]at he
    subst he
    refine⟨h7,fun k b l' hk hl' ho hn=>?_⟩
    rcases dN F _ k b hk with rfl|⟨h8,h9⟩
    ·cases ho
    ·have hne:k≠j:=fun e=>h9 cs (by subst e;exact hm)
     exact hr.sep k j b _ l' l h8 (hF j cs hm) hl' h1 hne ho rfl hn h2
theorem HR.quiet {ρ0 ρ ρ':List Loc} {hp hp':List (Blk (X:=X))} {w w':World} {F:List (Nat×List AV)} {q:List (Nat×Obj)} (hF:j9 w0 ρ0 F q) (h0:ρ0<+:ρ) (hr:HR (wide w0 q) ρ hp w) (hm:ba hp=true) (h1:ρ<+:ρ') (hr':HR (wide w0 q) ρ' hp' w'):HR w0 ρ (fQ F (dt hp)) w':=by
 have hnm:∀(k:Nat) (l:Loc),ρ[k]?=some l→l.mark=false:=by
  intro k l hl
  cases hmk:l.mark with
  |false=>rfl
  |true=>
   exfalso
   have hlt:k<hp.length:=by rw[←hr.len];exact(List.getElem?_eq_some_iff.1 hl).1
   have hb:=hr.marks k _ l (List.getElem?_eq_getElem hlt) hl hmk
   have:∀(hp:List (Blk (X:=X))),ba hp=true→∀b∈hp,b.eA=false:=by
    intro hp
    induction hp with
    |nil=>intro _ b hb;cases hb
    |cons x l ih=>
     intro h b hb
     rcases List.mem_cons.1 hb with rfl|hb
     ·cases b<;>first|rfl|(simp[ba]at h)
     ·refine ih ?_ b hb
      cases x<;>simp[ba]at h⊢ <;>exact h
   rw[this hp hm _ (List.getElem_mem hlt)]at hb
   cases hb
 have pre:∀{k:Nat} {l:Loc},ρ0[k]?=some l→ρ[k]?=some l:=by
  intro k l h
  obtain⟨t,rfl⟩:=h0
  rw[List.getElem?_append_left (List.getElem?_eq_some_iff.1 h).1]
  exact h
 have pend':∀p,p∈q→w'.heap[p.1]?=some p.2:=fun p hp=>(hr'.bz p (List.mem_append_right _ hp)).1
 refine⟨by rw[iD,lA];exact hr.len,hr'.below,fun k b l hk hl=>?_,fun k b l hk hl hmk=>?_,fun k k' b b' l l' hk hk' hl hl' hne ho ho' hn hn'=>?_,fun p hpq=>⟨(hr'.bz p (List.mem_append_left _ hpq)).1,fun k b l hk hl ho hn=>?_⟩⟩
 ·rcases cU F _ k b hk with⟨cs,hc,rfl⟩|⟨hk',_⟩
  ·obtain⟨l',ys,t,e1,e2,e3,e4,e5,e6,e7,e8,e9⟩:=hF.each k cs hc
   rw[pre e1]at hl
   simp only[B0]at hl
   subst hl
   exact⟨e2,e3,e4,ys,t,aB h0 _ _ e5,e6,pend' _ e7⟩
  ·rw[jr]at hk'
   cases hx:hp[k]? with
   |none=>rw[hx]at hk';cases hk'
   |some c=>
    rw[hx]at hk'
    simp only[Option.map_some,B0]at hk'
    have hb:=hr.blk k c l hx hl
    cases c with
    |dead=>subst hk';trivial
    |alias j f p=>subst hk';cases p<;>exact hb
    |vec t xs o=>
     cases o with
     |true=>subst hk';trivial
     |false=>subst hk';exact hb
    |raw cs=>subst hk';trivial
    |dfr=>subst hk';trivial
    |mark=>subst hk';trivial
    |rcd st id tm=>subst hk';trivial
    |iJ es=>subst hk';trivial
 ·rw[hnm k l hl]at hmk
  cases hmk
 ·have own1:∀{k:Nat} {b:Blk (X:=X)},(fQ F (dt hp))[k]?=some b→b.own=true→∃cs,(k,cs)∈F:=by
   intro k b hk ho
   rcases cU F _ k b hk with⟨cs,hc,_⟩|⟨hk',_⟩
   ·exact⟨cs,hc⟩
   ·exfalso
    rw[jr]at hk'
    cases hx:hp[k]? with
    |none=>rw[hx]at hk';cases hk'
    |some c=>
     rw[hx]at hk'
     simp only[Option.map_some,B0]at hk'
     cases hc:c.own with
     |true=>rw[hc]at hk';subst hk';cases ho
     |false=>rw[hc]at hk';subst hk';rw[B5,hc]at ho;cases ho
  obtain⟨cs,hc⟩:=own1 hk ho
  obtain⟨cs',hc'⟩:=own1 hk' ho'
  obtain⟨l1,_,_,e1,_⟩:=hF.each k cs hc
  obtain⟨l2,_,_,f1,_⟩:=hF.each k' cs' hc'
  have:=hF.apart k k' cs cs' l1 l2 hc hc' hne e1 f1
  rw[pre e1]at hl
  rw[pre f1]at hl'
  simp only[B0]at hl hl'
  subst hl hl'
  exact this
 ·rcases cU F _ k b hk with⟨cs,hc,_⟩|⟨hk',_⟩
  ·obtain⟨l1,_,_,e1,_,_,_,_,_,_,_,e9⟩:=hF.each k cs hc
   rw[pre e1]at hl
   simp only[B0]at hl
   subst hl
   exact e9 p hpq
  ·exfalso
   rw[jr]at hk'
   cases hx:hp[k]? with
   |none=>rw[hx]at hk';cases hk'
   |some c=>
    rw[hx]at hk'
    simp only[Option.map_some,B0]at hk'
    cases hc:c.own with
    |true=>rw[hc]at hk';subst hk';cases ho
    |false=>rw[hc]at hk';subst hk';rw[B5,hc]at ho;cases ho
theorem HR.AU {ρ0 ρ':List Loc} {hp':List (Blk (X:=X))} {w':World} {F:List (Nat×List AV)} {q:List (Nat×Obj)} (hF:j9 w0 ρ0 F q) (h0:ρ0<+:ρ') (hr':HR (wide w0 q) ρ' hp' w'):HR w0 ρ' (fQ F hp') w':=by
 have pre:∀{k:Nat} {l:Loc},ρ0[k]?=some l→ρ'[k]?=some l:=by
  intro k l h
  obtain⟨t,rfl⟩:=h0
  rw[List.getElem?_append_left (List.getElem?_eq_some_iff.1 h).1]
  exact h
 have pend':∀p,p∈q→w'.heap[p.1]?=some p.2∧_:=fun p hp=>hr'.bz p (List.mem_append_right _ hp)
 refine⟨by rw[iD];exact hr'.len,hr'.below,fun k b l hk hl=>?_,fun k b l hk hl hmk=>?_,fun k k' b b' l l' hk hk' hl hl' hne ho ho' hn hn'=>?_,fun p hp=>⟨(hr'.bz p (List.mem_append_left _ hp)).1,fun k b l hk hl ho hn=>?_⟩⟩
 ·rcases cU F _ k b hk with⟨cs,hc,rfl⟩|⟨hk',_⟩
  ·obtain⟨l',ys,t,e1,e2,e3,e4,e5,e6,e7,e8,e9⟩:=hF.each k cs hc
   rw[pre e1]at hl
   simp only[B0]at hl
   subst hl
   exact⟨e2,e3,e4,ys,t,aB h0 _ _ e5,e6,(pend' _ e7).1⟩
  ·exact hr'.blk k b l hk' hl
 ·rcases cU F _ k b hk with⟨cs,hc,rfl⟩|⟨hk',_⟩
  ·obtain⟨l',ys,t,e1,e2,e3,e4,e5,e6,e7,e8,e9⟩:=hF.each k cs hc
   rw[pre e1]at hl
   simp only[B0]at hl
   subst hl
   rw[e8]at hmk
   cases hmk
  ·exact hr'.marks k b l hk' hl hmk
 ·rcases cU F _ k b hk with⟨cs,hc,rfl⟩|⟨h1,_⟩
  ·obtain⟨l1,_,_,e1,_,_,_,_,_,e7,_⟩:=hF.each k cs hc
   rcases cU F _ k' b' hk' with⟨cs',hc',rfl⟩|⟨h2,_⟩
   ·obtain⟨l2,_,_,f1,_⟩:=hF.each k' cs' hc'
    have:=hF.apart k k' cs cs' l1 l2 hc hc' hne e1 f1
    rw[pre e1]at hl
    rw[pre f1]at hl'
    simp only[B0]at hl hl'
    subst hl hl'
    exact this
   ·rw[pre e1]at hl
    simp only[B0]at hl
    subst hl
    exact fun e=>(pend' _ e7).2 k' b' l' h2 hl' ho' hn' e.symm
  ·rcases cU F _ k' b' hk' with⟨cs',hc',rfl⟩|⟨h2,_⟩
   ·obtain⟨l2,_,_,f1,_,_,_,_,_,f7,_⟩:=hF.each k' cs' hc'
    rw[pre f1]at hl'
    simp only[B0]at hl'
    subst hl'
    exact(pend' _ f7).2 k b l h1 hl ho hn
   ·exact hr'.sep k k' b b' l l' h1 h2 hl hl' hne ho ho' hn hn'
 ·rcases cU F _ k b hk with⟨cs,hc,rfl⟩|⟨h1,_⟩
  ·obtain⟨l1,_,_,e1,_,_,_,_,_,_,_,e9⟩:=hF.each k cs hc
   rw[pre e1]at hl
   simp only[B0]at hl
   subst hl
   exact e9 p hp
  ·exact(hr'.bz p (List.mem_append_left _ hp)).2 k b l h1 hl ho hn
end
end Go.Proofs.Ytdadgkgkdgnihaa.Px


namespace Go.Proofs.Ytdadgkgkdgnihaa.Px
open Go Go.RowKit
section
variable [X:aS] {P:Program} {G:World→Prop} {cfg:Cfg (X:=X)} {w0:aN} {R:Type} {fail:R} {φ:R→Prop} {ops:Array Oper}
omit X in
theorem nT {α:Type} {c:Bool} {x:α} {A B:List α} (h:x∈cond c A B):x∈A∨x∈B:=by
 cases c
 ·exact .inr h
 ·exact .inl h
theorem gB {ol:List Oper} {s:St (X:=X)}:∀(l:List Oper) (k:Nat) (cs:List AV),(k,cs)∈frz ol s l→s.hp[k]?=some (.raw cs)
 | [],k,cs,h=>by cases h
 |o::l,k,cs,h=>by
  unfold frz at h
  rcases nT h with h|h
  ·split at h
   ·rename_i j hj
    split at h
    ·rename_i cs' hb
     rcases nT h with h|h
     ·exact gB l k cs h
     ·rcases nT h with h|h
      ·exact gB l k cs h
      ·rcases List.mem_cons.1 h with h|h
       ·simp only[Prod.mk.injEq]at h
        obtain⟨rfl,rfl⟩:=h
        rw[ak]at hb
        exact hb
       ·exact gB l k cs h
    ·exact gB l k cs h
   ·exact gB l k cs h
  ·exact gB l k cs h
omit X in
theorem AP (d j k:Nat):Nat.testBit (Nat.lor d (Nat.shiftLeft 1 j)) k=(Nat.testBit d k||decide (j=k)):=by
 show Nat.testBit (d|||1<<<j) k=_
 rw[Nat.testBit_or,Nat.one_shiftLeft,Nat.testBit_two_pow]
omit X in
theorem oo {d:Nat}:∀(l:List Oper) (n i:Nat),i∈gC d n l↔∃j o,i=n+j∧l[j]?=some o∧Nat.testBit d i=false∧∀e∈o.after.toList,Region.binds .any e=true→Nat.testBit d e.on=true
 | [],n,i=>by simp[gC]
 |o::l,n,i=>by
  have ih:=oo (d:=d) l (n+1) i
  have step:(∃j o',i=n+j∧(o::l)[j]?=some o'∧Nat.testBit d i=false∧∀e∈o'.after.toList,Region.binds .any e=true→Nat.testBit d e.on=true)↔
    ((i=n∧Nat.testBit d i=false∧∀e∈o.after.toList,Region.binds .any e=true→Nat.testBit d e.on=true)∨∃j o',i=n+1+j∧l[j]?=some o'∧Nat.testBit d i=false∧∀e∈o'.after.toList,Region.binds .any e=true→Nat.testBit d e.on=true):=by
   constructor
   ·rintro ⟨j,o',h1,h2,h3⟩
    cases j with
    |zero=>simp only[List.getElem?_cons_zero,B0]at h2;subst h2;exact .inl ⟨by omega,h3⟩
    |succ j=>exact .inr ⟨j,o',by omega,by simpa using h2,h3⟩
   ·rintro (⟨h1,h2⟩|⟨j,o',h1,h2,h3⟩)
    ·exact⟨0,o,by omega,by simp,h2⟩
    ·exact⟨j+1,o',by omega,by simpa using h2,h3⟩
  rw[step,←ih]
  have key:((!Nat.testBit d n)&&(o.after.toList.all fun e=>(!Region.binds .any e)||Nat.testBit d e.on))=true↔(Nat.testBit d n=false∧∀e∈o.after.toList,Region.binds .any e=true→Nat.testBit d e.on=true):=by
   rw[B1,Bool.not_eq_true',List.all_eq_true]
   refine and_congr Iff.rfl ⟨fun h e he hb=>?_,fun h e he=>?_⟩
   ·have:=h e he
    rw[hb]at this
    simpa using this
   ·cases hb:Region.binds .any e with
    |false=>rfl
    |true=>rw[h e he hb];rfl
  have hu:gC d n (o::l)=cond ((!Nat.testBit d n)&&(o.after.toList.all fun e=>(!Region.binds .any e)||Nat.testBit d e.on)) (n::gC d (n+1) l) (gC d (n+1) l):=rfl
  rw[hu]
  generalize ((!Nat.testBit d n)&&(o.after.toList.all fun e=>(!Region.binds .any e)||Nat.testBit d e.on))=c at key
  cases c with
  |true=>
   have hk:=key.1 rfl
   rw[B4,List.mem_cons]
   constructor
   ·rintro (rfl|h)
    ·exact .inl ⟨rfl,hk⟩
    ·exact .inr h
   ·rintro (⟨h,_⟩|h)
    ·exact .inl h
    ·exact .inr h
  |false=>
   rw[B5]
   constructor
   ·exact .inr
   ·rintro (⟨rfl,h⟩|h)
    ·exact absurd (key.2 h) (by simp)
    ·exact h
omit X in
theorem wG {x y:R} (hf0:¬φ fail) (h:φ (meet fail x y)):φ x∧φ y:=by
 unfold meet at h
 split at h
 ·rename_i e;subst e;exact⟨h,h⟩
 ·exact absurd h hf0
noncomputable def dup (fail x:R):R:=meet fail x x
omit X in
theorem Av (x:R):dup fail x=x:=if_pos rfl
theorem zp {s:St (X:=X)} {o:Oper} {ol:List Oper} {k:St (X:=X)→R} (h:φ (Ad ol o s k)):φ (k s):=by
 unfold Ad at h
 split at h
 ·exact h
 ·split at h
  ·split at h
   ·rename_i tg _
    split at h
    ·rename_i b hb
     have e:cO s.tm tg (.is (.bool b))=s.tm:=by
      rw[au]
      rw[ak]at hb
      obtain⟨hlt,he⟩:=List.getElem?_eq_some_iff.1 hb
      rw[←he]
      exact List.set_getElem_self hlt
     cases b with
     |true=>
      rw[B4,b8,e]at h
      exact h
     |false=>
      rw[B5,b8,e]at h
      exact h
    ·exact h
   ·exact h
  ·exact h
omit X in
theorem mm (hf0:¬φ fail) {f:Nat→R}:∀{l:List Nat},φ (na fail f l)→∀i∈l,φ (f i)
 | [],h,_,_=>absurd h hf0
 | [j],h,i,hi=>by rw[List.mem_singleton.1 hi];exact h
 |j::k::l,h,i,hi=>by
  have h2:=wG (φ:=φ) hf0 (x:=f j) (y:=na fail f (k::l)) h
  rcases List.mem_cons.1 hi with rfl|hi
  ·exact h2.1
  ·exact mm hf0 h2.2 i hi
theorem ko {F:List (Nat×List AV)} {s:St (X:=X)} {j:Nat} {o:Oper} {cs:List (Nat×Bool)} {ok:Bool} {v:AV}:∀{l:List Nat},rB cfg ops.toList F s l=some (j,o,cs,ok,v)→j∈l∧ops[j]?=some o∧sF cfg ops.toList F o s=some (cs,ok,v)
 | [],h=>by cases h
 |i::l,h=>by
  unfold rB at h
  split at h
  ·rename_i o' ho
   split at h
   ·rename_i cs' ok' v' hp
    simp only[B0,Prod.mk.injEq]at h
    obtain⟨rfl,rfl,rfl,rfl,rfl⟩:=h
    rw[ak]at ho
    exact⟨List.mem_cons_self,by simpa using ho,hp⟩
   ·obtain⟨h1,h2⟩:=ko h
    exact⟨List.mem_cons_of_mem _ h1,h2⟩
  ·obtain⟨h1,h2⟩:=ko h
   exact⟨List.mem_cons_of_mem _ h1,h2⟩
omit X in
theorem tT {w:World} {x:Value} {o:Oper} {ev:Operand→Value} (hq:qop o.op=true) (h:dw P w x ((execOp ev o).run P w)):(execOp ev o).run P w= .ok (.value x) w:=by
 cases hr:(execOp ev o).run P w with
 |halt u w'=>rw[hr]at h;cases h
 |ok n w'=>
  obtain⟨y,rfl⟩:=we hq hr
  rw[hr]at h
  obtain⟨rfl,rfl⟩:=h
  rfl
theorem qp (hq:EOk P G cfg) (hG:G w0.w) {F:List (Nat×List AV)} {q:List (Nat×Obj)} {ρ0 ρ:List Loc} (hF:j9 w0 ρ0 F q) (h0:ρ0<+:ρ) {o:Oper} {s:St (X:=X)} {cs:List (Nat×Bool)} {ok:Bool} {v:AV} {a:Act} {w:World}
  (hp:sF cfg ops.toList F o s=some (cs,ok,v)) (hok:(ok|| !ai s.tm cs)=true) (hm:ba s.hp=true) (hf:FR ρ s.tm a) (hr:HR (wide w0 q) ρ s.hp w):
  ∃x,fN ρ s.tm (match o.guard with
    |none=> .is v
    |some _=> .opt cs v) x∧YieldsIf P ops (fun w'=>HR w0 ρ (fQ F (dt s.hp)) w') o x a:=by
 have hr':HR w0 ρ (fQ F (dt s.hp)) w:=hr.quiet hF h0 hm (List.prefix_refl _) hr
 unfold sF at hp
 cases hqo:qop o.op with
 |false=>rw[hqo]at hp;cases hp
 |true=>
  rw[hqo,B4]at hp
  have val:∀(cs':List (Nat×Bool)) (ok':Bool),ai s.tm cs'=true→af cfg (fQ F (dt s.hp)) s.tm cs' o.op=some (ok',v)→ok'=true→∃x,ah ρ v=some x∧∀w',HR w0 ρ (fQ F (dt s.hp)) w'→(execOp a.eval o).run P w'= .ok (.value x) w':=by
   intro cs' ok' hc hpo hok'
   obtain⟨x,hx,hres⟩:=bg hq.toQOk hG hf hc hr' hpo hok'
   refine⟨x,hx,fun w' hw'=>?_⟩
   obtain⟨y,hy,hres'⟩:=bg hq.toQOk hG hf hc hw' hpo hok'
   rw[hx]at hy
   simp only[B0]at hy
   subst hy
   exact tT hqo hres'
  cases hgd:o.guard with
  |none=>
   rw[hgd]at hp
   simp only at hp⊢
   cases hpo:af cfg (fQ F (dt s.hp)) s.tm [] o.op with
   |none=>rw[hpo]at hp;cases hp
   |some ov=>
    obtain⟨ok',v'⟩:=ov
    rw[hpo]at hp
    simp only[B0,Prod.mk.injEq]at hp
    obtain⟨rfl,rfl,rfl⟩:=hp
    have hok':ok'=true:=by simpa[ai]using hok
    obtain⟨x,hx,hv⟩:=val [] ok' rfl hpo hok'
    exact⟨x,hx, .inl ⟨by simp[Region.wanted,hgd],hv⟩⟩
  |some gw=>
   obtain⟨g,pol⟩:=gw
   rw[hgd]at hp
   simp only at hp⊢
   split at hp
   ·rename_i og hog
    split at hp
    ·rename_i tg htg
     split at hp
     ·rename_i ds b hb
      rw[ak]at hog
      have hog':ops[g]?=some og:=by simpa using hog
      have hwant:=mh hf hgd hog' htg hb
      cases hpo:af cfg (fQ F (dt s.hp)) s.tm (ds++[(tg,pol)]) o.op with
      |none=>rw[hpo]at hp;cases hp
      |some ov=>
       obtain⟨ok',v'⟩:=ov
       rw[hpo]at hp
       simp only[B0,Prod.mk.injEq]at hp
       obtain⟨rfl,rfl,rfl⟩:=hp
       cases hh:ai s.tm (ds++[(tg,pol)])with
       |true=>
        have hok':ok'=true:=by rw[hh]at hok;simpa using hok
        obtain⟨x,hx,hv⟩:=val _ ok' hh hpo hok'
        exact⟨x,⟨fun _=>hx,fun e=>(by rw[hh]at e;cases e)⟩, .inl ⟨by rw[hwant,hh],hv⟩⟩
       |false=>exact⟨undef,⟨fun e=>(by rw[hh]at e;cases e),fun _=>rfl⟩, .inr ⟨by rw[hwant,hh],rfl⟩⟩
     ·cases hp
    ·cases hp
   ·cases hp
structure XOk (ops:Array Oper):Prop where
 plain:∀(j:Nat) (o:Oper),ops[j]?=some o→xG o.op=true
 free:∀(i j:Nat) (o p:Oper),ops[i]?=some o→ops[j]?=some p→qop o.op=true→i≠j→aW o j=true∨aW p i=true∨apX ops.toList o p=true
omit X in
theorem XOk.of (h:pE ops.toList=true):XOk ops:=by
 unfold pE at h
 rw[List.all_eq_true]at h
 have one:∀(i:Nat) (o:Oper),ops[i]?=some o→_:=fun i o ho=>h (i,o) (by have:=cE ops.toList 0 i o (by simpa using ho);simpa using this)
 refine⟨fun j o ho=>?_,fun i j o p ho hp hqo hne=>?_⟩
 ·have:=one j o ho
  rw[B1]at this
  exact this.1
 ·have:=one i o ho
  rw[B1]at this
  have h2:=this.2
  simp only[hqo,B4,List.all_eq_true]at h2
  have h3:=h2 (j,p) (by have:=cE ops.toList 0 j p (by simpa using hp);simpa using this)
  simp only[Bool.or_eq_true]at h3
  rcases h3 with h3|h3
  ·exact absurd (B2 h3) hne
  ·exact h3
theorem vV (hf0:¬φ fail) (hq:EOk P G cfg) (hG:G w0.w) {ci:bo (X:=X) (R:=R)} (hci:hD P w0 φ ci) (hx:XOk ops) {F:List (Nat×List AV)} {q:List (Nat×Obj)} {ρ0:List Loc} (hF:j9 w0 ρ0 F q) {hasG:Bool} {K:St (X:=X)→R} {rn:Option Nat} {Q:Exit→Act→World→Prop}
  (hQ:∀s ρ' a' w',φ (K s)→ρ0<+:ρ'→FR ρ' s.tm a'→HR (wide w0 q) ρ' s.hp w'→(hasG=false→Px.ae s.tm)→Q .normal a' w') (hQp:∀c a w,¬Q (.panic c) a w):
  ∀(n fuel d:Nat) (listed:Array Bool) (s:St (X:=X)) (ρ:List Loc) (a:Act) (w:World) (S:World→Prop),(∀ρ' hp' w',ρ<+:ρ'→HR (wide w0 q) ρ' hp' w'→S w')→listed.size=ops.size→(∀k,listed.getD k false=Nat.testBit d k)→unl ops.size listed≤fuel→ρ0<+:ρ→
   φ (goX cfg fail ci ops.toList F hasG n d s K)→FR ρ s.tm a→HR (wide w0 q) ρ s.hp w→(hasG=false→Px.ae s.tm)→wpAnyS rn P ops Q S fuel listed a w:=by
 intro n
 induction n with
 |zero=>intro fuel d listed s ρ a w S _ _ _ _ _ h;exact absurd h hf0
 |succ n ih=>
  intro fuel d listed s ρ a w S hS hsz hbit hfuel h0 h hf hr hn
  have hready:∀i,i∈Region.ready .any ops listed↔i∈gC d 0 ops.toList:=by
   intro i
   rw[mem_ready,oo]
   constructor
   ·rintro ⟨h1,o,ho,h2⟩
    have hlt:i<ops.size:=(Array.getElem?_eq_some_iff.1 ho).1
    refine⟨i,o,by omega,by simpa using ho,?_,fun e he hb=>?_⟩
    ·rw[←hbit i]
     rw[Array.getD_eq_getD_getElem?,Array.getElem?_eq_getElem (by rw[hsz];exact hlt)]at h1⊢
     exact h1
    ·rw[←hbit]
     exact h2 e (by simpa using he) hb
   ·rintro ⟨j,o,h1,ho,h2,h3⟩
    have hij:j=i:=by omega
    subst hij
    have ho':ops[j]?=some o:=by simpa using ho
    have hlt:j<ops.size:=(Array.getElem?_eq_some_iff.1 ho').1
    refine⟨?_,o,ho',fun e he hb=>?_⟩
    ·rw[←hbit j]at h2
     rw[Array.getD_eq_getD_getElem?,Array.getElem?_eq_getElem (by rw[hsz];exact hlt)]at h2⊢
     exact h2
    ·rw[hbit]
     exact h3 e (by simpa using he) hb
  have hset:∀j,j<ops.size→∀k,(listed.setIfInBounds j true).getD k false=Nat.testBit (Nat.lor d (Nat.shiftLeft 1 j)) k:=by
   intro j hj k
   rw[AP,←hbit k]
   by_cases e:k=j
   ·subst e
    rw[Array.getD_eq_getD_getElem?,Array.getElem?_setIfInBounds_self_of_lt (by rw[hsz];exact hj)]
    simp
   ·rw[Array.getD_eq_getD_getElem?,Array.getElem?_setIfInBounds_ne (fun h=>e h.symm),←Array.getD_eq_getD_getElem?]
    have:decide (j=k)=false:=decide_eq_false fun h=>e h.symm
    rw[this,Bool.or_false]
  have hunl:∀j,j∈Region.ready .any ops listed→j<ops.size∧unl ops.size (listed.setIfInBounds j true)<unl ops.size listed:=by
   intro j hj
   obtain⟨h1,o,ho,_⟩:=mem_ready.1 hj
   have hlt:j<ops.size:=(Array.getElem?_eq_some_iff.1 ho).1
   refine⟨hlt,eG hsz hlt ?_⟩
   rw[Array.getD_eq_getD_getElem?,Array.getElem?_eq_getElem (by rw[hsz];exact hlt)]at h1⊢
   exact h1
  unfold goX at h
  split at h
  ·rename_i hrd
   have hnil:Region.ready .any ops listed=[]:=by
    rw[List.eq_nil_iff_forall_not_mem]
    intro i hi
    rw[hready,hrd]at hi
    cases hi
   have hq':=hQ s ρ a w h h0 hf hr hn
   cases fuel with
   |zero=>exact⟨hnil,hq'⟩
   |succ fuel=>exact⟨fun _=>hq',fun i hi=>(by rw[hnil]at hi;cases hi)⟩
  ·rename_i i0 l0 hrd
   have hne:i0∈Region.ready .any ops listed:=by rw[hready,hrd];exact List.mem_cons_self
   obtain⟨fuel,rfl⟩:∃f,fuel=f+1:=⟨fuel-1,by have:=(hunl i0 hne).2;omega⟩
   split at h
   ·rename_i j o cs ok v hfq
    obtain⟨hjl,ho,hpq⟩:=ko hfq
    have hjr:j∈Region.ready .any ops listed:=by rw[hready,hrd];exact hjl
    obtain⟨hlt,hun⟩:=hunl j hjr
    cases hc:and (ba s.hp) (or ok (not (ai s.tm cs)))with
    |false=>rw[hc]at h;exact absurd h hf0
    |true=>
     rw[hc,B4]at h
     simp only[B1]at hc
     obtain⟨x,hsl,hy⟩:=qp hq hG hF h0 hpq hc.2 hc.1 hf hr
     obtain⟨s',h1,h2,h3,h4⟩:=dq hf0 h hf hn hsl
     have hqo:qop o.op=true:=by
      unfold sF at hpq
      cases hqo:qop o.op with
      |true=>rfl
      |false=>rw[hqo]at hpq;cases hpq
     have nsel:∀(j:Nat) (o:Oper) cs b,ops[j]?=some o→o.op≠ .select cs b:=fun j o cs b hj e=>by have:=hx.plain j o hj;rw[e]at this;cases this
     have ndef:∀(j:Nat) (o:Oper) c,ops[j]?=some o→o.op≠ .defer c:=fun j o c hj e=>by have:=hx.plain j o hj;rw[e]at this;cases this
     have hS1:∀ρ' hp' w',ρ<+:ρ'→HR (wide w0 q) ρ' hp' w'→HR w0 ρ (fQ F (dt s.hp)) w':=fun ρ' hp' w' h1 h2=>hr.quiet hF h0 hc.1 h1 h2
     refine mJ (S':=fun w'=>S w'∧HR w0 ρ (fQ F (dt s.hp)) w') (fun _ h=>h.1) _ _ _ _ ?_
     refine wpAnyS_first ho (fun c=>ndef j o c ho) nsel ndef (fun c a w h=>absurd h (hQp c _ w)) fuel listed a w (fun k ok' hk hkj hun' hno=>?_) hjr (hy.imp (fun⟨e1,e2⟩=>⟨e1,fun w' hw'=>e2 w' hw'.2⟩) id) ⟨hS ρ s.hp w (List.prefix_refl _) hr,hS1 ρ s.hp w (List.prefix_refl _) hr⟩ ?_
     ·rcases hx.free j k o ok' ho hk hqo (fun e=>hkj e.symm)with h|h|h
      ·exfalso
       obtain⟨_,o2,ho2,h2'⟩:=mem_ready.1 hjr
       rw[ho]at ho2
       simp only[B0]at ho2
       subst ho2
       simp only[aW,List.any_eq_true,B1]at h
       obtain⟨e,he,hb,hek⟩:=h
       have h5:=h2' e (by simpa using he) hb
       rw[B2 hek]at h5
       have hklt:k<ops.size:=(Array.getElem?_eq_some_iff.1 hk).1
       rw[Array.getD_eq_getD_getElem?,Array.getElem?_eq_getElem (by rw[hsz];exact hklt)]at hun' h5
       rw[Option.getD_some]at hun' h5
       rw[h5]at hun'
       cases hun'
      ·exfalso
       simp only[aW,List.any_eq_true,B1]at h
       obtain⟨e,he,hb,hek⟩:=h
       exact hno e (by simpa using he) hb (B2 hek)
      ·exact h
     ·exact ih fuel _ _ s' ρ _ w _ (fun ρ' hp' w' h1 h2=>⟨hS ρ' hp' w' h1 h2,hS1 ρ' hp' w' h1 h2⟩) (by simpa using hsz) (hset j hlt) (by omega) h0 h1 h2 (by rw[h3];exact hr) h4
   ·have bc:=mm hf0 h
    refine⟨fun e=>(by rw[e]at hne;cases hne),fun i hi=>?_⟩
    have hil:i∈i0::l0:=by rw[←hrd,←hready];exact hi
    obtain⟨hlt,hun⟩:=hunl i hi
    have hi':=bc i hil
    rw[ak]at hi'
    have hoi:ops.toList[i]?=some ops[i]:=by simp[hlt]
    rw[hoi]at hi'
    have hi':=zp hi'
    have hw:=eF (rn:=rn) (w0:=wide w0 q) hf0 hq hG (ci:=ci) (fun w1 e=>hci w1 e) hi' hf hr hn (Q:=Q)
    unfold wpOpIn
    have ho:ops[i]?=some ops[i]:=by simp[hlt]
    simp only[ho]
    split
    ·rename_i hwt
     rw[if_pos hwt]at hw
     exact Oper.wpIn_mono (fun a' w' ⟨s',ρ',h1,h2,h3,h4,h5⟩=>⟨hS ρ' s'.hp w' h2 h4,ih fuel _ _ s' ρ' a' w' S (fun ρ2 hp2 w2 e1 e2=>hS ρ2 hp2 w2 (h2.trans e1) e2) (by simpa using hsz) (hset i hlt) (by omega) (h0.trans h2) h1 h3 h4 h5⟩) hw
    ·rename_i hwt
     rw[if_neg hwt]at hw
     obtain⟨s',ρ',h1,h2,h3,h4,h5⟩:=hw
     exact⟨fun _ _=>trivial,hS ρ' s'.hp w h2 h4,ih fuel _ _ s' ρ' _ w S (fun ρ2 hp2 w2 e1 e2=>hS ρ2 hp2 w2 (h2.trans e1) e2) (by simpa using hsz) (hset i hlt) (by omega) (h0.trans h2) h1 h3 h4 h5⟩
theorem Aj (hm:P.follows .mixedOrders=true) (hf0:¬φ fail) (hq:EOk P G cfg) (hG:G w0.w) {ci:bo (X:=X) (R:=R)} (hci:hD P w0 φ ci) {id:Nat} {s:St (X:=X)} {K:St (X:=X)→R} {ρ:List Loc} {a:Act} {w:World} {rn:Option Nat}
  (hk:pE ops.toList=true) (h:φ (ni cfg fail ci ops.toList s K)) (hf:FR ρ s.tm a) (hr:HR w0 ρ s.hp w) (hn:Px.ae s.tm):(Code.region id ops true).wpIn (Wd rn) 0 P (bw (Next w0 φ ρ false K)) a w:=by
 unfold ni at h
 rw[da]at h
 obtain⟨q,hF,hr'⟩:=j9.start hr (F:=frz ops.toList s ops.toList) (fun k cs hm=>gB _ k cs hm)
 refine wpIn_region_any hm (oe (S:=fun _=>True) _ _ _ _ ?_)
 refine vV (rn:=rn) (S:=fun _=>True) hf0 hq hG hci (XOk.of hk) hF ?_ (fun c a w h=>h) (ops.toList.length+1) ops.size 0 _ {tm:=s.tm,hp:=iP (frz ops.toList s ops.toList) s.hp} ρ a _ (fun _ _ _ _ _=>trivial) (by simp) (fun k=>?_) ?_ (List.prefix_refl _) h hf (fA hr') (fun _=>hn)
 ·intro s' ρ' a' w' h1 h2 h3 h4 h5
  cases hg:aR ops.toList with
  |true=>
   rw[hg]at h1
   simp only[dH,da]at h1
   exact⟨_,ρ',h1,h2,h3.clear,h4.AU hF h2,fun _=>bR _⟩
  |false=>
   rw[hg]at h1
   simp only[da]at h1
   exact⟨_,ρ',h1,h2,h3,h4.AU hF h2,fun _=>h5 hg⟩
 ·rw[Nat.zero_testBit,Array.getD_eq_getD_getElem?]
  by_cases hk:k<ops.size
  ·simp[hk]
  ·simp[hk]
 ·unfold unl
  exact Nat.le_trans (List.length_filter_le _ _) (by simp)
theorem dT (hm:P.follows .mixedOrders=true) (hf0:¬φ fail) (hq:EOk P G cfg) (hG:G w0.w):cC P w0 cfg fail φ:=by
 refine⟨fun rn id ops s K ρ a w hd h hf hr hn=>?_,fun rn id ops s K ρ a w hd h hf hr hn=>?_,fun ci hci rn id ops t s K ρ a w hd h hf hr hn=>wD hm hf0 hq hG hci hd h hf hr hn,fun ci hci rn id ops s K ρ a w hd h hf hr hn=>Aj hm hf0 hq hG hci hd h hf hr hn⟩
 ·unfold qf at hd
  cases hqk:jj ops.toList with
  |true=>exact uc hm hf0 hq.toQOk hG hqk h hf hr hn
  |false=>
   rw[hqk,B5]at hd
   exact tZ hm hf0 hq hG hd h hf hr hn
 ·have hq':EOk P G {cfg with apn:=false}:={toQOk:={hq.toQOk with},makes:=hq.makes,writes:=hq.writes}
  unfold rh at hd
  cases hk:u0 ops.toList s (reach ops.toList)with
  |true=>exact tG hm hf0 hq' rfl hG hk h hf hr hn
  |false=>
   rw[hk,Bool.false_or]at hd
   exact tf hm hf0 hq' rfl hG hd h hf hr hn
end
end Go.Proofs.Ytdadgkgkdgnihaa.Px
