/- Regions with guards, calls in one chain, and loads of what was there before: what is asked of them. -/
import Derived.Test.YtfhepbbkggdlcaaGreatDoorPxCore
set_option linter.unusedVariables false
set_option linter.unusedSimpArgs false
namespace Go.Proofs.YtfhepbbkggdlcaaGreatDoor.Px
open Go Go.RowKit
section
variable [X:bQ] {cfg:Cfg (X:=X)}
structure GK (wk:Bool) (ops:List Oper) (s:St (X:=X)):Prop where
 kind:∀(i:Nat) (o:Oper),ops[i]?=some o→cZ o.op=some 0∨cZ o.op=some 1∨cZ o.op=some 2
 back:∀(i:Nat) (o:Oper) (j:Nat),ops[i]?=some o→bM o j=true→j<i
 guard:∀(i:Nat) (o:Oper) (g:Nat) (pol:Bool),ops[i]?=some o→o.guard=some (g,pol)→Anc ops i g
 load:∀(i:Nat) (o:Oper) (t:TypeId) (x:Operand),ops[i]?=some o→o.op= .load t x→o.guard≠none→wk=true∨(∀(j:Nat) (p:Oper),ops[j]?=some p→dA p=true)∨∃tt k q,x= .tmp tt∧(∀(j:Nat) (p:Oper),ops[j]?=some p→p.dst≠some tt)∧s.tm[tt]?=some (.is (.ptr k q))∧k<s.hp.length
 slc:∀(i:Nat) (o:Oper) (t:TypeId) (x:Operand) (lo hi mx:Option Operand),ops[i]?=some o→o.op= .slice t x lo hi mx→wk=true
 look:∀(i j:Nat) (o p:Oper) (d:Nat),ops[i]?=some o→ops[j]?=some p→p.dst=some d→cL o d=true→Anc ops i j
 one:∀(i j:Nat) (o p:Oper) (d:Nat),ops[i]?=some o→ops[j]?=some p→i≠j→p.dst=some d→o.dst≠some d
 calls:∀(i j:Nat) (o p:Oper),ops[i]?=some o→ops[j]?=some p→fK o=true→fK p=true→j<i→Anc ops i j
theorem GK.of {wk:Bool} {ops:List Oper} {s:St (X:=X)} (h:AK wk ops s (reach ops)=true):GK wk ops s:=by
 simp only[AK,List.all_eq_true,XR]at h
 have h1:∀(i:Nat) (o:Oper),ops[i]?=some o→JZ wk ops s (reach ops) i o=true:=fun i o ho=>(h _ (by have:=fZ ops 0 i o ho;simpa using this)).1
 have h2:∀(i j:Nat) (o p:Oper),ops[i]?=some o→ops[j]?=some p→G9 (reach ops) i o j p=true:=fun i j o p ho hp=>
  (h _ (by have:=fZ ops 0 i o ho;simpa using this)).2 (j,p) (by have:=fZ ops 0 j p hp;simpa using this)
 refine⟨fun i o ho=>?_,fun i o j ho he=>?_,fun i o g pol ho hg=>?_,fun i o t x ho hl hng=>?_,fun i o t x lo hi mx ho hl=>?_,fun i j o p d ho hp hd hlk=>?_,fun i j o p d ho hp hne hd=>?_,fun i j o p ho hp ho2 hp2 hji=>?_⟩
 ·have:=h1 i o ho
  simp only[JZ,XR]at this
  have:=this.2.2
  split at this
  ·rename_i e;rw[e];simp[cZ,aJ]
  ·rename_i e;rw[e];simp[cZ]
  ·rename_i e _;exact .inl (by assumption)
  ·rename_i e _;exact .inr (.inr (by assumption))
  ·cases this
 ·have:=h1 i o ho
  simp only[JZ,XR,List.all_eq_true,Bool.or_eq_true,Bool.not_eq_true',Nat.blt_eq]at this
  simp only[bM,List.any_eq_true,XR]at he
  obtain⟨e,he1,he2,he3⟩:=he
  have:=this.1 e he1
  rw[he2]at this
  rcases this with h|h
  ·cases h
  ·rwa[XS he3]at h
 ·have:=h1 i o ho
  simp only[JZ,XR,hg]at this
  exact oe this.2.1
 ·have:=h1 i o ho
  simp only[JZ,XR]at this
  have:=this.2.2
  rw[hl]at this
  cases x with
  |tmp tt=>
   have hgd:ung o=false:=by
    unfold ung
    cases hg:o.guard with
    |none=>exact absurd hg hng
    |some _=>rfl
   cases wk with
   |true=>exact .inl rfl
   |false=>
   refine .inr ?_
   simp only[hgd,Bool.or_self,XV]at this
   simp only[Bool.or_eq_true,XR,Bool.not_eq_true',aG,List.all_eq_true]at this
   rcases this with this|this
   ·exact .inl fun j p hp=>this p (List.mem_of_getElem? hp)
   refine .inr ?_
   obtain⟨hw,hk⟩:=this
   split at hk
   ·rename_i k q hs
    refine⟨tt,k,q,rfl,fun j p hp e=>?_,hs,by simpa using hk⟩
    simp only[Mb,List.any_eq_false]at hw
    have:=hw p (List.mem_of_getElem? hp)
    rw[e]at this
    simp at this
   ·cases hk
  |_=>simp[cZ,aJ]at this
 ·have:=h1 i o ho
  simp only[JZ,XR]at this
  have:=this.2.2
  rw[hl]at this
  cases mx with
  |none=>exact this
  |some m=>simp[cZ,aJ]at this
 ·have:=h2 i j o p ho hp
  unfold G9 at this
  cases hij:Nat.beq i j with
  |true=>
   have:=XS hij
   subst this
   rw[ho]at hp
   simp only[XQ]at hp
   subst hp
   simp only[G9,hij,XU,hd,hlk]at*
   simp at this
  |false=>
   rw[hij,XV]at this
   simp only[hd,hlk,XU,XR]at this
   exact oe this.1.1
 ·have:=h2 i j o p ho hp
  unfold G9 at this
  have hij:Nat.beq i j=false:=by cases hb:Nat.beq i j with
   |true=>exact absurd (XS hb) hne
   |false=>rfl
  rw[hij,XV]at this
  simp only[hd,XR]at this
  have:=this.1.2
  intro e
  rw[e]at this
  simp at this
 ·have:=h2 i j o p ho hp
  unfold G9 at this
  have hij:Nat.beq i j=false:=by cases hb:Nat.beq i j with
   |true=>exact absurd (XS hb) (by omega)
   |false=>rfl
  rw[hij,XV]at this
  simp only[XR,ho2,hp2,Bool.true_and,show Nat.blt j i=true by simpa using hji,Bool.and_self,XU]at this
  exact oe this.2
end
end Go.Proofs.YtfhepbbkggdlcaaGreatDoor.Px


namespace Go.Proofs.YtfhepbbkggdlcaaGreatDoor.Px
open Go Go.RowKit
section
variable [X:bQ] {cfg:Cfg (X:=X)} {ops:List Oper} {hasG:Bool} {s0:St (X:=X)} {S:Nat→St (X:=X)}
theorem Le {o:Oper} {sl:Slot} {s s':St (X:=X)} (h:zG none hasG o sl s some=some s'):
  s'=fh s o.dst sl∧(∀d,o.dst=some d→(hasG=true→eC d (sl::s.tm)=true)∧(hasG=false→∀cs v,sl≠ .opt cs v)):=by
 unfold zG at h
 split at h
 ·rename_i hd
  simp only[XQ]at h
  exact⟨by rw[hd,←h];rfl,fun d e=>by rw[hd]at e;cases e⟩
 ·rename_i d hd
  split at h
  ·cases hn:eC d (sl::s.tm)with
   |false=>rw[hn]at h;cases h
   |true=>
    rw[hn,XU]at h
    simp only[XQ]at h
    refine⟨by rw[hd,←h];rfl,fun d' e=>?_⟩
    rw[hd]at e
    simp only[XQ]at e
    subst e
    exact⟨fun _=>hn,fun e=>by cases e⟩
  ·split at h
   ·cases h
   ·rename_i hv
    simp only[XQ]at h
    exact⟨by rw[hd,←h];rfl,fun d' e=>⟨(fun e=>by cases e),fun _ cs v e=>hv cs v e⟩⟩
theorem Mq {o:Oper} {sl:Slot} {s:St (X:=X)} (h:∀d,o.dst=some d→(hasG=true→eC d (sl::s.tm)=true)∧(hasG=false→∀cs v,sl≠ .opt cs v)):
  zG none hasG o sl s some=some (fh s o.dst sl):=by
 unfold zG fh
 split
 ·rename_i hd;rw[hd]
 ·rename_i d hd
  rw[hd]
  obtain⟨h1,h2⟩:=h d hd
  cases hasG with
  |true=>simp only[h1 rfl,XU]
  |false=>
   simp only
   split
   ·exact absurd rfl (h2 rfl _ _)
   ·rfl
def zt (cfg:Cfg (X:=X)):Prop:=∀n con,look cfg.H n=some con→∀args hp r,con args hp=some r→hp<+:r.hp
theorem yG (ha:zt cfg) (hn:cfg.apn=false) {cs:List (Nat×Bool)} {op:Op} {hp h:List (Blk (X:=X))} {tm:List Slot} {ok:Bool} {v:Option AV} (hk:cZ op=some 0∨cZ op=some 1∨cZ op=some 2)
  (he:a8 cfg hp tm cs op=some (ok,v,h)):hp<+:h:=by
 cases op<;>simp[cZ,aJ]at hk<;>try (simp only[a8]at he;cases he;done)
 case buildSlice t n ps=>
  cases n with
  |zero=>
   rw[DU]at he
   split at he
   ·split at he
    ·rename_i i _ _ _ el _
     cases hb:(and i.slice (Nat.beq i.esz (X.width el)))with
     |false=>rw[hb]at he;cases he
     |true=>
      rw[hb]at he
      simp only[XU,XQ,Prod.mk.injEq]at he
      obtain⟨_,_,rfl⟩:=he
      exact List.prefix_append _ _
    ·cases he
   ·cases he
  |succ n=>
   rw[DR]at he
   split at he
   ·rename_i vs i _ _
    cases hb:(and i.slice (and (and (Nat.beq i.zero.length i.esz) (Nat.ble 1 i.esz)) (and (Nat.ble 1 (n+1)) (Nat.ble ((n+1)*i.esz) 4096))))with
    |false=>rw[hb]at he;cases he
    |true=>
     rw[hb,XU]at he
     split at he
     ·simp only[XQ,Prod.mk.injEq]at he
      obtain⟨_,_,rfl⟩:=he
      exact List.prefix_append _ _
     ·cases he
   ·cases he
 case slice t x lo hi mx=>
  simp only[a8,hn,XV]at he
  cases he
 rename_i c
 simp only[a8]at he
 split at he
 ·split at he
  ·split at he
   ·split at he
    ·split at he
     ·simp[hn]at he
     ·cases he
    ·cases he
   ·cases he
  ·split at he
   ·split at he
    ·rename_i con fU
     simp only[Option.map_eq_some_iff,Prod.mk.injEq]at he
     obtain⟨r,hr,_,_,rfl⟩:=he
     exact ha _ _ fU _ _ _ hr
    ·rw[hn]at he;cases he
   ·cases he
  ·cases he
 ·cases he
theorem pC (ha:zt cfg) (hn:cfg.apn=false) {cs:List (Nat×Bool)} {op:Op} {hp h:List (Blk (X:=X))} {tm:List Slot} {sl:Slot} (hk:cZ op=some 0∨cZ op=some 1∨cZ op=some 2)
  (he:runCore cfg cs op hp tm=some (sl,h)):hp<+:h:=by
 unfold runCore at he
 split at he
 ·rename_i ok v hp'
  cases ok with
  |false=>cases he
  |true=>simp only[XU,XQ,Prod.mk.injEq]at he;rw[he.2];exact List.prefix_refl _
 ·split at he
  ·split at he
   ·simp only[XQ,Prod.mk.injEq]at he;rw[he.2];exact List.prefix_refl _
   ·split at he
    ·split at he
     ·rename_i ds g hb
      cases hds:ds.all (eg cs)with
      |false=>rw[hds]at he;cases he
      |true=>
       rw[hds,XU]at he
       split at he
       ·simp only[XQ,Prod.mk.injEq]at he;rw[he.2];exact List.prefix_refl _
       ·cases he
     ·cases he
    ·cases he
  ·split at he
   ·rename_i ok v h' he'
    cases ok with
    |false=>cases he
    |true=>simp only[XU,XQ,Prod.mk.injEq]at he;rw[←he.2];exact yG ha hn hk he'
   ·rename_i ok h' he'
    cases ok with
    |false=>cases he
    |true=>simp only[XU,XQ,Prod.mk.injEq]at he;rw[←he.2];exact yG ha hn hk he'
   ·cases he
theorem ES (ha:zt cfg) (hn:cfg.apn=false) {o:Oper} {cs:List (Nat×Bool)} {hp h:List (Blk (X:=X))} {tm:List Slot} {sl:Slot} (hk:cZ o.op=some 0∨cZ o.op=some 1∨cZ o.op=some 2)
  (he:core cfg o cs hp tm=some (sl,h)):hp<+:h:=by
 unfold core at he
 split at he
 ·exact pC ha hn hk he
 ·split at he
  ·rename_i ok v hp'
   cases hc:(or ok (not (aD tm cs)))with
   |false=>rw[hc]at he;cases he
   |true=>rw[hc,XU]at he;simp only[XQ,Prod.mk.injEq]at he;rw[he.2];exact List.prefix_refl _
  ·split at he
   ·split at he
    ·simp only[XQ,Prod.mk.injEq]at he;rw[he.2];exact List.prefix_refl _
    ·cases hc:aD tm cs with
     |true=>rw[hc,XU]at he;exact pC ha hn hk he
     |false=>rw[hc,XV]at he;simp only[XQ,Prod.mk.injEq]at he;rw[he.2];exact List.prefix_refl _
   ·cases hc:aD tm cs with
    |true=>rw[hc,XU]at he;exact pC ha hn hk he
    |false=>rw[hc,XV]at he;simp only[XQ,Prod.mk.injEq]at he;rw[he.2];exact List.prefix_refl _
end
end Go.Proofs.YtfhepbbkggdlcaaGreatDoor.Px


namespace Go.Proofs.YtfhepbbkggdlcaaGreatDoor.Px
open Go Go.RowKit
section
variable [X:bQ] {cfg:Cfg (X:=X)} {ops:List Oper} {hasG:Bool} {s0:St (X:=X)} {S:Nat→St (X:=X)}
omit X in
theorem Of {o:Oper} {tm tm':List Slot} (h:∀g pol og tg,o.guard=some (g,pol)→ops[g]?=some og→og.dst=some tg→tm'[tg]?=tm[tg]?):gcs ops o tm'=gcs ops o tm:=by
 unfold gcs
 cases hg:o.guard with
 |none=>rfl
 |some gp=>
  obtain⟨g,pol⟩:=gp
  simp only[aG]
  cases ho:ops[g]? with
  |none=>rfl
  |some og=>
   simp only
   cases hd:og.dst with
   |none=>rfl
   |some tg=>simp only;rw[iq (h g pol og tg hg ho hd)]
theorem mf {cs:List (Nat×Bool)} {o:Oper} {hp hp':List (Blk (X:=X))} {tm tm':List Slot} {sl:Slot} {h1:List (Blk (X:=X))} (h:su o tm tm') (hcs:∀c∈cs,tm'[c.1]?=tm[c.1]?) (hm:∀cs,B5 cs o tm hp hp')
  (hk:Still cfg o.op) (hc:core cfg o cs hp tm=some (sl,h1)):h1=hp∧core cfg o cs hp' tm'=some (sl,hp'):=by
 have hr:=ot h
 unfold core at hc⊢
 cases hg:o.guard with
 |none=>rw[hg]at hc;exact vl h (hm _) hk hc
 |some gp=>
  rw[hg]at hc
  simp only at hc⊢
  rw[fl (cfg:=cfg) (cs:=cs) h (hm cs),sf hcs]
  cases hpo:aB cfg hp tm cs o.op with
  |some r=>
   obtain⟨ok,v⟩:=r
   rw[hpo]at hc
   simp only at hc⊢
   cases hb:(or ok (not (aD tm cs)))with
   |false=>rw[hb]at hc;cases hc
   |true=>rw[hb,XU]at hc;simp only[XQ,Prod.mk.injEq]at hc;obtain⟨rfl,rfl⟩:=hc;exact⟨rfl,rfl⟩
  |none=>
   rw[hpo]at hc
   simp only at hc⊢
   have key:(cond (aD tm cs) (runCore cfg cs o.op hp tm) (some (.opt cs (.bool false),hp)))=some (sl,h1)→h1=hp∧(cond (aD tm cs) (runCore cfg cs o.op hp' tm') (some (.opt cs (.bool false),hp')))=some (sl,hp'):=by
    intro hc
    cases hb:aD tm cs with
    |true=>rw[hb,XU]at hc;exact vl h (hm _) hk hc
    |false=>rw[hb,XV]at hc;simp only[XQ,Prod.mk.injEq]at hc;obtain⟨rfl,rfl⟩:=hc;exact⟨rfl,rfl⟩
   cases hop:o.op
   case pick c a b=>
    rw[hop]at hc hr key
    simp only at hc⊢
    have hv:=Al (cs:=cs) (c:=c) (a:=a) (b:=b) (tm:=tm) (tm':=tm') (fun t ht=>hr t (by simp[Op.operands];exact ht))
    rw[hv]
    cases hpv:mC tm cs c a b with
    |some v=>rw[hpv]at hc;simp only[XQ,Prod.mk.injEq]at hc;obtain⟨rfl,rfl⟩:=hc;exact⟨rfl,rfl⟩
    |none=>rw[hpv]at hc;exact key hc
   all_goals
    rw[hop]at hc key
    exact key hc
def Nj (hp:List (Blk (X:=X))):AV→Prop
 | .ptr k _=>k<hp.length
 | .pel k _ _ _=>k<hp.length∧deref hp k<hp.length
 |_=>True
theorem Kl {hpA hpB:List (Blk (X:=X))} (hAB:hpA<+:hpB∨hpB<+:hpA) {g:Bool} {n:Nat} {v:AV} {r:Bool×AV} (h:loadAt g n hpA v=some r) (hs:Nj hpB v):loadAt g n hpB v=some r:=by
 have same:∀k b,hpA[k]?=some b→k<hpB.length→hpB[k]?=some b:=by
  intro k b hk hl
  rcases hAB with⟨t,rfl⟩|⟨t,rfl⟩
  ·rw[List.getElem?_append_left (List.getElem?_eq_some_iff.1 hk).1];exact hk
  ·rw[List.getElem?_append_left hl]at hk;exact hk
 cases v with
 |ptr k o=>
  simp only[loadAt,aG]at h⊢
  cases hk:hpA[k]? with
  |none=>rw[hk]at h;cases h
  |some b=>rw[hk]at h;rw[same k b hk hs];exact h
 |pel k i wd o=>
  have hd:deref hpB k=deref hpA k:=by
   unfold deref
   rw[aG,aG]
   cases hk:hpA[k]? with
   |some b=>rw[same k b hk hs.1]
   |none=>
    have:loadAt (X:=X) g n hpA (.pel k i wd o)=none:=by
     simp only[loadAt,deref,aG,hk]
    rw[this]at h;cases h
  have hs2:=hs.2
  simp only[loadAt,aG]at h⊢
  rw[hd]at hs2⊢
  cases hk:hpA[deref hpA k]? with
  |none=>rw[hk]at h;cases h
  |some b=>rw[hk]at h;rw[same _ b hk hs2];exact h
 |_=>simp[loadAt]at h
theorem KJ {gl:List (Nat×List AV)} {g:Bool} {n:Nat} {v:AV} {r:Bool×AV} {hp:List (Blk (X:=X))} (h:orL none (JG gl g n v)=some r):loadAt (X:=X) g n hp v=none:=by
 cases v with
 |val u=>rfl
 |_=>simp[orL,JG]at h
theorem MU {o:Oper} {t:TypeId} {x:Operand} {cs:List (Nat×Bool)} {hp hp' h1:List (Blk (X:=X))} {tm tm':List Slot} {sl:Slot} (hop:o.op= .load t x) (hgd:o.guard=none) (hrd:rd tm' [] x=rd tm [] x) (hAB:hp<+:hp'∨hp'<+:hp)
  (hs:∀v,rd tm [] x=some v→Nj hp' v) (hc:core cfg o cs hp tm=some (sl,h1)):h1=hp∧core cfg o cs hp' tm'=some (sl,hp'):=by
 have key:aB cfg hp tm [] (.load t x)=none→False:=by
  intro hn
  unfold core at hc
  rw[hgd]at hc
  simp only[hop,runCore,hn,a8]at hc
  cases hc
 cases hp0:aB cfg hp tm [] (.load t x)with
 |none=>exact(key hp0).elim
 |some r=>
  obtain⟨ok,v⟩:=r
  have hp1:aB cfg hp' tm' [] (.load t x)=some (ok,v):=by
   simp only[aB]at hp0⊢
   rw[hrd]
   split at hp0
   ·rename_i u i hu hi
    cases hl:loadAt (X:=X) i.agg i.size hp u with
    |some r=>rw[hl]at hp0;rw[Kl hAB hl (hs u hu)];exact hp0
    |none=>
     rw[hl]at hp0
     rw[KJ hp0]
     exact hp0
   ·cases hp0
  unfold core at hc⊢
  rw[hgd]at hc⊢
  simp only[hop,runCore,hp0]at hc
  simp only[hop,runCore,hp1]
  cases ok with
  |false=>cases hc
  |true=>
   simp only[XU,XQ,Prod.mk.injEq]at hc⊢
   obtain⟨rfl,rfl⟩:=hc
   exact⟨rfl,rfl,trivial⟩
theorem EY {cs:List (Nat×Bool)} {o:Oper} {hp:List (Blk (X:=X))} {tm tm':List Slot} (h:su o tm tm') (hcs:∀c∈cs,tm'[c.1]?=tm[c.1]?) (hk:cZ o.op=some 2):core cfg o cs hp tm'=core cfg o cs hp tm:=by
 have e1:∀cs,aB cfg hp tm' cs o.op=aB cfg hp tm cs o.op:=fun cs=>fl h (.inr (.inl rfl))
 have e2:∀cs,a8 cfg hp tm' cs o.op=a8 cfg hp tm cs o.op:=fun cs=>En h (.inr (.inr hk))
 have e3:∀cs,runCore cfg cs o.op hp tm'=runCore cfg cs o.op hp tm:=by
  intro cs
  have e2':=e2 cs
  unfold runCore
  rw[e1 cs]
  cases hop:o.op<;>rw[hop]at hk<;>simp[cZ,aJ]at hk
  all_goals
   rw[hop]at e2'
   simp only[e2']
 unfold core
 simp only[e1,e3,sf hcs]
 cases hop:o.op<;>rw[hop]at hk<;>simp[cZ,aJ]at hk
end
end Go.Proofs.YtfhepbbkggdlcaaGreatDoor.Px


namespace Go.Proofs.YtfhepbbkggdlcaaGreatDoor.Px
open Go Go.RowKit
theorem Anc.trans {ops:List Oper} {i j k:Nat} (h:Anc ops i j) (h2:Anc ops j k):Anc ops i k:=by
 induction h with
 |edge h he=>exact .step h he h2
 |step h he _ ih=>exact .step h he (ih h2)
section
variable [X:bQ] {wk:Bool} {cfg:Cfg (X:=X)} {ops:List Oper} {hasG:Bool} {s0:St (X:=X)} {S:Nat→St (X:=X)}
theorem GK.lt (hk:GK wk ops s0) {i j:Nat} (h:Anc ops i j):j<i:=by
 induction h with
 |edge h he=>exact hk.back _ _ _ h he
 |step h he _ ih=>exact Nat.lt_trans ih (hk.back _ _ _ h he)
structure eE (cfg:Cfg (X:=X)) (ops:List Oper) (hasG:Bool) (s0:St (X:=X)) (S:Nat→St (X:=X)):Prop where
 begin:S 0=s0
 step:∀(k:Nat) (o:Oper),ops[k]?=some o→lL cfg ops hasG o (S k)=some (S (k+1))
theorem eE.at (hr:eE cfg ops hasG s0 S) {k:Nat} {o:Oper} (ho:ops[k]?=some o):∃cs sl,gcs ops o (S k).tm=some cs∧core cfg o cs (S k).hp (S k).tm=some (sl,(S (k+1)).hp)∧
  (S (k+1)).tm=(fh (S k) o.dst sl).tm∧∀d,o.dst=some d→(hasG=true→eC d (sl::(S k).tm)=true)∧(hasG=false→∀cs v,sl≠ .opt cs v):=by
 have:=hr.step k o ho
 rw[dL]at this
 cases hg:gcs ops o (S k).tm with
 |none=>rw[hg]at this;cases this
 |some cs=>
  rw[hg]at this
  simp only at this
  cases hc:core cfg o cs (S k).hp (S k).tm with
  |none=>rw[hc]at this;cases this
  |some r=>
   obtain⟨sl,h⟩:=r
   rw[hc]at this
   obtain⟨h1,h2⟩:=Le this
   refine⟨cs,sl,rfl,?_,?_,h2⟩
   ·rw[hc,h1]
    unfold fh
    cases o.dst<;>rfl
   ·rw[h1]
    unfold fh
    cases o.dst<;>rfl
theorem eE.len (hr:eE cfg ops hasG s0 S):∀k,k≤ops.length→(S k).tm.length=s0.tm.length
 |0,_=>by rw[hr.begin]
 |k+1,h=>by
  obtain⟨cs,sl,_,_,h3,_⟩:=hr.at (List.getElem?_eq_getElem (show k<ops.length by omega))
  rw[h3,←hr.len k (by omega)]
  unfold fh
  split<;>simp[aR]
theorem eE.other (hr:eE cfg ops hasG s0 S) {k t:Nat} {o:Oper} (ho:ops[k]?=some o) (ht:o.dst≠some t):(S (k+1)).tm[t]?=(S k).tm[t]?:=by
 obtain⟨cs,sl,_,_,h3,_⟩:=hr.at ho
 rw[h3]
 unfold fh
 split
 ·rename_i d hd
  simp only[aR]
  rw[List.getElem?_set_ne (fun e=>ht (by rw[hd,e]))]
 ·rfl
theorem eE.uc (hr:eE cfg ops hasG s0 S) {t i:Nat}:∀j,i≤j→j≤ops.length→(∀k o,i≤k→k<j→ops[k]?=some o→o.dst≠some t)→(S j).tm[t]?=(S i).tm[t]?
 |0,hij,_,_=>by rw[show i=0 by omega]
 |j+1,hij,hj,h=>by
  by_cases e:i=j+1
  ·rw[e]
  ·have hlt:j<ops.length:=by omega
   rw[hr.other (List.getElem?_eq_getElem hlt) (h j ops[j] (by omega) (by omega) (List.getElem?_eq_getElem hlt))]
   exact hr.uc j (by omega) (by omega) (fun k o h1 h2 h3=>h k o h1 (by omega) h3)
theorem eE.written (hr:eE cfg ops hasG s0 S) (hk:GK wk ops s0) {k t j:Nat} {o:Oper} (ho:ops[k]?=some o) (hd:o.dst=some t) (hkj:k<j) (hj:j≤ops.length):(S j).tm[t]?=(S (k+1)).tm[t]?:=
 hr.uc j (by omega) hj (fun k' o' h1 h2 h3 e=>hk.one k' k o' o t h3 ho (by omega) hd e)
theorem eE.e7 (hr:eE cfg ops hasG s0 S) {t j:Nat} (hj:j≤ops.length) (h:∀k o,k<j→ops[k]?=some o→o.dst≠some t):(S j).tm[t]?=s0.tm[t]?:=by
 rw[hr.uc j (i:=0) (Nat.zero_le _) hj (fun k o _ h2 h3=>h k o h2 h3),hr.begin]
end
end Go.Proofs.YtfhepbbkggdlcaaGreatDoor.Px


namespace Go.Proofs.YtfhepbbkggdlcaaGreatDoor.Px
open Go Go.RowKit
section
variable [X:bQ] {wk:Bool} {cfg:Cfg (X:=X)} {ops:List Oper} {hasG:Bool} {s0:St (X:=X)} {S:Nat→St (X:=X)}
theorem nh {cs ds:List (Nat×Bool)} {op:Op} {hp h:List (Blk (X:=X))} {tm:List Slot} {v:AV} (he:runCore cfg cs op hp tm=some (.opt ds v,h)):False:=by
 unfold runCore at he
 split at he
 ·rename_i ok v hp'
  cases ok with
  |false=>cases he
  |true=>simp at he
 ·split at he
  ·split at he
   ·simp at he
   ·split at he
    ·split at he
     ·rename_i ds g hb
      cases hds:ds.all (eg cs)with
      |false=>rw[hds]at he;cases he
      |true=>
       rw[hds,XU]at he
       split at he
       ·simp at he
       ·cases he
     ·cases he
    ·cases he
  ·split at he
   ·rename_i ok v h' he'
    cases ok<;>simp at he
   ·rename_i ok h' he'
    cases ok<;>simp at he
   ·cases he
theorem sY {o:Oper} {cs ds:List (Nat×Bool)} {hp h:List (Blk (X:=X))} {tm:List Slot} {v:AV} (he:core cfg o cs hp tm=some (.opt ds v,h)):ds=cs:=by
 unfold core at he
 split at he
 ·exact(nh he).elim
 ·split at he
  ·rename_i ok v hp'
   cases hc:(or ok (not (aD tm cs)))with
   |false=>rw[hc]at he;cases he
   |true=>rw[hc,XU]at he;simp only[XQ,Prod.mk.injEq,Slot.opt.injEq]at he;exact he.1.1.symm
  ·split at he
   ·split at he
    ·simp only[XQ,Prod.mk.injEq,Slot.opt.injEq]at he;exact he.1.1.symm
    ·cases hc:aD tm cs with
     |true=>rw[hc,XU]at he;exact(nh he).elim
     |false=>rw[hc,XV]at he;simp only[XQ,Prod.mk.injEq,Slot.opt.injEq]at he;exact he.1.1.symm
   ·cases hc:aD tm cs with
    |true=>rw[hc,XU]at he;exact(nh he).elim
    |false=>rw[hc,XV]at he;simp only[XQ,Prod.mk.injEq,Slot.opt.injEq]at he;exact he.1.1.symm
theorem eE.slot (hr:eE cfg ops hasG s0 S) {g tg:Nat} {og:Oper} {x:Slot} (ho:ops[g]?=some og) (hd:og.dst=some tg) (hx:(S (g+1)).tm[tg]?=some x):
  ∃cs,gcs ops og (S g).tm=some cs∧core cfg og cs (S g).hp (S g).tm=some (x,(S (g+1)).hp):=by
 obtain⟨cs,sl,h1,h2,h3,_⟩:=hr.at ho
 rw[h3,hd]at hx
 simp only[fh,aR]at hx
 by_cases hl:tg<(S g).tm.length
 ·rw[List.getElem?_set_self hl]at hx
  simp only[XQ]at hx
  subst hx
  exact⟨cs,h1,h2⟩
 ·rw[List.getElem?_eq_none (by rw[List.length_set];omega)]at hx
  cases hx
theorem eE.conds (hr:eE cfg ops hasG s0 S) (hk:GK wk ops s0):∀(j:Nat) (o:Oper) (cs:List (Nat×Bool)),ops[j]?=some o→gcs ops o (S j).tm=some cs→∀c∈cs,∃g og,Anc ops j g∧ops[g]?=some og∧og.dst=some c.1:=by
 intro j
 induction j using Nat.strongRecOn with
 |_ j ih=>
  intro o cs ho hg c hc
  have hlen:j<ops.length:=(List.getElem?_eq_some_iff.1 ho).1
  unfold gcs at hg
  split at hg
  ·simp only[XQ]at hg;subst hg;cases hc
  ·rename_i g pol hgd
   simp only[aG]at hg
   split at hg
   ·rename_i og hog
    split at hg
    ·rename_i tg htg
     split at hg
     ·rename_i ds b hb
      simp only[XQ]at hg
      subst hg
      have hanc:=hk.guard j o g pol ho hgd
      have hlt:=hk.lt hanc
      rcases List.mem_append.1 hc with hc|hc
      ·simp only[cG,aG]at hb
       split at hb
       ·simp only[XQ,Prod.mk.injEq]at hb;rw[←hb.1]at hc;cases hc
       ·rename_i cs' b' hs
        simp only[XQ,Prod.mk.injEq]at hb
        obtain⟨rfl,rfl⟩:=hb
        rw[hr.written hk hog htg hlt (by omega)]at hs
        obtain⟨csg,h1,h2⟩:=hr.slot hog htg hs
        have:=sY h2
        subst this
        obtain⟨g',og',a1,a2,a3⟩:=ih g hlt og _ hog h1 c hc
        exact⟨g',og',hanc.trans a1,a2,a3⟩
       ·cases hb
      ·simp only[List.mem_singleton]at hc
       subst hc
       exact⟨g,og,hanc,hog,htg⟩
     ·cases hg
    ·cases hg
   ·cases hg
end
end Go.Proofs.YtfhepbbkggdlcaaGreatDoor.Px


namespace Go.Proofs.YtfhepbbkggdlcaaGreatDoor.Px
open Go Go.RowKit
section
variable [X:bQ] {wk:Bool} {cfg:Cfg (X:=X)} {ops:List Oper} {hasG:Bool} {s0:St (X:=X)} {S:Nat→St (X:=X)}
omit X in
theorem Cr {d:Nat}:∀{l:List Slot},(∀(t:Nat) cs v,l[t]?=some (.opt cs v)→∀c∈cs,c.1≠d)→eC d l=true
 | [],_=>rfl
 |x::l,h=>by
  have ih:eC d l=true:=Cr fun t cs v ht=>h (t+1) cs v (by simpa using ht)
  cases x with
  |opt cs v=>
   simp only[eC,ih,Bool.and_true,List.all_eq_true,Bool.not_eq_true']
   intro c hc
   have:=h 0 cs v rfl c hc
   cases hb:Nat.beq c.1 d with
   |true=>exact absurd (XS hb) this
   |false=>rfl
  |_=>simpa only[eC]using ih
omit X in
theorem KZ {d:Nat} {x:Slot} {l:List Slot} (h:eC d (x::l)=true) {cs:List (Nat×Bool)} {v:AV} (e:x= .opt cs v):∀c∈cs,c.1≠d:=by
 subst e
 simp only[eC,XR,List.all_eq_true,Bool.not_eq_true']at h
 intro c hc e
 have:=h.1 c hc
 rw[e]at this
 simp at this
theorem eE.grow (hr:eE cfg ops hasG s0 S) (hk:GK wk ops s0) (ha:zt cfg) (hn:cfg.apn=false):∀k,k≤ops.length→s0.hp<+:(S k).hp
 |0,_=>by rw[hr.begin];exact List.prefix_refl _
 |k+1,h=>by
  have ho:=List.getElem?_eq_getElem (show k<ops.length by omega)
  obtain⟨cs,sl,_,h2,_⟩:=hr.at ho
  exact(hr.grow hk ha hn k (by omega)).trans (ES ha hn (hk.kind k _ ho) h2)
theorem eE.MI (hr:eE cfg ops hasG s0 S) (hk:GK wk ops s0) (ha:zt cfg) (hn:cfg.apn=false) (i:Nat):∀j,i≤j→j≤ops.length→(S i).hp<+:(S j).hp
 |0,hij,_=>by rw[show i=0 by omega];exact List.prefix_refl _
 |j+1,hij,h=>by
  by_cases e:i=j+1
  ·rw[e];exact List.prefix_refl _
  ·have ho:=List.getElem?_eq_getElem (show j<ops.length by omega)
   obtain⟨cs,sl,_,h2,_⟩:=hr.at ho
   exact(hr.MI hk ha hn i j (by omega) (by omega)).trans (ES ha hn (hk.kind j _ ho) h2)
theorem eE.oS (hr:eE cfg ops hasG s0 S) (hn:cfg.apn=false) {k:Nat} {o:Oper} (ho:ops[k]?=some o) (hk:cZ o.op=some 0∨cZ o.op=some 1):(S (k+1)).hp=(S k).hp:=by
 obtain⟨cs,sl,_,h2,_⟩:=hr.at ho
 exact(mf (hp':=(S k).hp) (fun _ _=>rfl) (fun _ _=>rfl) (fun _=> .inr (.inl rfl)) (Kv hn hk) h2).1
omit X in
theorem tv {o:Oper}:fK o=true↔cZ o.op=some 2∧dA o=false:=by
 unfold fK
 constructor
 ·intro h;split at h
  ·rename_i e
   exact⟨e,by simpa using h⟩
  ·cases h
 ·rintro ⟨h,h2⟩;simp only[h,h2,Bool.not_false]
theorem JD {o:Oper} {c:Call} {cs:List (Nat×Bool)} {hp:List (Blk (X:=X))} {tm:List Slot} (hs:dA o=true) (hop:o.op= .call c):a8 cfg hp tm cs (.call c)=none:=by
 unfold dA at hs
 rw[hop]at hs
 simp only[a8]
 split
 ·simp only at hs
  cases hcal:c.callee with
  |builtin b=>cases b<;>simp[hcal]at hs<;>rfl
  |_=>simp[hcal]at hs
 ·rfl
theorem xX {o:Oper} {c:Call} {cs:List (Nat×Bool)} {hp hp':List (Blk (X:=X))} {tm:List Slot} (hs:dA o=true) (hop:o.op= .call c):aB cfg hp' tm cs (.call c)=aB cfg hp tm cs (.call c):=by
 unfold dA at hs
 rw[hop]at hs
 simp only[aB]
 split
 ·simp only at hs
  cases hcal:c.callee with
  |builtin b=>rfl
  |_=>simp[hcal]at hs
 ·rfl
theorem vj {o:Oper} {c:Call} {cs:List (Nat×Bool)} {hp hp' h1:List (Blk (X:=X))} {tm:List Slot} {sl:Slot} (hs:dA o=true) (hop:o.op= .call c) (h:runCore cfg cs (.call c) hp tm=some (sl,h1)):h1=hp∧runCore cfg cs (.call c) hp' tm=some (sl,hp'):=by
 simp only[runCore,JD hs hop,xX (hp:=hp) (hp':=hp') hs hop]at h⊢
 split at h
 ·rename_i ok v _
  cases ok with
  |false=>cases h
  |true=>
   simp only[XU,XQ,Prod.mk.injEq]at h⊢
   exact⟨h.2.symm,h.1,trivial⟩
 ·cases h
theorem wU {o:Oper} {cs:List (Nat×Bool)} {hp hp' h1:List (Blk (X:=X))} {tm:List Slot} {sl:Slot} (hs:dA o=true) (hk:cZ o.op=some 2) (hc:core cfg o cs hp tm=some (sl,h1)):h1=hp∧core cfg o cs hp' tm=some (sl,hp'):=by
 obtain⟨c,hop⟩:∃c,o.op= .call c:=by
  cases hop:o.op<;>rw[hop]at hk
  case slice t x lo hi mx=>cases mx<;>simp[cZ,aJ]at hk
  all_goals simp[cZ,aJ]at hk
  all_goals first
   |exact⟨_,rfl⟩
   |(unfold dA at hs;rw[hop]at hs;cases hs)
 unfold core at hc⊢
 rw[hop]at hc⊢
 split at hc
 ·exact vj hs hop hc
 ·rw[xX (hp:=hp) (hp':=hp') hs hop]
  split at hc
  ·rename_i ok v _
   cases hb:or ok (not (aD tm cs))with
   |false=>rw[hb]at hc;cases hc
   |true=>
    rw[hb]at hc
    simp only[XU,XQ,Prod.mk.injEq]at hc⊢
    exact⟨hc.2.symm,hc.1,trivial⟩
  ·cases hb:aD tm cs with
   |false=>
    simp only[hb,XV,XQ,Prod.mk.injEq]at hc⊢
    exact⟨hc.2.symm,hc.1,trivial⟩
   |true=>
    simp only[hb,XU]at hc⊢
    exact vj hs hop hc
theorem Cs {o:Oper} {cs:List (Nat×Bool)} {hp hp' h1:List (Blk (X:=X))} {tm tm':List Slot} {sl:Slot} (h:su o tm tm') (hcs:∀c∈cs,tm'[c.1]?=tm[c.1]?) (hs:dA o=true) (hk:cZ o.op=some 2) (hc:core cfg o cs hp tm=some (sl,h1)):h1=hp∧core cfg o cs hp' tm'=some (sl,hp'):=by
 rw[←EY h hcs hk]at hc
 exact wU hs hk hc
theorem eE.cn (hr:eE cfg ops hasG s0 S) (hn:cfg.apn=false) (hk:GK wk ops s0) {i:Nat}:∀j,i≤j→j≤ops.length→(∀k o,i≤k→k<j→ops[k]?=some o→fK o=false)→(S j).hp=(S i).hp
 |0,hij,_,_=>by rw[show i=0 by omega]
 |j+1,hij,hj,h=>by
  by_cases e:i=j+1
  ·rw[e]
  ·have hlt:j<ops.length:=by omega
   have ho:=List.getElem?_eq_getElem hlt
   have hnc:=h j ops[j] (by omega) (by omega) ho
   have hsame:(S (j+1)).hp=(S j).hp:=by
    rcases hk.kind j _ ho with h|h|h
    ·exact hr.oS hn ho (.inl h)
    ·exact hr.oS hn ho (.inr h)
    ·obtain⟨cs,sl,_,h2,_⟩:=hr.at ho
     refine(wU (hp':=(S j).hp) ?_ h h2).1
     cases hso:dA ops[j]with
     |true=>rfl
     |false=>rw[tv.2 ⟨h,hso⟩]at hnc;cases hnc
   rw[hsame]
   exact hr.cn hn hk j (by omega) (by omega) (fun k o h1 h2 h3=>h k o h1 (by omega) h3)
structure AtG (ops:List Oper) (s0:St (X:=X)) (S:Nat→St (X:=X)) (Y:Nat→Prop) (s:St (X:=X)):Prop where
 len:s.tm.length=s0.tm.length
 done:∀(k t:Nat) (o:Oper),ops[k]?=some o→Y k→o.dst=some t→s.tm[t]?=(S (k+1)).tm[t]?
 rest:∀t,(∀(k:Nat) (o:Oper),ops[k]?=some o→Y k→o.dst≠some t)→s.tm[t]?=s0.tm[t]?
 heap:∃m,m≤ops.length∧s.hp=(S m).hp∧∀(k:Nat) (o:Oper),ops[k]?=some o→fK o=true→(Y k↔k<m)
theorem AtG.start (hr:eE cfg ops hasG s0 S):AtG ops s0 S (fun _=>False) s0:=
 ⟨rfl,fun _ _ _ _ h=>h.elim,fun _ _=>rfl,0,Nat.zero_le _,by rw[hr.begin],fun k o _ _=>⟨fun h=>h.elim,fun h=>by omega⟩⟩
theorem AtG.all (hr:eE cfg ops hasG s0 S) (hn:cfg.apn=false) (hk:GK wk ops s0) {Y:Nat→Prop} {s:St (X:=X)} (ha:AtG ops s0 S Y s) (cg:∀k,k<ops.length→Y k):s=S ops.length:=by
 obtain⟨m,hm,hhp,hst⟩:=ha.heap
 have h1:s.hp=(S ops.length).hp:=by
  rw[hhp]
  refine(hr.cn hn hk ops.length hm (Nat.le_refl _) (fun k p h1 h2 h3=>?_)).symm
  cases hc:fK p with
  |false=>rfl
  |true=>have:=(hst k p h3 hc).1 (cg k h2);omega
 have h2:s.tm=(S ops.length).tm:=by
  apply List.ext_getElem?
  intro t
  by_cases hw:∃(k:Nat) (o:Oper),ops[k]?=some o∧o.dst=some t
  ·obtain⟨k,o,ho,hd⟩:=hw
   have hl:=(List.getElem?_eq_some_iff.1 ho).1
   rw[ha.done k t o ho (cg k hl) hd,hr.written hk ho hd hl (Nat.le_refl _)]
  ·rw[ha.rest t (fun k o ho _ e=>hw ⟨k,o,ho,e⟩),hr.e7 (Nat.le_refl _) (fun k o _ ho e=>hw ⟨k,o,ho,e⟩)]
 cases s
 cases hS:S ops.length
 rw[hS]at h1 h2
 simp only at h1 h2
 rw[h1,h2]
end
end Go.Proofs.YtfhepbbkggdlcaaGreatDoor.Px


namespace Go.Proofs.YtfhepbbkggdlcaaGreatDoor.Px
open Go Go.RowKit
section
variable [X:bQ] {wk:Bool} {cfg:Cfg (X:=X)} {ops:List Oper} {hasG:Bool} {s0:St (X:=X)} {S:Nat→St (X:=X)}
theorem eE.Ck (hr:eE cfg ops hasG s0 S) (hn:cfg.apn=false) (hk:GK wk ops s0) (hs:∀(j:Nat) (p:Oper),ops[j]?=some p→dA p=true):∀j,j≤ops.length→(S j).hp=s0.hp
 |0,_=>by rw[hr.begin]
 |j+1,hj=>by
  have ho:=List.getElem?_eq_getElem (show j<ops.length by omega)
  have ih:=hr.Ck hn hk hs j (by omega)
  rw[←ih]
  rcases hk.kind j _ ho with h|h|h
  ·exact hr.oS hn ho (.inl h)
  ·exact hr.oS hn ho (.inr h)
  ·obtain⟨cs,sl,_,h2,_⟩:=hr.at ho
   exact(wU (hp':=(S j).hp) (hs j _ ho) h h2).1
theorem AtG.next (hr:eE cfg ops hasG s0 S) (hk:GK wk ops s0) (hwk:wk=true→∀j,j≤ops.length→(S j).hp=s0.hp) (had:zt cfg) (hn:cfg.apn=false) (h0:aw s0.tm) {Y:Nat→Prop} {s:St (X:=X)} (ha:AtG ops s0 S Y s) {i:Nat} {o:Oper} (ho:ops[i]?=some o) (hY:¬Y i)
  (hready:∀k,bM o k=true→Y k) (hclosed:∀(k:Nat) (p:Oper),ops[k]?=some p→Y k→∀j,bM p j=true→Y j)
  (hsees:∀t x v,o.op= .load t x→o.guard=none→rd s.tm [] x=some v→Nj s.hp v):
  ∃s',lL cfg ops hasG o s=some s'∧AtG ops s0 S (fun k=>Y k∨k=i) s':=by
 have hlt:i<ops.length:=(List.getElem?_eq_some_iff.1 ho).1
 have hanc:∀j,Anc ops i j→Y j:=fun j hj=>hj.done hclosed (fun o' ho' k hk'=>by rw[ho]at ho';simp only[XQ]at ho';subst ho';exact hready k hk')
 have hancY:∀k j,Y k→Anc ops k j→Y j:=fun k j hy hj=>hj.done hclosed (fun o' ho' k' hk'=>hclosed k o' ho' hy k' hk')
 -- a slot that an ancestor writes
 have slotEq:∀(j t:Nat) (p:Oper),Anc ops i j→ops[j]?=some p→p.dst=some t→s.tm[t]?=(S i).tm[t]?:=by
  intro j t p hij hj hd
  rw[ha.done j t p hj (hanc j hij) hd,hr.written hk hj hd (hk.lt hij) (by omega)]
 have hag:su o (S i).tm s.tm:=by
  intro t ht
  by_cases hw:∃(j:Nat) (p:Oper),ops[j]?=some p∧p.dst=some t
  ·obtain⟨j,p,hj,hd⟩:=hw
   exact slotEq j t p (hk.look i j o p t ho hj hd ht) hj hd
  ·rw[ha.rest t (fun k p hkp _ e=>hw ⟨k,p,hkp,e⟩),hr.e7 (by omega) (fun k p _ hkp e=>hw ⟨k,p,hkp,e⟩)]
 obtain⟨cs,sl,hg,hc,htm,hput⟩:=hr.at ho
 have hcs:∀c∈cs,s.tm[c.1]?=(S i).tm[c.1]?:=by
  intro c hc'
  obtain⟨g,og,a1,a2,a3⟩:=hr.conds hk i o cs ho hg c hc'
  exact slotEq g c.1 og a1 a2 a3
 have hg':gcs ops o s.tm=some cs:=by
  rw[←hg]
  exact Of fun g pol og tg e1 e2 e3=>slotEq g tg og (hk.guard i o g pol ho e1) e2 e3
 obtain⟨m,hm,hhp,hst⟩:=ha.heap
 -- what is put, and over which heap
 have hcore:∃h',core cfg o cs s.hp s.tm=some (sl,h')∧∃m',m'≤ops.length∧h'=(S m').hp∧∀(k:Nat) (p:Oper),ops[k]?=some p→fK p=true→((Y k∨k=i)↔k<m'):=by
  by_cases hcall:fK o=true
  ·have hmi:(S m).hp=(S i).hp:=by
    have hord:∀(k:Nat) (p:Oper),ops[k]?=some p→fK p=true→(k<i→k<m)∧(i≤k→m≤k):=by
     intro k p hkp hp
     refine⟨fun hki=>(hst k p hkp hp).1 (hanc k (hk.calls i k o p ho hkp hcall hp hki)),fun hik=>?_⟩
     rcases Nat.lt_or_ge k m with h'|h'
     ·exfalso
      have hyk:=(hst k p hkp hp).2 h'
      by_cases e:k=i
      ·subst e;exact hY hyk
      ·exact hY (hancY k i hyk (hk.calls k i p o hkp ho hp hcall (by omega)))
     ·exact h'
    rcases Nat.le_total m i with hle|hle
    ·refine(hr.cn hn hk i hle (by omega) (fun k p h1 h2 h3=>?_)).symm
     cases hp:fK p with
     |false=>rfl
     |true=>have:=(hord k p h3 hp).1 h2;omega
    ·refine hr.cn hn hk m hle hm (fun k p h1 h2 h3=>?_)
     cases hp:fK p with
     |false=>rfl
     |true=>have:=(hord k p h3 hp).2 h1;omega
   refine⟨(S (i+1)).hp,?_,i+1,by omega,rfl,fun k p hkp hp=>?_⟩
   ·rw[hhp,hmi,EY hag hcs (tv.1 hcall).1]
    exact hc
   ·constructor
    ·rintro (hy|rfl)
     ·rcases Nat.lt_or_ge k (i+1)with h|h
      ·exact h
      ·exact absurd (hancY k i hy (hk.calls k i p o hkp ho hp hcall (by omega))) hY
     ·omega
    ·intro hlt'
     by_cases e:k=i
     ·exact .inr e
     ·exact .inl (hanc k (hk.calls i k o p ho hkp hcall hp (by omega)))
  ·have hcalls:∀(k:Nat) (p:Oper),ops[k]?=some p→fK p=true→((Y k∨k=i)↔k<m):=by
    intro k p hkp hp
    constructor
    ·rintro (hy|rfl)
     ·exact(hst k p hkp hp).1 hy
     ·rw[ho]at hkp;simp only[XQ]at hkp;subst hkp;exact absurd hp hcall
    ·exact fun h=> .inl ((hst k p hkp hp).2 h)
   by_cases h2:cZ o.op=some 2
   ·have hs:dA o=true:=by
     cases hso:dA o with
     |true=>rfl
     |false=>exact absurd (tv.2 ⟨h2,hso⟩) hcall
    exact⟨s.hp,(Cs hag hcs hs h2 hc).2,m,hm,hhp,hcalls⟩
   have hk01:cZ o.op=some 0∨cZ o.op=some 1:=by
    rcases hk.kind i o ho with h|h|h
    ·exact .inl h
    ·exact .inr h
    ·exact absurd h h2
   by_cases hsl:∃t x lo hi mx,o.op= .slice t x lo hi mx
   ·obtain⟨t1,x1,lo,hi,mx,hop⟩:=hsl
    have hw:=hk.slc i o t1 x1 lo hi mx ho hop
    have hpa:∀cs,B5 cs o (S i).tm (S i).hp s.hp:=fun cs=> .inr (.inl (by rw[hhp,hwk hw m hm,hwk hw i (by omega)]))
    exact⟨s.hp,(mf hag hcs hpa (Kv hn hk01) hc).2,m,hm,hhp,hcalls⟩
   by_cases hul:o.guard=none∧cZ o.op=some 1
   ·obtain⟨hgd,hm1⟩:=hul
    obtain⟨tl,xl,hload⟩:∃t x,o.op= .load t x:=by
     cases hop:o.op<;>rw[hop]at hm1
     case slice=>exact absurd ⟨_,_,_,_,_,hop⟩ hsl
     all_goals simp[cZ,aJ]at hm1
     exact⟨_,_,rfl⟩
    have hrd:rd s.tm [] xl=rd (S i).tm [] xl:=by
     cases xl with
     |tmp u=>
      have:=hag u (by unfold cL;rw[hload];simp[Op.operands])
      simp only[rd,aG,this]
     |const v=>rfl
     |global g=>rfl
     |func f=>rfl
    have hAB:(S i).hp<+:s.hp∨s.hp<+:(S i).hp:=by
     rw[hhp]
     rcases Nat.le_total i m with hle|hle
     ·exact .inl (hr.MI hk had hn i m hle hm)
     ·exact .inr (hr.MI hk had hn m i hle (by omega))
    refine⟨s.hp,(MU hload hgd hrd hAB (fun v hv=>hsees tl xl v hload hgd (by rw[hrd];exact hv)) hc).2,m,hm,hhp,hcalls⟩
   have hpa:∀cs,B5 cs o (S i).tm (S i).hp s.hp:=by
    intro cs
    rcases hk01 with h|h
    ·exact .inl (Wi h)
    ·obtain⟨tl,xl,hload⟩:∃t x,o.op= .load t x:=by
      cases hop:o.op<;>rw[hop]at h
      case slice=>exact absurd ⟨_,_,_,_,_,hop⟩ hsl
      all_goals simp[cZ,aJ]at h
      exact⟨_,_,rfl⟩
     rcases hk.load i o tl xl ho hload (fun e=>hul ⟨e,h⟩)with hw|hstill|⟨tt,kb,q,rfl,hun,hs,hkl⟩
     ·exact .inr (.inl (by rw[hhp,hwk hw m hm,hwk hw i (by omega)]))
     ·exact .inr (.inl (by rw[hhp,hr.Ck hn hk hstill m hm,hr.Ck hn hk hstill i (by omega)]))
     refine .inr (.inr ⟨_,_,hload,fun v iv hv=>?_⟩)
     have hv':v= .ptr kb q:=by
      simp only[rd,aG,hr.e7 (Nat.le_of_lt hlt) (fun k p _ hp=>hun k p hp),hs,sW,XQ]at hv
      exact hv.symm
     subst hv'
     refine CX ?_
     have p1:=hr.grow hk had hn i (by omega)
     have p2:=hr.grow hk had hn m hm
     rw[hhp]
     obtain⟨t1,e1⟩:=p1
     obtain⟨t2,e2⟩:=p2
     rw[←e1,←e2,List.getElem?_append_left hkl,List.getElem?_append_left hkl]
   refine⟨s.hp,(mf hag hcs hpa (Kv hn hk01) hc).2,m,hm,hhp,fun k p hkp hp=>?_⟩
   constructor
   ·rintro (hy|rfl)
    ·exact(hst k p hkp hp).1 hy
    ·rw[ho]at hkp;simp only[XQ]at hkp;subst hkp;exact absurd hp hcall
   ·exact fun h=> .inl ((hst k p hkp hp).2 h)
 obtain⟨h',hc',hheap⟩:=hcore
 -- nobody's condition is written anew
 have hok:∀d,o.dst=some d→(hasG=true→eC d (sl::s.tm)=true)∧(hasG=false→∀cs v,sl≠ .opt cs v):=by
  intro d hd
  refine⟨fun hG=>Cr fun t cs' v ht c hcm e=>?_,(hput d hd).2⟩
  cases t with
  |zero=>
   simp only[List.getElem?_cons_zero,XQ]at ht
   exact KZ ((hput d hd).1 hG) ht c hcm e
  |succ t=>
   simp only[List.getElem?_cons_succ]at ht
   by_cases hw:∃(j:Nat) (p:Oper),ops[j]?=some p∧Y j∧p.dst=some t
   ·obtain⟨j,p,hj,hy,hdj⟩:=hw
    rw[ha.done j t p hj hy hdj]at ht
    obtain⟨csj,e1,e2⟩:=hr.slot hj hdj ht
    have:=sY e2
    subst this
    obtain⟨g,og,a1,a2,a3⟩:=hr.conds hk j p _ hj e1 c hcm
    have:g=i:=by
     apply Classical.byContradiction
     intro hne
     exact hk.one i g o og d ho a2 (fun e=>hne e.symm) (by rw[a3,e]) hd
    subst this
    exact hY (hancY j g hy a1)
   ·rw[ha.rest t (fun k p hkp hy e=>hw ⟨k,p,hkp,hy,e⟩)]at ht
    have:=h0 t _ ht
    simp[Slot.ob]at this
 refine⟨{(fh s o.dst sl)with hp:=h'},?_,?_⟩
 ·rw[dL,hg']
  simp only[hc',SU]
  rw[Mq (s:={tm:=s.tm,hp:=h'}) hok]
  unfold fh
  cases o.dst<;>rfl
 ·cases hd:o.dst with
  |none=>
   simp only[fh]
   refine⟨ha.len,fun k t p hkp hy hdp=>?_,fun t hno=>?_,hheap⟩
   ·rcases hy with hy|rfl
    ·exact ha.done k t p hkp hy hdp
    ·rw[ho]at hkp;simp only[XQ]at hkp;subst hkp;rw[hd]at hdp;cases hdp
   ·exact ha.rest t (fun k p hkp hy=>hno k p hkp (.inl hy))
  |some d=>
   rw[hd]at htm
   simp only[fh,aR]at htm⊢
   refine⟨by simpa using ha.len,fun k t p hkp hy hdp=>?_,fun t hno=>?_,hheap⟩
   ·by_cases e:t=d
    ·subst e
     have hki:k=i:=by
      apply Classical.byContradiction
      intro hne
      exact hk.one i k o p t ho hkp (fun e=>hne e.symm) hdp hd
     subst hki
     rw[htm]
     by_cases hl:t<s.tm.length
     ·rw[List.getElem?_set_self hl,List.getElem?_set_self (by rw[hr.len k (by omega),←ha.len];exact hl)]
     ·have hl2:¬t<(S k).tm.length:=by rw[hr.len k (Nat.le_of_lt hlt),←ha.len];exact hl
      rw[List.getElem?_eq_none (by rw[List.length_set];exact Nat.le_of_not_lt hl),List.getElem?_eq_none (by rw[List.length_set];exact Nat.le_of_not_lt hl2)]
    ·rw[List.getElem?_set_ne (fun h=>e h.symm)]
     rcases hy with hy|rfl
     ·exact ha.done k t p hkp hy hdp
     ·rw[ho]at hkp
      simp only[XQ]at hkp
      subst hkp
      rw[hd]at hdp
      simp only[XQ]at hdp
      exact absurd hdp.symm e
   ·have hne:t≠d:=fun e=>hno i o ho (.inr rfl) (by rw[hd,e])
    rw[List.getElem?_set_ne (fun h=>hne h.symm)]
    exact ha.rest t (fun k p hkp hy=>hno k p hkp (.inl hy))
end
end Go.Proofs.YtfhepbbkggdlcaaGreatDoor.Px


namespace Go.Proofs.YtfhepbbkggdlcaaGreatDoor.Px
open Go Go.RowKit
section
variable [X:bQ] {P:Program} {G:World→Prop} {cfg:Cfg (X:=X)} {w0:cf} {R:Type} {fail:R} {φ:R→Prop}
theorem CC (hq:EOk P G cfg) (hG:G w0.w) {hasG:Bool} {ops:Array Oper} {s0:St (X:=X)} {S:Nat→St (X:=X)} (hr:eE cfg ops.toList hasG s0 S) (hk:GK false ops.toList s0) (had:zt cfg) (hnp:cfg.apn=false) (h0:Px.aw s0.tm) {rn:Option Nat} {ρ0:List Loc} {Q:Exit→Act→World→Prop}
  (hQ:∀ρ' a' w',ρ0<+:ρ'→FR ρ' (S ops.size).tm a'→HR w0 ρ' (S ops.size).hp w'→(hasG=false→Px.aw (S ops.size).tm)→Q .normal a' w'):
  ∀(fuel:Nat) (listed:Array Bool) (a:Act) (w:World) (s:St (X:=X)) (ρ:List Loc),listed.size=ops.size→unl ops.size listed≤fuel→ρ0<+:ρ→AtG ops.toList s0 S (fun k=>listed.getD k false=true) s→FR ρ s.tm a→HR w0 ρ s.hp w→(hasG=false→Px.aw s.tm)→
  (∀(k:Nat) (p:Oper),ops.toList[k]?=some p→listed.getD k false=true→∀j,bM p j=true→listed.getD j false=true)→wpAnyIn (Wd rn) 0 P .any ops Q fuel listed a w:=by
 intro fuel
 -- when nothing may come up, all has come up
 have done:∀(listed:Array Bool) (a:Act) (w:World) (s:St (X:=X)) (ρ:List Loc),listed.size=ops.size→ρ0<+:ρ→AtG ops.toList s0 S (fun k=>listed.getD k false=true) s→FR ρ s.tm a→HR w0 ρ s.hp w→(hasG=false→Px.aw s.tm)→Region.ready .any ops listed=[]→Q .normal a w:=by
  intro listed a w s ρ hsz hρ ha hf hh hno hrd
  have cg:∀k,k<ops.toList.length→listed.getD k false=true:=by
   intro k
   induction k using Nat.strongRecOn with
   |_ k ih=>
    intro hkl
    have hkl':k<ops.size:=by simpa using hkl
    cases hg:listed.getD k false with
    |true=>rfl
    |false=>
     exfalso
     have hmem:k∈Region.ready .any ops listed:=by
      refine mem_ready.2 ⟨?_,ops[k],Array.getElem?_eq_getElem hkl',fun e he hb=>?_⟩
      ·rw[Array.getD_eq_getD_getElem?,Array.getElem?_eq_getElem (by rw[hsz];exact hkl')]at hg⊢
       exact hg
      ·refine ih e.on (hk.back k ops[k] e.on (by simp[hkl']) ?_) (by have:=hk.back k ops[k] e.on (by simp[hkl']) (by simp only[bM,List.any_eq_true,XR];exact⟨e,by simpa using he,hb,by simp⟩);omega)
       simp only[bM,List.any_eq_true,XR]
       exact⟨e,by simpa using he,hb,by simp⟩
     rw[hrd]at hmem
     cases hmem
  have:=ha.all hr hnp hk cg
  subst this
  exact hQ ρ a w hρ (by simpa using hf) (by simpa using hh) (by simpa using hno)
 induction fuel with
 |zero=>
  intro listed a w s ρ hsz hu hρ ha hf hh hn hc
  have hrd:Region.ready .any ops listed=[]:=by
   rw[List.eq_nil_iff_forall_not_mem]
   intro i hi
   obtain⟨h1,o,ho,_⟩:=mem_ready.1 hi
   have hlt:i<ops.size:=(Array.getElem?_eq_some_iff.1 ho).1
   have h1':listed.getD i false=false:=by
    rw[Array.getD_eq_getD_getElem?,Array.getElem?_eq_getElem (by rw[hsz];exact hlt)]at h1⊢
    exact h1
   have:=jQ hsz hlt h1'
   omega
  exact⟨hrd,done listed a w s ρ hsz hρ ha hf hh hn hrd⟩
 |succ fuel ih=>
  intro listed a w s ρ hsz hu hρ ha hf hh hn hc
  refine⟨fun hrd=>done listed a w s ρ hsz hρ ha hf hh hn hrd,fun i hi=>?_⟩
  obtain⟨h1,o,ho,cg⟩:=mem_ready.1 hi
  have hlt:i<ops.size:=(Array.getElem?_eq_some_iff.1 ho).1
  have h1':listed.getD i false=false:=by
   rw[Array.getD_eq_getD_getElem?,Array.getElem?_eq_getElem (by rw[hsz];exact hlt)]at h1⊢
   exact h1
  have hol:ops.toList[i]?=some o:=by simpa using ho
  have hready:∀k,bM o k=true→listed.getD k false=true:=by
   intro k hk'
   simp only[bM,List.any_eq_true,XR]at hk'
   obtain⟨e,he,hb,hek⟩:=hk'
   have:=cg e (by simpa using he) hb
   rwa[XS hek]at this
  have hsees:∀t x v,o.op= .load t x→o.guard=none→rd s.tm [] x=some v→Nj s.hp v:=by
   intro t x v _ _ hv
   have hcv:=aC hf (rfl:aD s.tm []=true) hv
   cases v with
   |ptr k q=>
    obtain⟨l,hl,_⟩:=dE.1 hcv
    show k<s.hp.length
    rw[←hh.len]
    exact(List.getElem?_eq_some_iff.1 hl).1
   |pel k i wd q=>
    obtain⟨l,hl,hnl,_⟩:=eQ.1 hcv
    have hkl:k<s.hp.length:=by rw[←hh.len];exact(List.getElem?_eq_some_iff.1 hl).1
    refine⟨hkl,?_⟩
    obtain⟨l2,hl2,_⟩:=fj hh hl hnl
    rw[←hh.len]
    exact(List.getElem?_eq_some_iff.1 hl2).1
   |_=>trivial
  obtain⟨s',hst,ha'⟩:=ha.next hr hk (fun h=>by cases h) had hnp h0 hol (by rw[h1'];simp) hready hc hsees
  have hset:∀k,(listed.setIfInBounds i true).getD k false=true↔(listed.getD k false=true∨k=i):=by
   intro k
   by_cases e:k=i
   ·subst e
    rw[Array.getD_eq_getD_getElem?,Array.getElem?_setIfInBounds_self_of_lt (by rw[hsz];exact hlt)]
    simp
   ·rw[Array.getD_eq_getD_getElem?,Array.getElem?_setIfInBounds_ne (fun h=>e h.symm),←Array.getD_eq_getD_getElem?]
    simp[e]
  have ha'':AtG ops.toList s0 S (fun k=>(listed.setIfInBounds i true).getD k false=true) s':=by
   have:(fun k=>(listed.setIfInBounds i true).getD k false=true)=(fun k=>listed.getD k false=true∨k=i):=funext fun k=>propext (hset k)
   rw[this]
   exact ha'
  have fin:∀(a':Act) (w':World),(∃ρ',ρ<+:ρ'∧FR ρ' s'.tm a'∧HR w0 ρ' s'.hp w'∧(hasG=false→Px.aw s'.tm))→wpAnyIn (Wd rn) 0 P .any ops Q fuel (listed.setIfInBounds i true) a' w':=by
   rintro a' w' ⟨ρ',h1,h2,h3,h4⟩
   refine ih _ a' w' s' ρ' (by simpa using hsz) (by have:=jQ hsz hlt h1';omega) (hρ.trans h1) ha'' h2 h3 h4 (fun k p hkp hyk j hj=>?_)
   rw[hset]at hyk⊢
   rcases hyk with hyk|rfl
   ·exact .inl (hc k p hkp hyk j hj)
   ·rw[hol]at hkp
    simp only[XQ]at hkp
    subst hkp
    exact .inl (hready j hj)
  have hw:=yP (rn:=rn) (P:=P) (cfg:=cfg) (w0:=w0) hq hG hst hf hh hn (Q:=Q)
  unfold wpOpIn
  simp only[ho]
  split
  ·rename_i hwt
   rw[if_pos hwt]at hw
   exact Oper.wpIn_mono (fun a' w' h=>fin a' w' h) hw
  ·rename_i hwt
   rw[if_neg hwt]at hw
   exact⟨fun _ _=>trivial,fin _ _ hw⟩
theorem KC (hm:P.follows .mixedOrders=true) (hf0:¬φ fail) (hq:EOk P G cfg) (hnp:cfg.apn=false) (hG:G w0.w) {id:Nat} {ops:Array Oper} {s:St (X:=X)} {K:St (X:=X)→R} {ρ:List Loc} {a:Act} {w:World} {rn:Option Nat}
  (hk:Mr ops.toList s (reach ops.toList)=true) (h:φ (dC cfg fail (fun _ _ _ _=>fail) ops.toList s K)) (hf:FR ρ s.tm a) (hr:HR w0 ρ s.hp w) (hn:Px.aw s.tm):(Code.region id ops true).wpIn (Wd rn) 0 P (dM (Next w0 φ ρ false K)) a w:=by
 have hgk:=GK.of hk
 have had:zt cfg:=fun n con hc=>(hq.makes n con hc).2.2
 rw[jW]at h
 unfold jn at h
 refine wpIn_region_any hm ?_
 have none:∀k,¬(Array.replicate ops.size false).getD k false=true:=by
  intro k hy
  rw[Array.getD_eq_getD_getElem?]at hy
  by_cases hk:k<ops.size
  ·simp[hk]at hy
  ·simp[hk]at hy
 have e:(fun k=>(Array.replicate ops.size false).getD k false=true)=(fun _=>False):=by
  funext k
  exact propext ⟨fun h=>none k h,fun h=>h.elim⟩
 have hun:unl ops.size (Array.replicate ops.size false)≤ops.size:=by
  unfold unl
  exact Nat.le_trans (List.length_filter_le _ _) (by simp)
 split at h
 ·obtain⟨S,hS0,hS,hK⟩:=Ab (cfg:=cfg) hf0 ops.toList h
  have hrun:eE cfg ops.toList true s S:=⟨hS0,hS⟩
  refine CC hq hG hrun hgk had hnp hn (ρ0:=ρ) ?_ ops.size _ a _ s ρ (by simp) hun (List.prefix_refl _) ?_ hf (pg hr) (fun _=>hn) (fun k p _ hy=>absurd hy (none k))
  ·intro ρ' a' w' h1 h2 h3 _
   exact⟨{tm:=ec (S ops.size).tm,hp:=(S ops.size).hp},ρ',by simpa using hK,h1,h2.clear,h3,fun _=>fN _⟩
  ·rw[e]
   exact AtG.start hrun
 ·obtain⟨S,hS0,hS,hK⟩:=Ab (cfg:=cfg) hf0 ops.toList h
  have hrun:eE cfg ops.toList false s S:=⟨hS0,hS⟩
  refine CC hq hG hrun hgk had hnp hn (ρ0:=ρ) ?_ ops.size _ a _ s ρ (by simp) hun (List.prefix_refl _) ?_ hf (pg hr) (fun _=>hn) (fun k p _ hy=>absurd hy (none k))
  ·intro ρ' a' w' h1 h2 h3 h4
   exact⟨_,ρ',by simpa using hK,h1,h2,h3,h4⟩
  ·rw[e]
   exact AtG.start hrun
end
end Go.Proofs.YtfhepbbkggdlcaaGreatDoor.Px


namespace Go.Proofs.YtfhepbbkggdlcaaGreatDoor.Px
open Go Go.RowKit
section
variable [X:bQ] {P:Program} {G:World→Prop} {cfg:Cfg (X:=X)} {w0:cf} {R:Type} {fail:R} {φ:R→Prop}
omit X in
theorem Pg {F:Fence} {n:Nat} {o:Oper} {a:Act} {w:World} {K:Act→World→Prop} {Q:Exit→Act→World→Prop} (hh:o.wpIn F n P a w K Q):
  o.wpIn F n P a w (fun a' w'=>K a' w'∧∃x,a'.tmps=(a.put o.dst x).tmps) Q:=by
 unfold Oper.wpIn at*
 refine⟨hh.1,?_⟩
 have hh:=hh.2
 generalize (o.semAt F.round a.eval).run P w=r at*
 cases r with
 |ok x w'=>
  cases x<;>simp only[Oper.uponIn]at hh⊢ <;>
   first
    |exact⟨hh,_,rfl⟩
    |exact⟨hh,undef,by cases o.dst<;>rfl⟩
    |exact⟨hh.1,CallsIn.mono hh.2 (fun e w'' he=>by cases e<;>first|exact⟨he,_,rfl⟩|exact he)⟩
    |exact⟨hh.1,RowsIn.mono hh.2 (fun _ _ he=>⟨he,_,rfl⟩)⟩
    |exact⟨hh.1,RoundIn.mono hh.2 (fun e w'' he=>by cases e<;>first|exact⟨he,_,rfl⟩|exact he)⟩
 |halt x w'=>cases x<;>simp only[Oper.uponIn]at hh⊢ <;>exact hh
structure Wb (w0:cf) (zero:List AV) (t:TypeId) (n:Nat) (obj:Obj):Prop where
 ge:w0.w.heap.size≤n
 old:∀p∈w0.q,p.1≠n
 cells:∃ys,au [] zero=some ys∧ys.all Value.oneCell'=true∧obj= .cells ys.toArray t (0,0)
theorem HR.Wj {w:World} {ρ:List Loc} {hp:List (Blk (X:=X))} (h:HR w0 ρ hp w) (obj:Obj):HR ⟨w0.w,(w.heap.size,obj)::w0.q⟩ ρ hp (w.alloc obj):=by
 have h':=h.grow (jY w obj)
 refine⟨h'.len,h'.below,fun k b l hk hl=>?_,h'.marks,h'.sep,fun p hp'=>?_⟩
 ·have:=h'.blk k b l hk hl
  cases b<;>exact this
 ·rcases List.mem_cons.1 hp' with rfl|hp'
  ·refine⟨heap_alloc_new w obj,fun k b l hk hl ho hn=>?_⟩
   have:=(h.blk k b l hk hl).lt ho hn
   simp only
   omega
  ·exact h'.eD p hp'
theorem HR.land {w:World} {ρ:List Loc} {hp:List (Blk (X:=X))} {n:Nat} {obj:Obj} {zero:List AV} {t:TypeId} (h:HR ⟨w0.w,(n,obj)::w0.q⟩ ρ hp w) (ho:Wb w0 zero t n obj):
  HR w0 (ρ++[⟨n,0,0,false,none,false⟩]) (hp++[.raw zero]) w:=by
 have h1:HR w0 ρ hp w:=by
  refine⟨h.len,h.below,fun k b l hk hl=>?_,h.marks,h.sep,fun p hp'=>h.eD p (List.mem_cons_of_mem _ hp')⟩
  have:=h.blk k b l hk hl
  cases b<;>exact this
 obtain⟨p1,p2⟩:=h.eD _ (List.mem_cons_self ..)
 obtain⟨ys,y1,y2,rfl⟩:=ho.cells
 refine h1.put (fun _ _=>⟨fun j c lj hj hlj oc nc=>p2 j c lj hj hlj oc nc,ho.old⟩) ?_
 exact⟨rfl,rfl,ho.ge,ys,t,bk List.nil_prefix _ _ y1,y2,p1⟩
omit X in
theorem DK {α:Type} {p:α→Bool}:∀{l a b:List α},Ay p l=(a,b)→l=a++b∧∀x∈a,p x=true
 | [],_,_,h=>by
  simp only[Ay,Prod.mk.injEq]at h
  obtain⟨rfl,rfl⟩:=h
  simp
 |o::l,a,b,h=>by
  cases hp:p o with
  |false=>
   simp only[Ay,hp,XV,Prod.mk.injEq]at h
   obtain⟨rfl,rfl⟩:=h
   simp
  |true=>
   cases hs:Ay p l with
   |mk a' b'=>
    simp only[Ay,hp,XU,hs,Prod.mk.injEq]at h
    obtain⟨rfl,rfl⟩:=h
    obtain⟨h1,h2⟩:=DK hs
    refine⟨by rw[h1];rfl,fun x hx=>?_⟩
    rcases List.mem_cons.1 hx with rfl|hx
    ·exact hp
    ·exact h2 x hx
omit X in
theorem T7 {o:Oper} (h:TT o=true):∃t,o.op= .alloc t:=by
 unfold TT at h
 split at h
 ·rename_i t e;exact⟨t,e⟩
 ·cases h
def Hr (A:List Oper) (j:Nat):Prop:=∃p,A[j]?=some p∧aJ p.op=some 0∧p.guard=none
omit X in
theorem R9 {A:List Oper} {j:Nat} (h:Sk A j=true):Hr A j:=by
 unfold Sk at h
 rw[aG]at h
 split at h
 ·rename_i p hp
  simp only[XR]at h
  refine⟨p,hp,?_,?_⟩
  ·have:=h.2
   split at this
   ·assumption
   ·cases this
  ·have:=h.1
   unfold ung at this
   split at this
   ·assumption
   ·cases this
 ·cases h
omit X in
theorem JE {rs:List Nat} {A:List Oper}:∀{n:Nat} {T:List Oper},L8 rs A n T=true→∀k o,T[k]?=some o→(o.guard=none∧(aJ o.op=some 0∨aJ o.op=some 1∨aJ o.op=some 3))∧∀j,j<n+k→xJ rs (n+k) j=true∨Hr A j
 |n,[],_,k,o,h1=>by simp at h1
 |n,p::T,h,k,o,h1=>by
  simp only[L8,XR,List.all_eq_true,List.mem_range]at h
  obtain⟨⟨⟨u1,u2⟩,u3⟩,u4⟩:=h
  cases k with
  |zero=>
   simp only[List.getElem?_cons_zero,XQ]at h1
   subst h1
   refine⟨⟨?_,?_⟩,fun j hj=>?_⟩
   ·unfold ung at u1
    split at u1
    ·assumption
    ·cases u1
   ·split at u2
    ·exact .inl ‹_›
    ·exact .inr (.inl ‹_›)
    ·exact .inr (.inr ‹_›)
    ·cases u2
   ·have:=u3 j (by simpa using hj)
    rw[Bool.or_eq_true]at this
    rcases this with h|h
    ·exact .inl (by simpa using h)
    ·exact .inr (R9 h)
  |succ k=>
   have:=JE u4 k o (by simpa using h1)
   refine⟨this.1,fun j hj=>?_⟩
   rw[show n+(k+1)=n+1+k by omega]
   exact this.2 j (by omega)
structure IX (s0:St (X:=X)) (A:List Oper) (al:Oper) (t d:Nat):Prop where
 op:al.op= .alloc t
 dst:al.dst=some d
 ng:al.guard=none
 free:s0.tm[d]?=some .any
 nw:∀(k:Nat) (o:Oper),A[k]?=some o→o.dst≠some d
structure Shape (cfg:Cfg (X:=X)) (ops:Array Oper) (hasG:Bool) (s0:St (X:=X)) (S:Nat→St (X:=X)) (A B T:List Oper):Prop where
 eq:ops.toList=A++(B++T)
 als:∀(i:Nat) (al:Oper),B[i]?=some al→∃t d,IX s0 A al t d
 some_:0<B.length
 run:eE cfg ops.toList hasG s0 S
 Ho:eE cfg A hasG s0 S
 gk:GK false A s0
 back:∀(i:Nat) (o:Oper) (j:Nat),ops.toList[i]?=some o→bM o j=true→j<i
 lks:∀(i j:Nat) (o p:Oper) (u:Nat),ops.toList[i]?=some o→ops.toList[j]?=some p→i≠j→p.dst=some u→cL o u=true→Anc ops.toList i j
 KW:∀(i j:Nat) (o p:Oper) (u:Nat),ops.toList[i]?=some o→ops.toList[j]?=some p→i≠j→p.dst=some u→o.dst≠some u
 UH:∀(k:Nat) (o:Oper),A.length+B.length≤k→ops.toList[k]?=some o→o.guard=none∧(aJ o.op=some 0∨aJ o.op=some 1∨aJ o.op=some 3)
 tail:∀k,A.length+B.length≤k→k<ops.size→∀j,j<k→Anc ops.toList k j∨Hr A j
variable {ops:Array Oper} {hasG:Bool} {s0:St (X:=X)} {S:Nat→St (X:=X)} {A B T:List Oper} {al:Oper} {d t:Nat}
theorem BZ {wk:Bool} {A B:List Oper} {s0:St (X:=X)} (hk:GK wk A s0) {i:Nat} {o:Oper} (ho:A[i]?=some o) (tm:List Slot):gcs (A++B) o tm=gcs A o tm:=by
 unfold gcs
 cases hg:o.guard with
 |none=>rfl
 |some gp=>
  obtain⟨g,pol⟩:=gp
  have hlt:g<A.length:=by
   have:=hk.lt (hk.guard i o g pol ho hg)
   have:=(List.getElem?_eq_some_iff.1 ho).1
   omega
  simp only[aG,List.getElem?_append_left hlt]
theorem Shape.VQ (hx:Shape cfg ops hasG s0 S A B T) {i:Nat} {o:Oper} (ho:A[i]?=some o) (s:St (X:=X)):lL cfg ops.toList hasG o s=lL cfg A hasG o s:=by
 rw[dL,dL,hx.eq,BZ hx.gk ho]
theorem Shape.inA (hx:Shape cfg ops hasG s0 S A B T) {k:Nat} {o:Oper} (h:k<A.length) (ho:ops.toList[k]?=some o):A[k]?=some o:=by
 rw[hx.eq,List.getElem?_append_left h]at ho
 exact ho
theorem Shape.inB (hx:Shape cfg ops hasG s0 S A B T) {i:Nat} {al:Oper} (h:B[i]?=some al):ops.toList[A.length+i]?=some al:=by
 rw[hx.eq,List.getElem?_append_right (by omega),Nat.add_sub_cancel_left,List.getElem?_append_left (List.getElem?_eq_some_iff.1 h).1]
 exact h
theorem Shape.atB (hx:Shape cfg ops hasG s0 S A B T) {k:Nat} {o:Oper} (h1:A.length≤k) (h2:k<A.length+B.length) (ho:ops.toList[k]?=some o):B[k-A.length]?=some o:=by
 rw[hx.eq,List.getElem?_append_right h1,List.getElem?_append_left (by omega)]at ho
 exact ho
theorem Shape.size (hx:Shape cfg ops hasG s0 S A B T):ops.size=A.length+B.length+T.length:=by
 have:=congrArg List.length hx.eq
 simp at this
 omega
theorem Shape.VR (hx:Shape cfg ops hasG s0 S A B T) (hal:IX s0 A al t d) (h0:Px.aw s0.tm) {Y:Nat→Prop} {s:St (X:=X)} (ha:AtG A s0 S Y s):∀(i:Nat) (cs:List (Nat×Bool)) (v:AV),s.tm[i]?=some (.opt cs v)→∀c∈cs,d≠c.1:=by
 intro u cs v ht c hcm e
 by_cases hw:∃(j:Nat) (p:Oper),A[j]?=some p∧Y j∧p.dst=some u
 ·obtain⟨j,p,hj,hy,hdj⟩:=hw
  rw[ha.done j u p hj hy hdj]at ht
  obtain⟨csj,e1,e2⟩:=hx.Ho.slot hj hdj ht
  have:=sY e2
  subst this
  obtain⟨g,og,a1,a2,a3⟩:=hx.Ho.conds hx.gk j p _ hj e1 c hcm
  exact hal.nw g og a2 (by rw[a3,e])
 ·rw[ha.rest u (fun k p hkp hy e=>hw ⟨k,p,hkp,hy,e⟩)]at ht
  have:=h0 u _ ht
  simp[Slot.ob]at this
theorem Shape.any (hx:Shape cfg ops hasG s0 S A B T) (hal:IX s0 A al t d) {Y:Nat→Prop} {s:St (X:=X)} (ha:AtG A s0 S Y s):s.tm[d]?=some .any:=by
 rw[ha.rest d (fun k o hk _=>hal.nw k o hk),hal.free]
theorem Shape.new (hx:Shape cfg ops hasG s0 S A B T) (hnp:cfg.apn=false) {j:Nat} (hB:B[j]?=some al) (hal:IX s0 A al t d):∃i,look cfg.ti t=some i∧i.var≠[]∧
  S (A.length+j+1)={tm:=(S (A.length+j)).tm.set d (.is (.ptr (S (A.length+j)).hp.length 0)),hp:=(S (A.length+j)).hp++[.raw i.var]}∧(hasG=true→eC d (S (A.length+j)).tm=true):=by
 obtain⟨cs,sl,h1,h2,h3,h4⟩:=hx.run.at (hx.inB hB)
 unfold core at h2
 rw[hal.ng,hal.op]at h2
 simp only[runCore,aB,a8]at h2
 split at h2
 ·rename_i ok v h hh
  split at hh
  ·rename_i i hi
   split at hh
   ·cases hb:i.var.isEmpty with
    |true=>rw[hb]at hh;cases hh
    |false=>
     rw[hb,XV]at hh
     simp only[List.isEmpty_eq_false_iff]at hb
     simp only[XQ,Prod.mk.injEq]at hh
     obtain⟨rfl,rfl,rfl⟩:=hh
     simp only[XU,XQ,Prod.mk.injEq]at h2
     obtain⟨rfl,h2⟩:=h2
     refine⟨i,hi,hb,?_,fun hg=>?_⟩
     ·rw[hal.dst]at h3
      simp only[fh,aR]at h3
      cases hS:S (A.length+j+1)with
      |mk tm hp=>
       rw[hS]at h2 h3
       simp only at h2 h3
       rw[h2,h3]
     ·have:=(h4 d hal.dst).1 hg
      simpa[eC]using this
   ·rw[hnp,Bool.false_and,XV]at hh
    cases hh
  ·cases hh
 ·rename_i ok h hh
  split at hh
  ·rename_i i hi
   split at hh
   ·cases hb:i.var.isEmpty with
    |true=>rw[hb]at hh;cases hh
    |false=>rw[hb,XV]at hh;simp at hh
   ·rw[hnp,Bool.false_and,XV]at hh
    cases hh
  ·cases hh
 ·cases h2
structure At3 (ops:Array Oper) (s0:St (X:=X)) (S:Nat→St (X:=X)) (m:Nat) (Y:Nat→Prop) (s:St (X:=X)):Prop where
 len:s.tm.length=s0.tm.length
 done:∀(k u:Nat) (o:Oper),ops.toList[k]?=some o→Y k→o.dst=some u→s.tm[u]?=(S (k+1)).tm[u]?
 rest:∀u,(∀(k:Nat) (o:Oper),ops.toList[k]?=some o→Y k→o.dst≠some u)→s.tm[u]?=s0.tm[u]?
 heap:s.hp=(S m).hp
theorem At3.all (hx:Shape cfg ops hasG s0 S A B T) {Y:Nat→Prop} {s:St (X:=X)} (ha:At3 ops s0 S ops.size Y s) (cg:∀k,k<ops.size→Y k):s=S ops.size:=by
 have h2:s.tm=(S ops.size).tm:=by
  apply List.ext_getElem?
  intro u
  by_cases hw:∃(k:Nat) (o:Oper),ops.toList[k]?=some o∧o.dst=some u
  ·obtain⟨k,o,ho,hd⟩:=hw
   have hlt:k<ops.size:=by have:=(List.getElem?_eq_some_iff.1 ho).1;simpa using this
   rw[ha.done k u o ho (cg k hlt) hd]
   exact(hx.run.uc ops.size (i:=k+1) hlt (by simp) (fun k' o' h1 h2 h3 e=>hx.KW k' k o' o u h3 ho (by omega) hd e)).symm
  ·rw[ha.rest u (fun k o ho _ e=>hw ⟨k,o,ho,e⟩),hx.run.e7 (by simp) (fun k o _ ho e=>hw ⟨k,o,ho,e⟩)]
 have h1:=ha.heap
 cases s
 cases hS:S ops.size
 rw[hS]at h1 h2
 simp only at h1 h2
 rw[h1,h2]
theorem At3.next (hx:Shape cfg ops hasG s0 S A B T) (h0:Px.aw s0.tm) {m:Nat} {Y:Nat→Prop} {s:St (X:=X)} (ha:At3 ops s0 S m Y s) {i:Nat} {o:Oper} (ho:ops.toList[i]?=some o) (hY:¬Y i)
  (hready:∀k,bM o k=true→Y k) (hclosed:∀(k:Nat) (p:Oper),ops.toList[k]?=some p→Y k→∀j,bM p j=true→Y j) (hng:o.guard=none) (hk:aJ o.op=some 0∨(i=m∧(aJ o.op=some 1∨aJ o.op=some 3))) {m':Nat} (hm':(S m').hp=if i=m then(S (m+1)).hp else(S m).hp):
  ∃s',lL cfg ops.toList hasG o s=some s'∧At3 ops s0 S m' (fun k=>Y k∨k=i) s':=by
 have hlt:i<ops.toList.length:=(List.getElem?_eq_some_iff.1 ho).1
 have hanc:∀j,Anc ops.toList i j→Y j:=fun j hj=>hj.done hclosed (fun o' ho' k hk'=>by rw[ho]at ho';simp only[XQ]at ho';subst ho';exact hready k hk')
 have hag:su o (S i).tm s.tm:=by
  intro u hu
  by_cases hw:∃(j:Nat) (p:Oper),ops.toList[j]?=some p∧j≠i∧p.dst=some u
  ·obtain⟨j,p,hj,hne,hd⟩:=hw
   have hij:=hx.lks i j o p u ho hj (fun e=>hne e.symm) hd hu
   have hlt':j<i:=by
    clear hready
    have:∀{a b:Nat},Anc ops.toList a b→b<a:=by
     intro a b h
     induction h with
     |edge h he=>exact hx.back _ _ _ h he
     |step h he _ ih=>have:=hx.back _ _ _ h he;omega
    exact this hij
   rw[ha.done j u p hj (hanc j hij) hd]
   exact(hx.run.uc i (i:=j+1) hlt' (by omega) (fun k' o' h1 h2 h3 e=>hx.KW k' j o' p u h3 hj (by omega) hd e)).symm
  ·have hno:∀(k:Nat) (p:Oper),ops.toList[k]?=some p→k≠i→p.dst≠some u:=fun k p hkp hne e=>hw ⟨k,p,hkp,hne,e⟩
   rw[ha.rest u (fun k p hkp hy=>hno k p hkp (fun e=>hY (e▸hy))),hx.run.e7 (by omega) (fun k p hki hkp=>hno k p hkp (by omega))]
 obtain⟨cs,sl,hg,hc,htm,hput⟩:=hx.run.at ho
 have hcs:cs=[]:=by
  unfold gcs at hg
  rw[hng]at hg
  simp only[XQ]at hg
  exact hg.symm
 subst hcs
 have hg':gcs ops.toList o s.tm=some []:=by
  unfold gcs
  rw[hng]
 have hcore:core cfg o [] s.hp s.tm=some (sl,(S m').hp):=by
  rw[hm']
  rcases hk with h0'|⟨rfl,h1|h3⟩
  ·obtain⟨e1,e2⟩:=mf (hp':=s.hp) hag (fun _ hc=>by cases hc) (fun _=> .inl h0') (.inl h0') hc
   rw[e2]
   split
   ·rename_i e
    subst e
    rw[e1,ha.heap]
   ·rw[ha.heap]
  ·obtain⟨e1,e2⟩:=mf (hp':=s.hp) hag (fun _ hc=>by cases hc) (fun _=> .inr (.inl ha.heap)) (.inr (.inl h1)) hc
   rw[e2,if_pos rfl,e1,ha.heap]
  ·rw[if_pos rfl,ha.heap]
   rw[←hc]
   have e1:aB cfg (S i).hp s.tm [] o.op=none:=pd h3
   have e2:aB cfg (S i).hp (S i).tm [] o.op=none:=pd h3
   have e3:=rY (cfg:=cfg) (hp:=(S i).hp) hag h3
   have e4:∀tm,a8 (ld cfg) (S i).hp tm [] o.op=a8 cfg (S i).hp tm [] o.op:=by
    intro tm
    cases hop:o.op<;>rw[hop]at h3<;>simp[aJ]at h3
    rfl
   rw[e4,e4]at e3
   unfold core
   rw[hng]
   simp only[runCore,e1,e2]
   cases hop:o.op<;>rw[hop]at h3<;>simp[aJ]at h3
   rw[hop]at e3
   simp only[e3]
 -- nobody's condition is written anew
 have hslo:∀cs v,sl≠ .opt cs v:=by
  intro cs v e
  subst e
  unfold core at hc
  rw[hng]at hc
  exact nh hc
 have hok:∀d,o.dst=some d→(hasG=true→eC d (sl::s.tm)=true)∧(hasG=false→∀cs v,sl≠ .opt cs v):=by
  intro d' hd
  refine⟨fun hG=>Cr fun u cs' v ht c hcm e=>?_,fun _=>hslo⟩
  cases u with
  |zero=>
   simp only[List.getElem?_cons_zero,XQ]at ht
   exact hslo _ _ ht
  |succ u=>
   simp only[List.getElem?_cons_succ]at ht
   by_cases hw:∃(j:Nat) (p:Oper),ops.toList[j]?=some p∧Y j∧p.dst=some u
   ·obtain⟨j,p,hj,hy,hdj⟩:=hw
    rw[ha.done j u p hj hy hdj]at ht
    obtain⟨csj,e1,e2⟩:=hx.run.slot hj hdj ht
    have:=sY e2
    subst this
    have hjA:j<A.length:=by
     apply Classical.byContradiction
     intro hge
     have hpn:p.guard=none:=by
      rcases Nat.lt_or_ge j (A.length+B.length)with hjn|hjn
      ·obtain⟨t,d,hal⟩:=hx.als _ p (hx.atB (by omega) hjn hj)
       exact hal.ng
      ·exact(hx.UH j p hjn hj).1
     unfold gcs at e1
     rw[hpn]at e1
     simp only[XQ]at e1
     subst e1
     cases hcm
    have hjA':A[j]?=some p:=by rw[hx.eq,List.getElem?_append_left hjA]at hj;exact hj
    rw[hx.eq,BZ hx.gk hjA']at e1
    obtain⟨g,og,a1,a2,a3⟩:=hx.Ho.conds hx.gk j p _ hjA' e1 c hcm
    have hgl:g<A.length:=(List.getElem?_eq_some_iff.1 a2).1
    have a2':ops.toList[g]?=some og:=by rw[hx.eq,List.getElem?_append_left hgl];exact a2
    have:g=i:=by
     apply Classical.byContradiction
     intro hne
     exact hx.KW i g o og d' ho a2' (fun e=>hne e.symm) (by rw[a3,e]) hd
    subst this
    refine hY (a1.done (Y:=Y) (fun k q hkq hyk=>hclosed k q (by rw[hx.eq,List.getElem?_append_left (List.getElem?_eq_some_iff.1 hkq).1];exact hkq) hyk) (fun o' ho' k hk'=>?_))
    rw[hjA']at ho'
    simp only[XQ]at ho'
    subst ho'
    exact hclosed j p hj hy k hk'
   ·rw[ha.rest u (fun k p hkp hy e=>hw ⟨k,p,hkp,hy,e⟩)]at ht
    have:=h0 u _ ht
    simp[Slot.ob]at this
 refine⟨{(fh s o.dst sl)with hp:=(S m').hp},?_,?_⟩
 ·rw[dL,hg']
  simp only[hcore,SU]
  rw[Mq (s:={tm:=s.tm,hp:=(S m').hp}) hok]
  unfold fh
  cases o.dst<;>rfl
 ·cases hd:o.dst with
  |none=>
   simp only[fh]
   refine⟨ha.len,fun k u p hkp hy hdp=>?_,fun u hno=>?_,rfl⟩
   ·rcases hy with hy|rfl
    ·exact ha.done k u p hkp hy hdp
    ·rw[ho]at hkp;simp only[XQ]at hkp;subst hkp;rw[hd]at hdp;cases hdp
   ·exact ha.rest u (fun k p hkp hy=>hno k p hkp (.inl hy))
  |some d'=>
   rw[hd]at htm
   simp only[fh,aR]at htm⊢
   refine⟨by simpa using ha.len,fun k u p hkp hy hdp=>?_,fun u hno=>?_,rfl⟩
   ·by_cases e:u=d'
    ·subst e
     have hki:k=i:=by
      apply Classical.byContradiction
      intro hne
      exact hx.KW i k o p u ho hkp (fun e=>hne e.symm) hdp hd
     subst hki
     rw[htm]
     by_cases hl:u<s.tm.length
     ·rw[List.getElem?_set_self hl,List.getElem?_set_self (by rw[hx.run.len k (by omega),←ha.len];exact hl)]
     ·have hl2:¬u<(S k).tm.length:=by rw[hx.run.len k (Nat.le_of_lt hlt),←ha.len];exact hl
      rw[List.getElem?_eq_none (by rw[List.length_set];exact Nat.le_of_not_lt hl),List.getElem?_eq_none (by rw[List.length_set];exact Nat.le_of_not_lt hl2)]
    ·rw[List.getElem?_set_ne (fun h=>e h.symm)]
     rcases hy with hy|rfl
     ·exact ha.done k u p hkp hy hdp
     ·rw[ho]at hkp
      simp only[XQ]at hkp
      subst hkp
      rw[hd]at hdp
      simp only[XQ]at hdp
      exact absurd hdp.symm e
   ·have hne:u≠d':=fun e=>hno i o ho (.inr rfl) (by rw[hd,e])
    rw[List.getElem?_set_ne (fun h=>hne h.symm)]
    exact ha.rest u (fun k p hkp hy=>hno k p hkp (.inl hy))
def CR (w0:cf) (cfg:Cfg (X:=X)) (al:Oper) (a:Act) (p:Nat×Obj):Prop:=
 ∃t d i,al.op= .alloc t∧al.dst=some d∧look cfg.ti t=some i∧a.tmps.getD d undef= .pointer (some ⟨p.1,0,none⟩)∧Wb w0 i.var t p.1 p.2
inductive N0 (w0:cf) (cfg:Cfg (X:=X)) (ops:Array Oper) (hasG:Bool) (s0:St (X:=X)) (S:Nat→St (X:=X)) (A B:List Oper) (ρ0:List Loc) (listed:Array Bool) (a:Act) (w:World):Prop
 |two (hl:∀k,A.length+B.length≤k→listed.getD k false=false) (s:St (X:=X)) (ρ:List Loc) (z:Nat→Nat×Obj) (q:List (Nat×Obj)) (h1:ρ0<+:ρ) (ha:AtG A s0 S (fun k=>listed.getD k false=true) s)
   (hf:FR ρ s.tm a) (hh:HR ⟨w0.w,q⟩ ρ s.hp w) (hn:hasG=false→Px.aw s.tm) (hq0:∀p∈w0.q,p∈q)
   (hz:∀i al,B[i]?=some al→listed.getD (A.length+i) false=true→z i∈q∧CR w0 cfg al a (z i))
   (hd:∀i j,i<B.length→j<B.length→listed.getD (A.length+i) false=true→listed.getD (A.length+j) false=true→i≠j→(z i).1≠(z j).1)
 |three (m:Nat) (hm:A.length+B.length≤m) (hm2:m≤ops.size) (hlT:∀k,A.length≤k→k<ops.size→(listed.getD k false=true↔k<m)) (hlA:∀k,k<A.length→listed.getD k false=true∨Hr A k) (s:St (X:=X)) (ρ:List Loc) (h1:ρ0<+:ρ)
   (ha:At3 ops s0 S m (fun k=>listed.getD k false=true) s) (hf:FR ρ s.tm a) (hh:HR w0 ρ s.hp w) (hn:hasG=false→Px.aw s.tm)
theorem HR.VM {w:World} {ρ:List Loc} {hp:List (Blk (X:=X))} {q q':List (Nat×Obj)} (h:HR ⟨w0.w,q⟩ ρ hp w) (hs:∀p∈q',p∈q):HR ⟨w0.w,q'⟩ ρ hp w:=by
 refine⟨h.len,h.below,fun k b l hk hl=>?_,h.marks,h.sep,fun p hp'=>h.eD p (hs p hp')⟩
 have:=h.blk k b l hk hl
 cases b<;>exact this
theorem Shape.V0 (hx:Shape cfg ops hasG s0 S A B T) (hnp:cfg.apn=false) (h0:Px.aw s0.tm) {j:Nat} (hB:B[j]?=some al) {Y:Nat→Prop} (hY:∀k,A.length+j≤k→¬Y k) {s:St (X:=X)} {ρ:List Loc} {a:Act} {w:World} {p:Nat×Obj} {q:List (Nat×Obj)}
  (ha:At3 ops s0 S (A.length+j) Y s) (hf:FR ρ s.tm a) (hh:HR ⟨w0.w,p::q⟩ ρ s.hp w) (hn:hasG=false→Px.aw s.tm) (hst:CR ⟨w0.w,q⟩ cfg al a p):
  ∃s' ρ',ρ<+:ρ'∧At3 ops s0 S (A.length+j+1) (fun k=>Y k∨k=A.length+j) s'∧FR ρ' s'.tm a∧HR ⟨w0.w,q⟩ ρ' s'.hp w∧(hasG=false→Px.aw s'.tm):=by
 obtain⟨t,d,i,e1,e2,e3,hp,ho⟩:=hst
 obtain⟨t',d',hal⟩:=hx.als j al hB
 have et:t'=t:=by have:=hal.op;rw[e1]at this;cases this;rfl
 have ed:d'=d:=by have:=hal.dst;rw[e2]at this;cases this;rfl
 subst et ed
 obtain⟨i',f1,f2,hS,f5⟩:=hx.new hnp hB hal
 rw[e3]at f1
 simp only[XQ]at f1
 subst f1
 obtain⟨n,obj⟩:=p
 have hany:s.tm[d']?=some .any:=by
  rw[ha.rest d' (fun k o hk hy=>?_),hal.free]
  have hkj:k<A.length+j:=Nat.lt_of_not_ge fun h=>hY k h hy
  exact hx.KW k (A.length+j) o al d' hk (hx.inB hB) (by omega) hal.dst
 have hdl:d'<s.tm.length:=(List.getElem?_eq_some_iff.1 hany).1
 have hunm:∀(i:Nat) (cs:List (Nat×Bool)) (v:AV),s.tm[i]?=some (.opt cs v)→∀c∈cs,d'≠c.1:=by
  intro u cs v ht c hcm e
  by_cases hw:∃(j:Nat) (p:Oper),ops.toList[j]?=some p∧Y j∧p.dst=some u
  ·obtain⟨k,p,hk,hy,hdk⟩:=hw
   have hkj:k<A.length+j:=Nat.lt_of_not_ge fun h=>hY k h hy
   rw[ha.done k u p hk hy hdk]at ht
   rcases Nat.lt_or_ge k A.length with hkA|hkA
   ·have hkA':=hx.inA hkA hk
    obtain⟨csj,g1,g2⟩:=hx.Ho.slot hkA' hdk ht
    have:=sY g2
    subst this
    obtain⟨g,og,a1,a2,a3⟩:=hx.Ho.conds hx.gk k p _ hkA' g1 c hcm
    exact hal.nw g og a2 (by rw[a3,e])
   ·have hkl:=(List.getElem?_eq_some_iff.1 hB).1
    have hkB:=hx.atB hkA (by omega) hk
    obtain⟨t2,d2,hal2⟩:=hx.als _ p hkB
    obtain⟨i2,_,_,hS2,_⟩:=hx.new hnp hkB hal2
    rw[show A.length+(k-A.length)=k by omega]at hS2
    rw[hS2]at ht
    rw[hal2.dst]at hdk
    simp only[XQ]at hdk
    subst hdk
    by_cases hl:d2<(S k).tm.length
    ·simp only at ht
     rw[List.getElem?_set_self hl]at ht
     cases ht
    ·rw[List.getElem?_eq_none (by simpa using hl)]at ht
     cases ht
  ·rw[ha.rest u (fun k p hkp hy e=>hw ⟨k,p,hkp,hy,e⟩)]at ht
   have:=h0 u _ ht
   simp[Slot.ob]at this
 have hpre:ρ<+:ρ++[⟨n,0,0,false,none,false⟩]:=List.prefix_append _ _
 have hjs:A.length+j≤ops.toList.length:=by
  have:=(List.getElem?_eq_some_iff.1 (hx.inB hB)).1
  omega
 have hlenS:(S (A.length+j)).tm.length=s.tm.length:=by rw[hx.run.len (A.length+j) hjs,ha.len]
 refine⟨{tm:=s.tm.set d' (.is (.ptr s.hp.length 0)),hp:=s.hp++[.raw i.var]},_,hpre,?_,?_,HR.land (w0:=⟨w0.w,q⟩) hh ho,fun hg=>mm (hn hg) rfl⟩
 ·refine⟨by simpa using ha.len,fun k u o hk hy hdu=>?_,fun u hno=>?_,by rw[hS,ha.heap]⟩
  ·by_cases hkj:k=A.length+j
   ·subst hkj
    have:=hx.inB hB
    rw[hk]at this
    simp only[XQ]at this
    subst this
    rw[hal.dst]at hdu
    simp only[XQ]at hdu
    subst hdu
    rw[hS,List.getElem?_set_self hdl,List.getElem?_set_self (by rw[hlenS];exact hdl),ha.heap]
   ·have hne:d'≠u:=fun e=>hx.KW k (A.length+j) o al d' hk (hx.inB hB) hkj hal.dst (by rw[hdu,e])
    rw[List.getElem?_set_ne hne]
    exact ha.done k u o hk (hy.resolve_right hkj) hdu
  ·have hne:d'≠u:=fun e=>hno (A.length+j) al (hx.inB hB) (.inr rfl) (by rw[hal.dst,e])
   rw[List.getElem?_set_ne hne]
   exact ha.rest u (fun k o hk hy=>hno k o hk (.inl hy))
 have hlast:(ρ++[(⟨n,0,0,false,none,false⟩:Loc)])[s.hp.length]?=some ⟨n,0,0,false,none,false⟩:=by
  rw[←hh.len,List.getElem?_append_right (Nat.le_refl _),Nat.sub_self];rfl
 have hfp:=(hf.mono hpre).put (d:=d') (s:= .is (.ptr s.hp.length 0)) (x:= .pointer (some ⟨n,0,none⟩)) hunm (dE.2 ⟨_,hlast,rfl,rfl⟩)
 have ea:a.put (some d') (.pointer (some ⟨n,0,none⟩))=a:=by
  have:a.tmps.setIfInBounds d' (.pointer (some ⟨n,0,none⟩))=a.tmps:=by
   apply Array.ext_getElem?
   intro j
   by_cases ej:d'=j
   ·subst ej
    by_cases hd:d'<a.tmps.size
    ·rw[Array.getElem?_setIfInBounds_self_of_lt hd,←hp,Array.getD_eq_getD_getElem?,Array.getElem?_eq_getElem hd]
     rfl
    ·rw[Array.getElem?_eq_none (by simpa using hd),Array.getElem?_eq_none (by simpa using hd)]
   ·rw[Array.getElem?_setIfInBounds_ne ej]
  unfold Act.put
  simp only[this]
 rw[ea]at hfp
 exact hfp
theorem Shape.Tv (hx:Shape cfg ops hasG s0 S A B T) (hnp:cfg.apn=false) (h0:Px.aw s0.tm) {z:Nat→Nat×Obj} {a:Act} {w:World}
  (hz:∀i al,B[i]?=some al→CR w0 cfg al a (z i)) (hd:∀i j,i<B.length→j<B.length→i≠j→(z i).1≠(z j).1):
  ∀(c j:Nat) (Y:Nat→Prop) (s:St (X:=X)) (ρ:List Loc),j+c=B.length→(∀k,A.length+j≤k→¬Y k)→At3 ops s0 S (A.length+j) Y s→FR ρ s.tm a→HR ⟨w0.w,(List.range' j c).map z++w0.q⟩ ρ s.hp w→(hasG=false→Px.aw s.tm)→
  ∃s' ρ',ρ<+:ρ'∧At3 ops s0 S (A.length+B.length) (fun k=>Y k∨(A.length+j≤k∧k<A.length+B.length)) s'∧FR ρ' s'.tm a∧HR w0 ρ' s'.hp w∧(hasG=false→Px.aw s'.tm):=by
 intro c
 induction c with
 |zero=>
  intro j Y s ρ hj hY ha hf hh hn
  have:j=B.length:=by omega
  subst this
  have e:(fun k=>Y k∨(A.length+B.length≤k∧k<A.length+B.length))=Y:=by
   funext k
   refine propext ⟨fun h=>h.resolve_right (by omega), .inl⟩
  exact⟨s,ρ,List.prefix_refl _,by rw[e];exact ha,hf,by simpa using hh,hn⟩
 |succ c ih=>
  intro j Y s ρ hj hY ha hf hh hn
  have hjl:j<B.length:=by omega
  have hB:=List.getElem?_eq_getElem hjl
  rw[List.range'_succ,List.map_cons,List.cons_append]at hh
  obtain⟨t,d,i,e1,e2,e3,e4,e5⟩:=hz j _ hB
  have hst:CR ⟨w0.w,(List.range' (j+1) c).map z++w0.q⟩ cfg B[j] a (z j):=by
   refine⟨t,d,i,e1,e2,e3,e4,e5.ge,fun p hp=>?_,e5.cells⟩
   rcases List.mem_append.1 hp with hp|hp
   ·obtain⟨k,hk,rfl⟩:=List.mem_map.1 hp
    rw[List.mem_range'_1]at hk
    exact hd k j (by omega) hjl (by omega)
   ·exact e5.old p hp
  obtain⟨s1,ρ1,g1,g2,g3,g4,g5⟩:=hx.V0 hnp h0 hB hY ha hf hh hn hst
  obtain⟨s2,ρ2,k1,k2,k3,k4,k5⟩:=ih (j+1) _ s1 ρ1 (by omega) (fun k hk hy=>by rcases hy with hy|hy;exact hY k (by omega) hy;omega) g2 g3 g4 g5
  refine⟨s2,ρ2,g1.trans k1,?_,k3,k4,k5⟩
  have e:(fun k=>(Y k∨k=A.length+j)∨(A.length+(j+1)≤k∧k<A.length+B.length))=(fun k=>Y k∨(A.length+j≤k∧k<A.length+B.length)):=by
   funext k
   refine propext ⟨fun h=>?_,fun h=>?_⟩
   ·rcases h with(h|h)|h
    ·exact .inl h
    ·exact .inr (by omega)
    ·exact .inr (by omega)
   ·rcases h with h|h
    ·exact .inl (.inl h)
    ·by_cases e:k=A.length+j
     ·exact .inl (.inr e)
     ·exact .inr (by omega)
  rw[←e]
  exact k2
theorem N0.land (hx:Shape cfg ops hasG s0 S A B T) (hnp:cfg.apn=false) (h0:Px.aw s0.tm) {ρ0:List Loc} {listed:Array Bool} {a:Act} {w:World}
  (hlA:∀k,k<A.length→listed.getD k false=true∨Hr A k) (hl1:∀k,A.length≤k→k<A.length+B.length→listed.getD k false=true) (hl:∀k,A.length+B.length≤k→listed.getD k false=false)
  {s:St (X:=X)} {ρ:List Loc} {z:Nat→Nat×Obj} {q:List (Nat×Obj)} (h1:ρ0<+:ρ) (ha:AtG A s0 S (fun k=>listed.getD k false=true) s)
   (hf:FR ρ s.tm a) (hh:HR ⟨w0.w,q⟩ ρ s.hp w) (hn:hasG=false→Px.aw s.tm) (hq0:∀p∈w0.q,p∈q)
   (hz:∀i al,B[i]?=some al→listed.getD (A.length+i) false=true→z i∈q∧CR w0 cfg al a (z i))
   (hd:∀i j,i<B.length→j<B.length→listed.getD (A.length+i) false=true→listed.getD (A.length+j) false=true→i≠j→(z i).1≠(z j).1):
  ∃s' ρ',ρ0<+:ρ'∧At3 ops s0 S (A.length+B.length) (fun k=>listed.getD k false=true) s'∧FR ρ' s'.tm a∧HR w0 ρ' s'.hp w∧(hasG=false→Px.aw s'.tm):=by
 have hhp:s.hp=(S A.length).hp:=by
  obtain⟨m,hm,hhp,hst⟩:=ha.heap
  rw[hhp]
  refine(hx.Ho.cn hnp hx.gk A.length hm (Nat.le_refl _) (fun k p h1 h2 h3=>?_)).symm
  cases hp':fK p with
  |false=>rfl
  |true=>
   rcases hlA k h2 with hy|⟨q,e1,e2,_⟩
   ·have:=(hst k p h3 hp').1 hy;omega
   ·rw[h3]at e1
    simp only[XQ]at e1
    subst e1
    have:=(tv.1 hp').1
    rw[PT e2]at this
    cases this
 have ha3:At3 ops s0 S (A.length+0) (fun k=>listed.getD k false=true∧k<A.length) s:=by
  refine⟨ha.len,fun k u o hk hy hdu=>ha.done k u o (hx.inA hy.2 hk) hy.1 hdu,fun u hno=>ha.rest u (fun k o hk hy=>?_),hhp⟩
  have hkl:=(List.getElem?_eq_some_iff.1 hk).1
  exact hno k o (by rw[hx.eq,List.getElem?_append_left hkl];exact hk) ⟨hy,hkl⟩
 have hin:∀i,i<B.length→listed.getD (A.length+i) false=true:=fun i hi=>hl1 _ (by omega) (by omega)
 have hh':HR ⟨w0.w,(List.range' 0 B.length).map z++w0.q⟩ ρ s.hp w:=hh.VM fun p hp=>by
  rcases List.mem_append.1 hp with hp|hp
  ·obtain⟨k,hk,rfl⟩:=List.mem_map.1 hp
   rw[List.mem_range'_1]at hk
   exact(hz k _ (List.getElem?_eq_getElem (by omega)) (hin k (by omega))).1
  ·exact hq0 p hp
 obtain⟨s',ρ',k1,k2,k3,k4,k5⟩:=hx.Tv hnp h0 (fun i al hB=>(hz i al hB (hin i (List.getElem?_eq_some_iff.1 hB).1)).2) (fun i j hi hj=>hd i j hi hj (hin i hi) (hin j hj)) B.length 0 _ s ρ (by omega) (fun k hk hy=>by omega) ha3 hf hh' hn
 refine⟨s',ρ',h1.trans k1,?_,k3,k4,k5⟩
 have e:(fun k=>(listed.getD k false=true∧k<A.length)∨(A.length+0≤k∧k<A.length+B.length))=(fun k=>listed.getD k false=true):=by
  funext k
  refine propext ⟨fun h=>?_,fun h=>?_⟩
  ·rcases h with h|h
   ·exact h.1
   ·exact hl1 k (by omega) h.2
  ·by_cases hk:k<A.length
   ·exact .inl ⟨h,hk⟩
   ·refine .inr ⟨by omega,Nat.lt_of_not_ge fun hge=>?_⟩
    rw[hl k hge]at h
    cases h
 rw[←e]
 exact k2
end
end Go.Proofs.YtfhepbbkggdlcaaGreatDoor.Px


namespace Go.Proofs.YtfhepbbkggdlcaaGreatDoor.Px
open Go Go.RowKit
section
variable [X:bQ] {P:Program} {G:World→Prop} {cfg:Cfg (X:=X)} {w0:cf} {R:Type} {fail:R} {φ:R→Prop}
variable {ops:Array Oper} {hasG:Bool} {s0:St (X:=X)} {S:Nat→St (X:=X)} {A B T:List Oper} {al:Oper} {d t:Nat}
omit X in
theorem CA {a:Act} {o:Option Nat} {x:Value} {d:Nat} (h:o≠some d):(a.put o x).tmps.getD d undef=a.tmps.getD d undef:=by
 cases o with
 |none=>rfl
 |some e=>
  have:e≠d:=fun h'=>h (by rw[h'])
  simp only[Act.put]
  rw[Array.getD_eq_getD_getElem?,Array.getElem?_setIfInBounds_ne this,←Array.getD_eq_getD_getElem?]
theorem Shape.one (hq:EOk P G cfg) {W:cf} (hG:G W.w) (hx:Shape cfg ops hasG s0 S A B T) (had:zt cfg) (hnp:cfg.apn=false) (h0:Px.aw s0.tm) {rn:Option Nat} {Q:Exit→Act→World→Prop} {Y:Nat→Prop} {s:St (X:=X)} {ρ:List Loc} {a:Act} {w:World}
  (ha:AtG A s0 S Y s) (hf:FR ρ s.tm a) (hh:HR W ρ s.hp w) (hn:hasG=false→Px.aw s.tm) {i:Nat} {o:Oper} (ho:A[i]?=some o) (hY:¬Y i) (hready:∀k,bM o k=true→Y k) (hc:∀(k:Nat) (p:Oper),A[k]?=some p→Y k→∀j,bM p j=true→Y j)
  {K:Act→World→Prop} (hK:∀s' ρ' a' w',ρ<+:ρ'→AtG A s0 S (fun k=>Y k∨k=i) s'→FR ρ' s'.tm a'→HR W ρ' s'.hp w'→(hasG=false→Px.aw s'.tm)→(∀d,o.dst≠some d→a'.tmps.getD d undef=a.tmps.getD d undef)→K a' w'):
  wpOpIn (Wd rn) 0 P ops Q i K a w:=by
 have hsees:∀t x v,o.op= .load t x→o.guard=none→rd s.tm [] x=some v→Nj s.hp v:=by
  intro t x v _ _ hv
  have hcv:=aC hf (rfl:aD s.tm []=true) hv
  cases v with
  |ptr k q=>
   obtain⟨l,hl,_⟩:=dE.1 hcv
   show k<s.hp.length
   rw[←hh.len]
   exact(List.getElem?_eq_some_iff.1 hl).1
  |pel k i wd q=>
   obtain⟨l,hl,hnl,_⟩:=eQ.1 hcv
   have hkl:k<s.hp.length:=by rw[←hh.len];exact(List.getElem?_eq_some_iff.1 hl).1
   refine⟨hkl,?_⟩
   obtain⟨l2,hl2,_⟩:=fj hh hl hnl
   rw[←hh.len]
   exact(List.getElem?_eq_some_iff.1 hl2).1
  |_=>trivial
 obtain⟨s',hst,ha'⟩:=ha.next hx.Ho hx.gk (fun h=>by cases h) had hnp h0 ho hY hready hc hsees
 rw[←hx.VQ ho]at hst
 have hol:ops.toList[i]?=some o:=by
  rw[hx.eq,List.getElem?_append_left (List.getElem?_eq_some_iff.1 ho).1]
  exact ho
 have hoo:ops[i]?=some o:=by simpa using hol
 have hw:=yP (rn:=rn) (P:=P) (cfg:=cfg) (w0:=W) hq hG hst hf hh hn (Q:=Q)
 unfold wpOpIn
 simp only[hoo]
 split
 ·rename_i hwt
  rw[if_pos hwt]at hw
  refine Oper.wpIn_mono (fun a' w' h=>?_) (Pg hw)
  obtain⟨⟨ρ',h1,h2,h3,h4⟩,x,hx'⟩:=h
  exact hK s' ρ' a' w' h1 ha' h2 h3 h4 (fun d hnd=>by rw[hx',CA hnd])
 ·rename_i hwt
  rw[if_neg hwt]at hw
  obtain⟨ρ',h1,h2,h3,h4⟩:=hw
  exact⟨fun _ _=>trivial,hK s' ρ' _ w h1 ha' h2 h3 h4 (fun d hnd=>CA hnd)⟩
theorem Ds (hq:EOk P G cfg) (hG:G w0.w) (hx:Shape cfg ops hasG s0 S A B T) (had:zt cfg) (hnp:cfg.apn=false) (h0:Px.aw s0.tm) {rn:Option Nat} {ρ0:List Loc} {Q:Exit→Act→World→Prop}
  (hQ:∀ρ' a' w',ρ0<+:ρ'→FR ρ' (S ops.size).tm a'→HR w0 ρ' (S ops.size).hp w'→(hasG=false→Px.aw (S ops.size).tm)→Q .normal a' w'):
  ∀(fuel:Nat) (listed:Array Bool) (a:Act) (w:World),listed.size=ops.size→unl ops.size listed≤fuel→N0 w0 cfg ops hasG s0 S A B ρ0 listed a w→
  (∀(k:Nat) (p:Oper),ops.toList[k]?=some p→listed.getD k false=true→∀j,bM p j=true→listed.getD j false=true)→wpAnyIn (Wd rn) 0 P .any ops Q fuel listed a w:=by
 intro fuel
 have hsize:=hx.size
 have hBl:=hx.some_
 -- the new objects and all that must be ahead have come
 have land:∀(listed:Array Bool) (a:Act) (w:World),N0 w0 cfg ops hasG s0 S A B ρ0 listed a w→(∀k,A.length≤k→k<A.length+B.length→listed.getD k false=true)→(∀k,k<A.length→listed.getD k false=true∨Hr A k)→∃m,A.length+B.length≤m∧m≤ops.size∧(∀k,A.length≤k→k<ops.size→(listed.getD k false=true↔k<m))∧
   ∃s ρ,ρ0<+:ρ∧At3 ops s0 S m (fun k=>listed.getD k false=true) s∧FR ρ s.tm a∧HR w0 ρ s.hp w∧(hasG=false→Px.aw s.tm):=by
  intro listed a w hI hn1 cg
  cases hI with
  |two hl s ρ z q h1 ha hf hh hn hq0 hz hd=>
   refine⟨A.length+B.length,Nat.le_refl _,by omega,fun k hk1 hk=>⟨fun h=>?_,fun h=>hn1 k hk1 h⟩,N0.land hx hnp h0 cg hn1 hl h1 ha hf hh hn hq0 hz hd⟩
   refine Nat.lt_of_not_ge fun h'=>?_
   rw[hl k h']at h
   cases h
  |three m hm hm2 hlT hlA s ρ h1 ha hf hh hn=>exact⟨m,hm,hm2,hlT,s,ρ,h1,ha,hf,hh,hn⟩
 have done:∀(listed:Array Bool) (a:Act) (w:World),listed.size=ops.size→N0 w0 cfg ops hasG s0 S A B ρ0 listed a w→Region.ready .any ops listed=[]→Q .normal a w:=by
  intro listed a w hsz hI hrd
  have cg:∀k,k<ops.size→listed.getD k false=true:=by
   intro k
   induction k using Nat.strongRecOn with
   |_ k ih=>
    intro hkl
    cases hg:listed.getD k false with
    |true=>rfl
    |false=>
     exfalso
     have hmem:k∈Region.ready .any ops listed:=by
      refine mem_ready.2 ⟨?_,ops[k],Array.getElem?_eq_getElem hkl,fun e he hb=>?_⟩
      ·rw[Array.getD_eq_getD_getElem?,Array.getElem?_eq_getElem (by rw[hsz];exact hkl)]at hg⊢
       exact hg
      ·have hE:bM ops[k] e.on=true:=by
        simp only[bM,List.any_eq_true,XR]
        exact⟨e,by simpa using he,hb,by simp⟩
       have hlt:=hx.back k ops[k] e.on (by simp[hkl]) hE
       exact ih e.on hlt (by omega)
     rw[hrd]at hmem
     cases hmem
  obtain⟨m,hm,hm2,hl,s,ρ,h1,ha,hf,hh,hn⟩:=land listed a w hI (fun k hk1 hk=>cg k (by omega)) (fun k hk=> .inl (cg k (by omega)))
  have hms:m=ops.size:=by
   rcases Nat.lt_or_ge m ops.size with h'|h'
   ·have:=(hl m (by omega) h').1 (cg m h');omega
   ·omega
  subst hms
  have:=ha.all hx cg
  subst this
  exact hQ ρ a w h1 hf hh hn
 induction fuel with
 |zero=>
  intro listed a w hsz hu' hI hc
  have hrd:Region.ready .any ops listed=[]:=by
   rw[List.eq_nil_iff_forall_not_mem]
   intro i hi
   obtain⟨h1,o,ho,_⟩:=mem_ready.1 hi
   have hlt:i<ops.size:=(Array.getElem?_eq_some_iff.1 ho).1
   have h1':listed.getD i false=false:=by
    rw[Array.getD_eq_getD_getElem?,Array.getElem?_eq_getElem (by rw[hsz];exact hlt)]at h1⊢
    exact h1
   have:=jQ hsz hlt h1'
   omega
  exact⟨hrd,done listed a w hsz hI hrd⟩
 |succ fuel ih=>
  intro listed a w hsz hu' hI hc
  refine⟨fun hrd=>done listed a w hsz hI hrd,fun i' hi=>?_⟩
  obtain⟨h1,o,ho,cg⟩:=mem_ready.1 hi
  have hlt:i'<ops.size:=(Array.getElem?_eq_some_iff.1 ho).1
  have h1':listed.getD i' false=false:=by
   rw[Array.getD_eq_getD_getElem?,Array.getElem?_eq_getElem (by rw[hsz];exact hlt)]at h1⊢
   exact h1
  have hol:ops.toList[i']?=some o:=by simpa using ho
  have hready:∀k,bM o k=true→listed.getD k false=true:=by
   intro k hk'
   simp only[bM,List.any_eq_true,XR]at hk'
   obtain⟨e,he,hb,hek⟩:=hk'
   have:=cg e (by simpa using he) hb
   rwa[XS hek]at this
  have hset:∀k,(listed.setIfInBounds i' true).getD k false=true↔(listed.getD k false=true∨k=i'):=by
   intro k
   by_cases e:k=i'
   ·subst e
    rw[Array.getD_eq_getD_getElem?,Array.getElem?_setIfInBounds_self_of_lt (by rw[hsz];exact hlt)]
    simp
   ·rw[Array.getD_eq_getD_getElem?,Array.getElem?_setIfInBounds_ne (fun h=>e h.symm),←Array.getD_eq_getD_getElem?]
    simp[e]
  have hsetf:∀k,k≠i'→listed.getD k false=false→(listed.setIfInBounds i' true).getD k false=false:=by
   intro k hk hf
   rw[Bool.eq_false_iff]
   intro h
   rcases(hset k).1 h with h|h
   ·rw[hf]at h;cases h
   ·exact hk h
  have efun:(fun k=>(listed.setIfInBounds i' true).getD k false=true)=(fun k=>listed.getD k false=true∨k=i'):=funext fun k=>propext (hset k)
  have go:∀(a':Act) (w':World),N0 w0 cfg ops hasG s0 S A B ρ0 (listed.setIfInBounds i' true) a' w'→wpAnyIn (Wd rn) 0 P .any ops Q fuel (listed.setIfInBounds i' true) a' w':=by
   intro a' w' hI'
   refine ih _ a' w' (by simpa using hsz) (by have:=jQ hsz hlt h1';omega) hI' (fun k p hkp hyk j hj=>?_)
   rw[hset]at hyk⊢
   rcases hyk with hyk|rfl
   ·exact .inl (hc k p hkp hyk j hj)
   ·rw[hol]at hkp
    simp only[XQ]at hkp
    subst hkp
    exact .inl (hready j hj)
  have step:∀{s s':St (X:=X)} {ρ:List Loc},lL cfg ops.toList hasG o s=some s'→FR ρ s.tm a→HR w0 ρ s.hp w→(hasG=false→Px.aw s.tm)→
    (∀a' w' ρ',ρ<+:ρ'→FR ρ' s'.tm a'→HR w0 ρ' s'.hp w'→(hasG=false→Px.aw s'.tm)→wpAnyIn (Wd rn) 0 P .any ops Q fuel (listed.setIfInBounds i' true) a' w')→wpOpIn (Wd rn) 0 P ops Q i' (wpAnyIn (Wd rn) 0 P .any ops Q fuel (listed.setIfInBounds i' true)) a w:=by
   intro s s' ρ hst hf hh hn fin
   have hw:=yP (rn:=rn) (P:=P) (cfg:=cfg) (w0:=w0) hq hG hst hf hh hn (Q:=Q)
   unfold wpOpIn
   simp only[ho]
   split
   ·rename_i hwt
    rw[if_pos hwt]at hw
    exact Oper.wpIn_mono (fun a' w' ⟨ρ',e1,e2,e3,e4⟩=>fin a' w' ρ' e1 e2 e3 e4) hw
   ·rename_i hwt
    rw[if_neg hwt]at hw
    obtain⟨ρ',e1,e2,e3,e4⟩:=hw
    exact⟨fun _ _=>trivial,fin _ _ ρ' e1 e2 e3 e4⟩
  have hcA:∀(k:Nat) (p:Oper),A[k]?=some p→listed.getD k false=true→∀j,bM p j=true→listed.getD j false=true:=by
   intro k p hkp
   refine hc k p ?_
   rw[hx.eq,List.getElem?_append_left (List.getElem?_eq_some_iff.1 hkp).1]
   exact hkp
  rcases Nat.lt_or_ge i' A.length with hiA|hiA
  ·-- ahead of the new objects
   have hoA:A[i']?=some o:=hx.inA hiA hol
   cases hI with
   |two hl s ρ z q hp1 ha hf hh hn hq0 hz hd=>
    refine hx.one hq (W:=⟨w0.w,q⟩) hG had hnp h0 ha hf hh hn hoA (by rw[h1'];simp) hready hcA (fun s' ρ' a' w' e1 e2 e3 e4 e5 e6=>?_)
    have hBk:∀j,(listed.setIfInBounds i' true).getD (A.length+j) false=true→listed.getD (A.length+j) false=true:=fun j h=>((hset _).1 h).resolve_right (by omega)
    refine go a' w' (.two (fun k hk=>hsetf k (by omega) (hl k hk)) s' ρ' z q (hp1.trans e1) ?_ e3 e4 e5 hq0 (fun j al hj hlj=>?_) (fun j k hj hk h1 h2=>hd j k hj hk (hBk j h1) (hBk k h2)))
    ·rw[efun]
     exact e2
    ·obtain⟨z1,t,d,i,z2,z3,z4,z5,z6⟩:=hz j al hj (hBk j hlj)
     refine⟨z1,t,d,i,z2,z3,z4,?_,z6⟩
     obtain⟨t',d',hal⟩:=hx.als j al hj
     have ed:d'=d:=by have:=hal.dst;rw[z3]at this;cases this;rfl
     rw[e6 d (by rw[←ed];exact hal.nw i' o hoA),z5]
   |three m hm hm2 hlT hlA s ρ hp1 ha hf hh hn=>
    rcases hlA i' hiA with h'|⟨p,e1,e2,e3⟩
    ·rw[h1']at h';cases h'
    ·rw[hoA]at e1
     simp only[XQ]at e1
     subst e1
     obtain⟨s',hst,ha'⟩:=ha.next hx h0 hol (by rw[h1'];simp) hready hc e3 (.inl e2) (m':=m) (by rw[if_neg (by omega)])
     refine step hst hf hh hn (fun a' w' ρ' f1 f2 f3 f4=>go a' w' (.three m hm hm2 (fun k hk1 hk=>?_) (fun k hk=>?_) s' ρ' (hp1.trans f1) (by rw[efun];exact ha') f2 f3 f4))
     ·rw[hset,hlT k hk1 hk]
      omega
     ·rcases hlA k hk with h'|h'
      ·exact .inl ((hset k).2 (.inl h'))
      ·exact .inr h'
  rcases Nat.lt_or_ge i' (A.length+B.length)with hiB|hiB
  ·-- a new object
   have hBo:=hx.atB hiA hiB hol
   obtain⟨t,d,hal⟩:=hx.als _ o hBo
   obtain⟨i,hti,hzn,_,_⟩:=hx.new hnp hBo hal
   cases hI with
   |two hl s ρ z q hp1 ha hf hh hn hq0 hz hd=>
    unfold wpOpIn
    simp only[ho]
    rw[if_pos (by simp[Region.wanted,hal.ng])]
    have hnd:∀c,o.op≠ .defer c:=fun c e=>by rw[hal.op]at e;cases e
    obtain⟨inf,zv,z1,z2,z3,z4⟩:=vP hq.types t i hti hzn
    have hzv:(zeroValue t).run P w= .ok zv w:=by simp[zeroValue,jT z1,z2]
    have hrun:(execOp a.eval o).run P w= .ok (.value (.pointer (some ⟨w.heap.size,0,none⟩))) (w.alloc (.cells zv.cells t)):=by
     obtain⟨dst,op,ty,pos,after,gd⟩:=o
     have:=hal.op
     simp only at this
     subst this
     simp only[execOp,Instr.alloc,newVar,newRow,Sem.run_bind,hzv,Result.andThen_ok,run_newObj,Sem.run_pure,World.alloc_eq]
    refine inW ?_ hnd
    unfold Oper.wp
    rw[hrun]
    simp only[Oper.upon]
    have hany:=hx.any hal ha
    have hdl:d<s.tm.length:=(List.getElem?_eq_some_iff.1 hany).1
    have hlo:∀p∈q,p.1<w.heap.size:=fun p hp=>(Array.getElem?_eq_some_iff.1 (hh.eD p hp).1).1
    have hzj:∀j,j<B.length→(listed.setIfInBounds i' true).getD (A.length+j) false=true→j≠i'-A.length→listed.getD (A.length+j) false=true:=fun j _ h hne=>((hset _).1 h).resolve_right (by omega)
    have hnotd:∀j al2,B[j]?=some al2→j≠i'-A.length→al2.dst≠some d:=by
     intro j al2 hj hne
     have:=hx.KW (A.length+j) i' al2 o d (hx.inB hj) hol (by omega) hal.dst
     exact this
    refine go _ _ (.two (fun k hk=>hsetf k (by omega) (hl k (by omega))) s ρ (fun j=>if j=i'-A.length then(w.heap.size, .cells zv.cells t)else z j) ((w.heap.size, .cells zv.cells t)::q) hp1 ?_ ?_ (HR.Wj (w0:=⟨w0.w,q⟩) hh _) hn (fun p hp=>List.mem_cons_of_mem _ (hq0 p hp)) (fun j al2 hj hlj=>?_) (fun j k hj hk hlj hlk hne=>?_))
    ·rw[efun]
     refine⟨ha.len,fun k u p hkp hy hdp=>?_,fun u hno=>ha.rest u (fun k p hkp hy=>hno k p hkp (.inl hy)),?_⟩
     ·rcases hy with hy|rfl
      ·exact ha.done k u p hkp hy hdp
      ·have:=(List.getElem?_eq_some_iff.1 hkp).1;omega
     ·obtain⟨m,hm,hhp,hst⟩:=ha.heap
      refine⟨m,hm,hhp,fun k p hkp hp=>⟨fun h=>?_,fun h=> .inl ((hst k p hkp hp).2 h)⟩⟩
      rcases h with h|rfl
      ·exact(hst k p hkp hp).1 h
      ·have:=(List.getElem?_eq_some_iff.1 hkp).1;omega
    ·have e:s.tm.set d .any=s.tm:=by
      apply List.ext_getElem?
      intro j
      by_cases ej:d=j
      ·subst ej
       rw[List.getElem?_set_self hdl,hany]
      ·rw[List.getElem?_set_ne ej]
     have:=hf.put (d:=d) (s:= .any) (x:= .pointer (some ⟨w.heap.size,0,none⟩)) (hx.VR hal h0 ha) trivial
     rw[e]at this
     rw[hal.dst]
     exact this
    ·by_cases e:j=i'-A.length
     ·subst e
      rw[hBo]at hj
      simp only[XQ]at hj
      subst hj
      rw[if_pos rfl]
      refine⟨List.mem_cons_self ..,t,d,i,hal.op,hal.dst,hti,?_,hh.below.size,fun p hp e=>?_,zv.cells.toList,z3,z4,by simp⟩
      ·rw[hal.dst]
       simp only[Act.put]
       rw[Array.getD_eq_getD_getElem?,Array.getElem?_setIfInBounds_self_of_lt (by rw[hf.size];exact hdl)]
       rfl
      ·have:=hlo p (hq0 p hp)
       simp only at e
       omega
     ·rw[if_neg e]
      have hjl:=(List.getElem?_eq_some_iff.1 hj).1
      obtain⟨y1,t2,d2,i2,y2,y3,y4,y5,y6⟩:=hz j al2 hj (hzj j hjl hlj e)
      refine⟨List.mem_cons_of_mem _ y1,t2,d2,i2,y2,y3,y4,?_,y6⟩
      rw[CA (by rw[hal.dst];intro e2;exact hnotd j al2 hj e (by rw[y3,e2])),y5]
    ·have fresh:∀k,k<B.length→(listed.setIfInBounds i' true).getD (A.length+k) false=true→k≠i'-A.length→(z k).1<w.heap.size:=fun k hk hlk hne=>
      hlo _ (hz k _ (List.getElem?_eq_getElem hk) (hzj k hk hlk hne)).1
     by_cases e1:j=i'-A.length
     ·have e2:k≠i'-A.length:=fun e=>hne (by omega)
      rw[if_pos e1,if_neg e2]
      have:=fresh k hk hlk e2
      simp only
      omega
     ·by_cases e2:k=i'-A.length
      ·rw[if_neg e1,if_pos e2]
       have:=fresh j hj hlj e1
       simp only
       omega
      ·rw[if_neg e1,if_neg e2]
       exact hd j k hj hk (hzj j hj hlj e1) (hzj k hk hlk e2) hne
   |three m hm hm2 hlT=>
    have:=(hlT i' hiA hlt).2 (by omega)
    rw[h1']at this
    cases this
  ·-- behind
   have hbef:∀j,j<i'→listed.getD j false=true∨Hr A j:=by
    intro j hj
    rcases hx.tail i' hiB hlt j hj with h|h
    ·exact .inl (h.done (Y:=fun k=>listed.getD k false=true) hc (fun o' ho' k hk'=>by rw[hol]at ho';simp only[XQ]at ho';subst ho';exact hready k hk'))
    ·exact .inr h
   have nlate:∀j,A.length≤j→¬Hr A j:=fun j hj ⟨p,hp,_⟩=>by
    have:=(List.getElem?_eq_some_iff.1 hp).1
    omega
   have hbefT:∀j,A.length≤j→j<i'→listed.getD j false=true:=fun j hj hji=>(hbef j hji).resolve_right (nlate j hj)
   obtain⟨m,hm,hm2,hl,s,ρ,hp1,ha,hf,hh,hn⟩:=land listed a w hI (fun k hk1 hk=>hbefT k hk1 (by omega)) (fun k hk=>hbef k (by omega))
   have hmi:m=i':=by
    rcases Nat.lt_trichotomy m i' with h|h|h
    ·have:=(hl m (by omega) (by omega)).1 (hbefT m (by omega) h);omega
    ·exact h
    ·have:=(hl i' hiA hlt).2 h
     rw[h1']at this
     cases this
   subst hmi
   obtain⟨k1,k2⟩:=hx.UH m o hiB hol
   obtain⟨s',hst,ha'⟩:=ha.next hx h0 hol (by rw[h1'];simp) hready hc k1 (by rcases k2 with h|h|h;exact .inl h;exact .inr ⟨rfl, .inl h⟩;exact .inr ⟨rfl, .inr h⟩) (m':=m+1) (by rw[if_pos rfl])
   refine step hst hf hh hn (fun a' w' ρ' f1 f2 f3 f4=>go a' w' (.three (m+1) (by omega) (by omega) (fun k hk1 hk=>?_) (fun k hk=>?_) s' ρ' (hp1.trans f1) (by rw[efun];exact ha') f2 f3 f4))
   ·rw[hset,hl k hk1 hk]
    omega
   ·rcases hbef k (by omega)with h'|h'
    ·exact .inl ((hset k).2 (.inl h'))
    ·exact .inr h'
theorem Km (hm:P.follows .mixedOrders=true) (hf0:¬φ fail) (hq:EOk P G cfg) (hnp:cfg.apn=false) (hG:G w0.w) {id:Nat} {ops:Array Oper} {s:St (X:=X)} {K:St (X:=X)→R} {ρ:List Loc} {a:Act} {w:World} {rn:Option Nat}
  (hk:RA ops.toList s=true) (h:φ (dC cfg fail (fun _ _ _ _=>fail) ops.toList s K)) (hf:FR ρ s.tm a) (hr:HR w0 ρ s.hp w) (hn:Px.aw s.tm):(Code.region id ops true).wpIn (Wd rn) 0 P (dM (Next w0 φ ρ false K)) a w:=by
 unfold RA at hk
 split at hk
 rename_i A C hsp1
 split at hk
 rename_i B T hsp2
 obtain⟨heq1,_⟩:=DK hsp1
 obtain⟨heq2,hBal⟩:=DK hsp2
 have heq:ops.toList=A++(B++T):=by rw[heq1,heq2]
 simp only[XR,List.all_eq_true,Bool.not_eq_true',List.isEmpty_eq_false_iff]at hk
 obtain⟨hBne,hkA,hany,hback,htail⟩:=hk
 have hgk:=GK.of hkA
 have had:zt cfg:=fun n con hc=>(hq.makes n con hc).2.2
 have hsize:ops.size=A.length+B.length+T.length:=by
  have:=congrArg List.length heq
  simp at this
  omega
 have hback':∀(i:Nat) (o:Oper) (j:Nat),ops.toList[i]?=some o→bM o j=true→j<i:=by
  intro i o j ho he
  simp only[bM,List.any_eq_true,XR]at he
  obtain⟨e,h1,h2,h3⟩:=he
  have:=(hback _ (by have:=fZ ops.toList 0 i o ho;simpa using this)).1 e h1
  simp only[h2,Bool.not_true,Bool.false_or,Nat.blt_eq]at this
  rw[←XS h3]
  exact this
 have h2:∀(i j:Nat) (o p:Oper),ops.toList[i]?=some o→ops.toList[j]?=some p→G9 (reach ops.toList) i o j p=true:=fun i j o p ho hp=>
  (hback _ (by have:=fZ ops.toList 0 i o ho;simpa using this)).2 (j,p) (by have:=fZ ops.toList 0 j p hp;simpa using this)
 have hlk:∀(i j:Nat) (o p:Oper) (u:Nat),ops.toList[i]?=some o→ops.toList[j]?=some p→i≠j→p.dst=some u→(cL o u=true→Anc ops.toList i j)∧o.dst≠some u:=by
  intro i j o p u ho hp hne hdu
  have:=h2 i j o p ho hp
  unfold G9 at this
  have hij:Nat.beq i j=false:=by cases hb:Nat.beq i j with
   |true=>exact absurd (XS hb) hne
   |false=>rfl
  rw[hij,XV]at this
  simp only[hdu,XR]at this
  refine⟨fun hl=>?_,fun e=>?_⟩
  ·have:=this.1.1
   rw[hl,XU]at this
   exact oe this
  ·have:=this.1.2
   rw[e]at this
   simp at this
 have hinB:∀(i:Nat) (al:Oper),B[i]?=some al→ops.toList[A.length+i]?=some al:=by
  intro i al h
  rw[heq,List.getElem?_append_right (by omega),Nat.add_sub_cancel_left,List.getElem?_append_left (List.getElem?_eq_some_iff.1 h).1]
  exact h
 have hals:∀(i:Nat) (al:Oper),B[i]?=some al→∃t d,IX s A al t d:=by
  intro i al h
  obtain⟨t,hop⟩:=T7 (hBal al (List.mem_of_getElem? h))
  have hk1:=hany al (List.mem_of_getElem? h)
  unfold V4 at hk1
  split at hk1
  ·rename_i d hd hng
   refine⟨t,d,hop,hd,hng,?_,fun k o hk=>?_⟩
   ·rw[aG]at hk1
    split at hk1
    ·assumption
    ·cases hk1
   ·have hkl:=(List.getElem?_eq_some_iff.1 hk).1
    exact(hlk k (A.length+i) o al d (by rw[heq,List.getElem?_append_left hkl];exact hk) (hinB i al h) (by omega) hd).2
  ·cases hk1
 have htl:∀(k:Nat) (o:Oper),A.length+B.length≤k→ops.toList[k]?=some o→(o.guard=none∧(aJ o.op=some 0∨aJ o.op=some 1∨aJ o.op=some 3))∧∀j,j<k→Anc ops.toList k j∨Hr A j:=by
  intro k o hk ho
  have ho':T[k-(A.length+B.length)]?=some o:=by
   rw[heq,List.getElem?_append_right (by omega),List.getElem?_append_right (by omega)]at ho
   rw[show k-A.length-B.length=k-(A.length+B.length) by omega]at ho
   exact ho
  have:=JE htail _ o ho'
  rw[show A.length+B.length+(k-(A.length+B.length))=k by omega]at this
  exact⟨this.1,fun j hj=>(this.2 j hj).imp oe (fun h=>h)⟩
 have shape:∀{hasG:Bool} {S:Nat→St (X:=X)},S 0=s→(∀k o,ops.toList[k]?=some o→lL cfg ops.toList hasG o (S k)=some (S (k+1)))→Shape cfg ops hasG s S A B T:=by
  intro hasG S hS0 hS
  refine⟨heq,hals,List.length_pos_iff.2 hBne,⟨hS0,hS⟩,⟨hS0,fun k o ho=>?_⟩,hgk,hback',fun i j o p u h1 h2 h3 h4=>(hlk i j o p u h1 h2 h3 h4).1,fun i j o p u h1 h2 h3 h4=>(hlk i j o p u h1 h2 h3 h4).2,fun k o h1 h2=>(htl k o h1 h2).1,fun k h1 h2=>(htl k ops[k] h1 (by simp[h2])).2⟩
  have:=hS k o (by rw[heq,List.getElem?_append_left (List.getElem?_eq_some_iff.1 ho).1];exact ho)
  rw[dL,heq,BZ hgk ho,←dL]at this
  exact this
 rw[jW]at h
 unfold jn at h
 refine wpIn_region_any hm ?_
 have none:∀k,¬(Array.replicate ops.size false).getD k false=true:=by
  intro k hy
  rw[Array.getD_eq_getD_getElem?]at hy
  by_cases hk:k<ops.size
  ·simp[hk]at hy
  ·simp[hk]at hy
 have nonef:∀k,(Array.replicate ops.size false).getD k false=false:=fun k=>by
  cases hc:(Array.replicate ops.size false).getD k false with
  |false=>rfl
  |true=>exact absurd hc (none k)
 have e:(fun k=>(Array.replicate ops.size false).getD k false=true)=(fun _=>False):=by
  funext k
  exact propext ⟨fun h=>none k h,fun h=>h.elim⟩
 have hun:unl ops.size (Array.replicate ops.size false)≤ops.size:=by
  unfold unl
  exact Nat.le_trans (List.length_filter_le _ _) (by simp)
 split at h
 ·obtain⟨S,hS0,hS,hK⟩:=Ab (cfg:=cfg) hf0 ops.toList h
  have hsh:=shape hS0 hS
  refine Ds hq hG hsh had hnp hn (ρ0:=ρ) ?_ ops.size _ a _ (by simp) hun (.two (fun k _=>nonef k) s ρ (fun _=>(0, .deferred Option.none)) w0.q (List.prefix_refl _) ?_ hf (pg hr) (fun _=>hn) (fun _ h=>h) (fun _ _ _ h=>absurd h (none _)) (fun _ _ _ _ h=>absurd h (none _))) (fun k p _ hy=>absurd hy (none k))
  ·intro ρ' a' w' h1 h2 h3 _
   exact⟨{tm:=ec (S ops.size).tm,hp:=(S ops.size).hp},ρ',by simpa using hK,h1,h2.clear,h3,fun _=>fN _⟩
  ·rw[e]
   exact AtG.start hsh.Ho
 ·obtain⟨S,hS0,hS,hK⟩:=Ab (cfg:=cfg) hf0 ops.toList h
  have hsh:=shape hS0 hS
  refine Ds hq hG hsh had hnp hn (ρ0:=ρ) ?_ ops.size _ a _ (by simp) hun (.two (fun k _=>nonef k) s ρ (fun _=>(0, .deferred Option.none)) w0.q (List.prefix_refl _) ?_ hf (pg hr) (fun _=>hn) (fun _ h=>h) (fun _ _ _ h=>absurd h (none _)) (fun _ _ _ _ h=>absurd h (none _))) (fun k p _ hy=>absurd hy (none k))
  ·intro ρ' a' w' h1 h2 h3 h4
   exact⟨_,ρ',by simpa using hK,h1,h2,h3,h4⟩
  ·rw[e]
   exact AtG.start hsh.Ho
end
end Go.Proofs.YtfhepbbkggdlcaaGreatDoor.Px


namespace Go.Proofs.YtfhepbbkggdlcaaGreatDoor.Px
open Go Go.RowKit
section
variable [X:bQ] {P:Program} {G:World→Prop} {cfg:Cfg (X:=X)} {w0:cf} {R:Type} {fail:R} {φ:R→Prop}
theorem GM {ci:dJ (X:=X) (R:=R)} (ops:List Oper) (t:Nat) (s:St (X:=X)) (K:St (X:=X)→R):lF cfg fail ci ops t s K=wx cfg fail ci ops t s K:=by
 unfold lF wx
 congr 1
 funext s1
 congr 2
 funext s'
 cases cw ops
 ·rfl
 ·simp only[lD]
structure Pv (ops:Array Oper) (A T:List Oper):Prop where
 eq:ops.toList=A++T
 back:∀(i:Nat) (o:Oper) (j:Nat),ops.toList[i]?=some o→bM o j=true→j<i
 tail:∀k,A.length≤k→k<ops.size→∀j,j<k→Anc ops.toList k j
variable {ops:Array Oper} {hasG:Bool} {s0:St (X:=X)} {S:Nat→St (X:=X)} {A T:List Oper}
theorem Ls (hf0:¬φ fail) (hq:EOk P G cfg) (hG:G w0.w) {ci:dJ (X:=X) (R:=R)} (hci:yi P w0 φ ci) {cfgF:Cfg (X:=X)} (hqF:EOk P G cfgF) (hx:Pv ops A T) (hrA:eE cfgF A hasG s0 S) {wk:Bool} (hk:GK wk A s0) (hwk:wk=true→∀j,j≤A.length→(S j).hp=s0.hp) (had:zt cfgF) (hnp:cfgF.apn=false) (h0:Px.aw s0.tm) {rn:Option Nat} {ρ0:List Loc} {Q:Exit→Act→World→Prop} {K:St (X:=X)→R}
  (hT:φ (eI cfg fail ci ops.toList hasG T (S A.length) K))
  (hQ:∀s ρ' a' w',φ (K s)→ρ0<+:ρ'→FR ρ' s.tm a'→HR w0 ρ' s.hp w'→(hasG=false→Px.aw s.tm)→Q .normal a' w'):
  ∀(fuel:Nat) (listed:Array Bool) (a:Act) (w:World),listed.size=ops.size→unl ops.size listed≤fuel→
  ((∃(s:St (X:=X)) (ρ:List Loc),(∀k,A.length≤k→listed.getD k false=false)∧ρ0<+:ρ∧AtG A s0 S (fun k=>listed.getD k false=true) s∧FR ρ s.tm a∧HR w0 ρ s.hp w∧(hasG=false→Px.aw s.tm))∨
   (∃(j:Nat) (s:St (X:=X)) (ρ:List Loc),A.length≤j∧j≤ops.size∧(∀k,k<ops.size→(listed.getD k false=true↔k<j))∧ρ0<+:ρ∧φ (eI cfg fail ci ops.toList hasG (ops.toList.drop j) s K)∧FR ρ s.tm a∧HR w0 ρ s.hp w∧(hasG=false→Px.aw s.tm)))→
  (∀(k:Nat) (p:Oper),ops.toList[k]?=some p→listed.getD k false=true→∀j,bM p j=true→listed.getD j false=true)→wpAnyIn (Wd rn) 0 P .any ops Q fuel listed a w:=by
 intro fuel
 have hsize:ops.size=A.length+T.length:=by
  have:=congrArg List.length hx.eq
  simpa using this
 have hgetA:∀{k:Nat} {o:Oper},k<A.length→ops.toList[k]?=some o→A[k]?=some o:=by
  intro k o h ho
  rw[hx.eq,List.getElem?_append_left h]at ho
  exact ho
 -- all of the first part has come
 have two:∀(listed:Array Bool) (a:Act) (w:World),(∀k,k<A.length→listed.getD k false=true)→
   ((∃(s:St (X:=X)) (ρ:List Loc),(∀k,A.length≤k→listed.getD k false=false)∧ρ0<+:ρ∧AtG A s0 S (fun k=>listed.getD k false=true) s∧FR ρ s.tm a∧HR w0 ρ s.hp w∧(hasG=false→Px.aw s.tm))∨
   (∃(j:Nat) (s:St (X:=X)) (ρ:List Loc),A.length≤j∧j≤ops.size∧(∀k,k<ops.size→(listed.getD k false=true↔k<j))∧ρ0<+:ρ∧φ (eI cfg fail ci ops.toList hasG (ops.toList.drop j) s K)∧FR ρ s.tm a∧HR w0 ρ s.hp w∧(hasG=false→Px.aw s.tm)))→
   (∃(j:Nat) (s:St (X:=X)) (ρ:List Loc),A.length≤j∧j≤ops.size∧(∀k,k<ops.size→(listed.getD k false=true↔k<j))∧ρ0<+:ρ∧φ (eI cfg fail ci ops.toList hasG (ops.toList.drop j) s K)∧FR ρ s.tm a∧HR w0 ρ s.hp w∧(hasG=false→Px.aw s.tm)):=by
  intro listed a w cg hI
  rcases hI with⟨s,ρ,hl,hρ,ha,hf,hh,hn⟩|h
  ·have hs:=ha.all hrA hnp hk cg
   subst hs
   refine⟨A.length,_,ρ,Nat.le_refl _,by omega,fun k hk'=>⟨fun h=>Nat.lt_of_not_ge fun hge=>?_,fun h=>cg k h⟩,hρ,?_,hf,hh,hn⟩
   ·rw[hl k hge]at h;cases h
   ·rw[hx.eq,List.drop_left]
    rw[hx.eq]at hT
    exact hT
  ·exact h
 have done:∀(listed:Array Bool) (a:Act) (w:World),listed.size=ops.size→
   ((∃(s:St (X:=X)) (ρ:List Loc),(∀k,A.length≤k→listed.getD k false=false)∧ρ0<+:ρ∧AtG A s0 S (fun k=>listed.getD k false=true) s∧FR ρ s.tm a∧HR w0 ρ s.hp w∧(hasG=false→Px.aw s.tm))∨
   (∃(j:Nat) (s:St (X:=X)) (ρ:List Loc),A.length≤j∧j≤ops.size∧(∀k,k<ops.size→(listed.getD k false=true↔k<j))∧ρ0<+:ρ∧φ (eI cfg fail ci ops.toList hasG (ops.toList.drop j) s K)∧FR ρ s.tm a∧HR w0 ρ s.hp w∧(hasG=false→Px.aw s.tm)))→Region.ready .any ops listed=[]→Q .normal a w:=by
  intro listed a w hsz hI hrd
  have cg:∀k,k<ops.size→listed.getD k false=true:=by
   intro k
   induction k using Nat.strongRecOn with
   |_ k ih=>
    intro hkl
    cases hg:listed.getD k false with
    |true=>rfl
    |false=>
     exfalso
     have hmem:k∈Region.ready .any ops listed:=by
      refine mem_ready.2 ⟨?_,ops[k],Array.getElem?_eq_getElem hkl,fun e he hb=>?_⟩
      ·rw[Array.getD_eq_getD_getElem?,Array.getElem?_eq_getElem (by rw[hsz];exact hkl)]at hg⊢
       exact hg
      ·have hE:bM ops[k] e.on=true:=by
        simp only[bM,List.any_eq_true,XR]
        exact⟨e,by simpa using he,hb,by simp⟩
       have hlt:=hx.back k ops[k] e.on (by simp[hkl]) hE
       exact ih e.on hlt (by omega)
     rw[hrd]at hmem
     cases hmem
  obtain⟨j,s,ρ,hj1,hj2,hl,hρ,hφ,hf,hh,hn⟩:=two listed a w (fun k hk'=>cg k (by omega)) hI
  have hjs:j=ops.size:=by
   rcases Nat.lt_or_ge j ops.size with h|h
   ·have:=(hl j h).1 (cg j h);omega
   ·omega
  subst hjs
  have:ops.toList.drop ops.size=[]:=List.drop_eq_nil_of_le (by simp)
  rw[this]at hφ
  exact hQ s ρ a w hφ hρ hf hh hn
 induction fuel with
 |zero=>
  intro listed a w hsz hu' hI hc
  have hrd:Region.ready .any ops listed=[]:=by
   rw[List.eq_nil_iff_forall_not_mem]
   intro i hi
   obtain⟨h1,o,ho,_⟩:=mem_ready.1 hi
   have hlt:i<ops.size:=(Array.getElem?_eq_some_iff.1 ho).1
   have h1':listed.getD i false=false:=by
    rw[Array.getD_eq_getD_getElem?,Array.getElem?_eq_getElem (by rw[hsz];exact hlt)]at h1⊢
    exact h1
   have:=jQ hsz hlt h1'
   omega
  exact⟨hrd,done listed a w hsz hI hrd⟩
 |succ fuel ih=>
  intro listed a w hsz hu' hI hc
  refine⟨fun hrd=>done listed a w hsz hI hrd,fun i hi=>?_⟩
  obtain⟨h1,o,ho,cg⟩:=mem_ready.1 hi
  have hlt:i<ops.size:=(Array.getElem?_eq_some_iff.1 ho).1
  have h1':listed.getD i false=false:=by
   rw[Array.getD_eq_getD_getElem?,Array.getElem?_eq_getElem (by rw[hsz];exact hlt)]at h1⊢
   exact h1
  have hol:ops.toList[i]?=some o:=by simpa using ho
  have hready:∀k,bM o k=true→listed.getD k false=true:=by
   intro k hk'
   simp only[bM,List.any_eq_true,XR]at hk'
   obtain⟨e,he,hb,hek⟩:=hk'
   have:=cg e (by simpa using he) hb
   rwa[XS hek]at this
  have hset:∀k,(listed.setIfInBounds i true).getD k false=true↔(listed.getD k false=true∨k=i):=by
   intro k
   by_cases e:k=i
   ·subst e
    rw[Array.getD_eq_getD_getElem?,Array.getElem?_setIfInBounds_self_of_lt (by rw[hsz];exact hlt)]
    simp
   ·rw[Array.getD_eq_getD_getElem?,Array.getElem?_setIfInBounds_ne (fun h=>e h.symm),←Array.getD_eq_getD_getElem?]
    simp[e]
  have efun:(fun k=>(listed.setIfInBounds i true).getD k false=true)=(fun k=>listed.getD k false=true∨k=i):=funext fun k=>propext (hset k)
  have go:∀(a':Act) (w':World),_→wpAnyIn (Wd rn) 0 P .any ops Q fuel (listed.setIfInBounds i true) a' w':=fun a' w' hI'=>by
   refine ih _ a' w' (by simpa using hsz) (by have:=jQ hsz hlt h1';omega) hI' (fun k p hkp hyk j hj=>?_)
   rw[hset]at hyk⊢
   rcases hyk with hyk|rfl
   ·exact .inl (hc k p hkp hyk j hj)
   ·rw[hol]at hkp
    simp only[XQ]at hkp
    subst hkp
    exact .inl (hready j hj)
  have wr:∀{N:Act→World→Prop},(if Region.wanted o (yielded ops a.tmps)then o.wpIn (Wd rn) 0 P a w N Q else N (a.put o.dst undef) w)→(∀a' w',N a' w'→wpAnyIn (Wd rn) 0 P .any ops Q fuel (listed.setIfInBounds i true) a' w')→wpOpIn (Wd rn) 0 P ops Q i (wpAnyIn (Wd rn) 0 P .any ops Q fuel (listed.setIfInBounds i true)) a w:=by
   intro N hw fin
   unfold wpOpIn
   simp only[ho]
   split
   ·rename_i hwt
    rw[if_pos hwt]at hw
    exact Oper.wpIn_mono (fun a' w' h=>fin a' w' h) hw
   ·rename_i hwt
    rw[if_neg hwt]at hw
    exact⟨fun _ _=>trivial,fin _ _ hw⟩
  have behind:A.length≤i→wpOpIn (Wd rn) 0 P ops Q i (wpAnyIn (Wd rn) 0 P .any ops Q fuel (listed.setIfInBounds i true)) a w:=by
   intro hiA
   have hbef:∀j,j<i→listed.getD j false=true:=fun j hj=>(hx.tail i hiA hlt j hj).done (Y:=fun k=>listed.getD k false=true) hc (fun o' ho' k hk'=>by rw[hol]at ho';simp only[XQ]at ho';subst ho';exact hready k hk')
   obtain⟨j,s,ρ,hj1,hj2,hl,hρ,hφ,hf,hh,hn⟩:=two listed a w (fun k hk'=>hbef k (by omega)) hI
   have hji:j=i:=by
    rcases Nat.lt_trichotomy j i with h|h|h
    ·have:=(hl j (by omega)).1 (hbef j h);omega
    ·exact h
    ·have:=(hl i hlt).2 h
     rw[h1']at this
     cases this
   subst hji
   have hdrop:ops.toList.drop j=o::ops.toList.drop (j+1):=by
    have hjl:j<ops.toList.length:=by simpa using hlt
    rw[List.drop_eq_getElem_cons hjl]
    congr 1
    have:=(List.getElem?_eq_some_iff.1 hol).2
    exact this
   rw[hdrop]at hφ
   have hw:=pW (rn:=rn) hf0 hq hG hci hφ hf hh hn (Q:=Q)
   refine wr hw (fun a' w' ⟨s',ρ',h1,h2,h3,h4,h5⟩=>go a' w' (.inr ⟨j+1,s',ρ',by omega,by omega,fun k hk'=>?_,hρ.trans h2,h1,h3,h4,h5⟩))
   rw[hset,hl k hk']
   omega
  rcases Nat.lt_or_ge i A.length with hiA|hiA
  ·rcases hI with⟨s,ρ,hl,hρ,ha,hf,hh,hn⟩|⟨j,s,ρ,hj1,hj2,hl,_⟩
   ·have hoA:=hgetA hiA hol
    have hcA:∀(k:Nat) (p:Oper),A[k]?=some p→listed.getD k false=true→∀j,bM p j=true→listed.getD j false=true:=by
     intro k p hkp
     refine hc k p ?_
     rw[hx.eq,List.getElem?_append_left (List.getElem?_eq_some_iff.1 hkp).1]
     exact hkp
    have hsees:∀t x v,o.op= .load t x→o.guard=none→rd s.tm [] x=some v→Nj s.hp v:=by
     intro t x v _ _ hv
     have hcv:=aC hf (rfl:aD s.tm []=true) hv
     cases v with
     |ptr k q=>
      obtain⟨l,hl,_⟩:=dE.1 hcv
      show k<s.hp.length
      rw[←hh.len]
      exact(List.getElem?_eq_some_iff.1 hl).1
     |pel k i wd q=>
      obtain⟨l,hl,hnl,_⟩:=eQ.1 hcv
      have hkl:k<s.hp.length:=by rw[←hh.len];exact(List.getElem?_eq_some_iff.1 hl).1
      refine⟨hkl,?_⟩
      obtain⟨l2,hl2,_⟩:=fj hh hl hnl
      rw[←hh.len]
      exact(List.getElem?_eq_some_iff.1 hl2).1
     |_=>trivial
    obtain⟨s',hst,ha'⟩:=ha.next hrA hk hwk had hnp h0 hoA (by rw[h1'];simp) hready hcA hsees
    have hst':lL cfgF ops.toList hasG o s=some s':=by
     rw[←hst,dL,dL,hx.eq,BZ hk hoA]
    have hw:=yP (rn:=rn) (P:=P) (cfg:=cfgF) (w0:=w0) hqF hG hst' hf hh hn (Q:=Q)
    refine wr hw (fun a' w' ⟨ρ',h1,h2,h3,h4⟩=>go a' w' (.inl ⟨s',ρ',fun k hk'=>?_,hρ.trans h1,by rw[efun];exact ha',h2,h3,h4⟩))
    rw[Bool.eq_false_iff]
    intro h
    rcases(hset k).1 h with h|h
    ·rw[hl k hk']at h;cases h
    ·omega
   ·exact absurd ((hl i hlt).2 (by omega)) (by rw[h1'];simp)
  ·exact behind hiA
theorem NM (hm:P.follows .mixedOrders=true) (hf0:¬φ fail) (hq:EOk P G cfg) (hG:G w0.w) {ci:dJ (X:=X) (R:=R)} (hci:yi P w0 φ ci) {id t:Nat} {ops:Array Oper} {s:St (X:=X)} {K:St (X:=X)→R} {ρ:List Loc} {a:Act} {w:World} {rn:Option Nat}
  (hk:CE ops.toList s t=true) (h:φ (lF cfg fail ci ops.toList t s K)) (hf:FR ρ s.tm a) (hr:HR w0 ρ s.hp w) (hn:Px.aw s.tm):(Code.region id ops true).wpIn (Wd rn) 0 P (dM (Next w0 φ ρ false K)) a w:=by
 have hq':EOk P G {cfg with apn:=false}:={toQOk:={hq.toQOk with},makes:=hq.makes,writes:=hq.writes}
 have had:zt {cfg with apn:=false}:=fun n con hc=>(hq.makes n con hc).2.2
 unfold CE at hk
 simp only[XR,List.all_eq_true]at hk
 obtain⟨hkA,hrest⟩:=hk
 have heq:ops.toList=ops.toList.take t++ops.toList.drop t:=(List.take_append_drop t _).symm
 have hone:∀(i:Nat) (o:Oper),ops.toList[i]?=some o→_:=fun i o ho=>hrest (i,o) (by have:=fZ ops.toList 0 i o ho;simpa using this)
 have hx:Pv ops (ops.toList.take t) (ops.toList.drop t):=by
  refine⟨heq,fun i o j ho he=>?_,fun k hk1 hk2 j hj=>?_⟩
  ·simp only[bM,List.any_eq_true,XR]at he
   obtain⟨e,h1,h2,h3⟩:=he
   have:=(hone i o ho).1 e h1
   simp only[h2,Bool.not_true,Bool.false_or,Nat.blt_eq]at this
   rw[←XS h3]
   exact this
  ·have ho:ops.toList[k]?=some ops[k]:=by simp[hk2]
   have:=(hone k _ ho).2
   rw[Bool.or_eq_true]at this
   rcases this with h|h
   ·have hkt:k<t:=by simpa using h
    rw[List.length_take]at hk1
    simp at hk1
    omega
   ·rw[List.all_eq_true]at h
    exact oe (h j (by simpa using hj))
 rw[GM]at h
 unfold wx at h
 rw[fR,fQ]at h
 refine wpIn_region_any hm ?_
 have none:∀k,¬(Array.replicate ops.size false).getD k false=true:=by
  intro k hy
  rw[Array.getD_eq_getD_getElem?]at hy
  by_cases hk:k<ops.size
  ·simp[hk]at hy
  ·simp[hk]at hy
 have nonef:∀k,(Array.replicate ops.size false).getD k false=false:=fun k=>by
  cases hc:(Array.replicate ops.size false).getD k false with
  |false=>rfl
  |true=>exact absurd hc (none k)
 have e:(fun k=>(Array.replicate ops.size false).getD k false=true)=(fun _=>False):=by
  funext k
  exact propext ⟨fun h=>none k h,fun h=>h.elim⟩
 have hun:unl ops.size (Array.replicate ops.size false)≤ops.size:=by
  unfold unl
  exact Nat.le_trans (List.length_filter_le _ _) (by simp)
 obtain⟨S,hS0,hS,hK⟩:=Ab (cfg:={cfg with apn:=false}) hf0 (ops.toList.take t) h
 have hrun:eE {cfg with apn:=false} (ops.toList.take t) (cw ops.toList) s S:=⟨hS0,hS⟩
 have key:∃wk,GK wk (ops.toList.take t) s∧(wk=true→∀j,j≤(ops.toList.take t).length→(S j).hp=s.hp)∧φ (eI cfg fail ci ops.toList (cw ops.toList) (ops.toList.drop t) (S (ops.toList.take t).length) fun s'=>match cw ops.toList with
   |true=>K {s' with tm:=ec s'.tm}
   |false=>K s'):=by
  rw[fR,Bool.or_eq_true]at hkA
  cases hkf:AK false (ops.toList.take t) s (reach (ops.toList.take t))with
  |true=>
   rw[hkf]at hK
   exact⟨false,GK.of hkf,(fun e=>by cases e),hK⟩
  |false=>
   rw[hkf,Bool.false_or]at hK
   have hgk:GK true (ops.toList.take t) s:=GK.of (hkA.resolve_left (by rw[hkf];simp))
   cases hlen:Nat.beq (S (ops.toList.take t).length).hp.length s.hp.length with
   |false=>rw[hlen]at hK;exact absurd hK hf0
   |true=>
    rw[hlen,XU]at hK
    have hlen':=XS hlen
    refine⟨true,hgk,fun _ j hj=>?_,hK⟩
    have p1:=hrun.grow hgk had rfl j hj
    have p2:=hrun.MI hgk had rfl j (ops.toList.take t).length hj (Nat.le_refl _)
    have l1:=p1.length_le
    have l2:=p2.length_le
    exact(p1.eq_of_length (by omega)).symm
 obtain⟨wk,hgk,hwk,hK⟩:=key
 refine Ls (cfg:=cfg) (ci:=ci) (cfgF:={cfg with apn:=false}) hf0 hq hG hci hq' hx hrun hgk hwk had rfl hn (ρ0:=ρ) hK ?_ ops.size _ a _ (by simp) hun (.inl ⟨s,ρ,fun k _=>nonef k,List.prefix_refl _,?_,hf,pg hr,fun _=>hn⟩) (fun k p _ hy=>absurd hy (none k))
 ·intro s' ρ' a' w' h1 h2 h3 h4 h5
  cases hg:cw ops.toList with
  |true=>
   rw[hg]at h1
   exact⟨{tm:=ec s'.tm,hp:=s'.hp},ρ',h1,h2,h3.clear,h4,fun _=>fN _⟩
  |false=>
   rw[hg]at h1
   exact⟨s',ρ',h1,h2,h3,h4,fun _=>h5 hg⟩
 ·rw[e]
  exact AtG.start hrun
theorem jm (hm:P.follows .mixedOrders=true) (hf0:¬φ fail) (hq:EOk P G cfg) (hG:G w0.w):fe P w0 cfg fail φ:=by
 refine⟨fun rn id ops s K ρ a w hd h hf hr hn=>?_,fun rn id ops s K ρ a w hd h hf hr hn=>?_,fun ci hci rn id ops t s K ρ a w hd h hf hr hn=>NM hm hf0 hq hG hci hd h hf hr hn⟩
 ·unfold Hd at hd
  cases hqk:tG ops.toList with
  |true=>exact Lp hm hf0 hq.toQOk hG hqk h hf hr hn
  |false=>
   rw[hqk,XV]at hd
   exact LM hm hf0 hq hG hd h hf hr hn
 ·have hq':EOk P G {cfg with apn:=false}:={toQOk:={hq.toQOk with},makes:=hq.makes,writes:=hq.writes}
  unfold Hw at hd
  cases hk:Mr ops.toList s (reach ops.toList)with
  |true=>exact KC hm hf0 hq' rfl hG hk h hf hr hn
  |false=>
   rw[hk,Bool.false_or]at hd
   exact Km hm hf0 hq' rfl hG hd h hf hr hn
end
end Go.Proofs.YtfhepbbkggdlcaaGreatDoor.Px
