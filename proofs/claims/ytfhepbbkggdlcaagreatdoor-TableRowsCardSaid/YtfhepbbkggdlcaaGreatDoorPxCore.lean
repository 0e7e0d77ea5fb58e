/- One operation: what it puts, and what it makes of the heap. -/
import Derived.Test.YtfhepbbkggdlcaaGreatDoorPxAnc
set_option linter.unusedVariables false
set_option linter.unusedSimpArgs false
namespace Go.Proofs.YtfhepbbkggdlcaaGreatDoor.Px
open Go Go.RowKit
section
variable [X:bQ] {P:Program} {G:World→Prop} {cfg:Cfg (X:=X)} {w0:cf}
def gcs (ops:List Oper) (o:Oper) (tm:List Slot):Option (List (Nat×Bool)):=
 match o.guard with
 |none=>some []
 |some (g,pol)=>match nth ops g with
  |some og=>match og.dst with
   |some tg=>match cG tm tg with
    |some (ds,_)=>some (ds++[(tg,pol)])
    |none=>none
   |none=>none
  |none=>none
def runCore (cfg:Cfg (X:=X)) (cs:List (Nat×Bool)) (op:Op) (hp:List (Blk (X:=X))) (tm:List Slot):Option (Slot×List (Blk (X:=X))):=
 match aB cfg hp tm cs op with
 |some (ok,v)=>cond ok (some (.is v,hp)) none
 |none=>match op with
  | .pick c a b=>match mC tm cs c a b with
   |some v=>some (.is v,hp)
   |none=>match c with
    | .tmp t=>match cG tm t with
     |some (ds,g)=>cond (ds.all (eg cs)) (match rd tm ((t,g)::cs) (cond g a b)with
      |some v=>some (.is v,hp)
      |none=>none) none
     |none=>none
    |_=>none
  |op=>match a8 cfg hp tm cs op with
   |some (ok,some v,h)=>cond ok (some (.is v,h)) none
   |some (ok,none,h)=>cond ok (some (.any,h)) none
   |none=>none
def core (cfg:Cfg (X:=X)) (o:Oper) (cs:List (Nat×Bool)) (hp:List (Blk (X:=X))) (tm:List Slot):Option (Slot×List (Blk (X:=X))):=
 match o.guard with
 |none=>runCore cfg [] o.op hp tm
 |some _=>match aB cfg hp tm cs o.op with
  |some (ok,v)=>cond (or ok (not (aD tm cs))) (some (.opt cs v,hp)) none
  |none=>match o.op with
   | .pick c a b=>match mC tm cs c a b with
    |some v=>some (.opt cs v,hp)
    |none=>cond (aD tm cs) (runCore cfg cs o.op hp tm) (some (.opt cs (.bool false),hp))
   |_=>cond (aD tm cs) (runCore cfg cs o.op hp tm) (some (.opt cs (.bool false),hp))
def SU (hasG:Bool) (o:Oper) (tm:List Slot):Option (Slot×List (Blk (X:=X)))→Option (St (X:=X))
 |some (sl,h)=>zG none hasG o sl {tm:=tm,hp:=h} some
 |none=>none
theorem LF {hasG:Bool} {cs:List (Nat×Bool)} {o:Oper} {s:St (X:=X)}:rr cfg none (fun _ _ _ _=>none) hasG cs o s some=SU hasG o s.tm (runCore cfg cs o.op s.hp s.tm):=by
 rw[ou]
 unfold vW runCore
 simp only[o8]
 cases hp:aB cfg s.hp s.tm cs o.op with
 |some r=>obtain⟨ok,v⟩:=r;cases ok<;>rfl
 |none=>
  generalize o.op=op
  simp only
  cases op
  case pick c a b=>
   simp only
   cases hv:mC s.tm cs c a b with
   |some v=>rfl
   |none=>
    simp only
    cases c
    case tmp t=>
     simp only
     cases hb:cG s.tm t with
     |none=>rfl
     |some r=>
      obtain⟨ds,g⟩:=r
      simp only
      cases ds.all (eg cs)with
      |false=>rfl
      |true=>
       cases g with
       |true=>simp only[XU];cases rd s.tm ((t,true)::cs) a<;>rfl
       |false=>simp only[XU,XV];cases rd s.tm ((t,false)::cs) b<;>rfl
    all_goals rfl
  case call c=>
   simp only
   generalize a8 cfg s.hp s.tm cs _=r
   rcases r with _|⟨ok,_|v,h⟩
   ·simp only
    split
    ·split
     ·rw[Bool.cond_self];rfl
     ·rfl
     ·rfl
    ·split
     ·split
      ·rw[Bool.cond_self];rfl
      ·rfl
     ·rfl
    ·rfl
   ·cases ok<;>rfl
   ·cases ok<;>rfl
  all_goals
   simp only
   generalize a8 cfg s.hp s.tm cs _=r
   rcases r with _|⟨ok,_|v,h⟩
   ·rfl
   ·cases ok<;>rfl
   ·cases ok<;>rfl
theorem dL {ops:List Oper} {hasG:Bool} {o:Oper} {s:St (X:=X)}:lL cfg ops hasG o s=match gcs ops o s.tm with
  |some cs=>SU hasG o s.tm (core cfg o cs s.hp s.tm)
  |none=>none:=by
 unfold lL o6 gcs
 simp only[o8,LF]
 cases hg:o.guard with
 |none=>simp only[core,hg]
 |some gp=>
  obtain⟨g,pol⟩:=gp
  simp only
  cases nth ops g with
  |none=>rfl
  |some og=>
   simp only
   cases og.dst with
   |none=>rfl
   |some tg=>
    simp only
    cases cG s.tm tg with
    |none=>rfl
    |some r=>
     obtain⟨ds,b⟩:=r
     simp only[core,hg]
     cases hp:aB cfg s.hp s.tm (ds++[(tg,pol)]) o.op with
     |some r=>
      obtain⟨ok,v⟩:=r
      simp only
      cases (or ok (not (aD s.tm (ds++[(tg,pol)]))))<;>rfl
     |none=>
      simp only
      cases hop:o.op
      case pick c a e=>
       simp only
       cases mC s.tm (ds++[(tg,pol)]) c a e with
       |some v=>rfl
       |none=>simp only;cases aD s.tm (ds++[(tg,pol)])<;>rfl
      all_goals
       simp only
       cases aD s.tm (ds++[(tg,pol)])<;>rfl
end
end Go.Proofs.YtfhepbbkggdlcaaGreatDoor.Px


namespace Go.Proofs.YtfhepbbkggdlcaaGreatDoor.Px
open Go Go.RowKit
section
variable [X:bQ] {P:Program} {G:World→Prop} {cfg:Cfg (X:=X)} {w0:cf}
omit X in
theorem iq {tm tm':List Slot} {t:Nat} (h:tm'[t]?=tm[t]?):cG tm' t=cG tm t:=by
 simp only[cG,aG,h]
omit X in
theorem sf {tm tm':List Slot}:∀{cs:List (Nat×Bool)},(∀c∈cs,tm'[c.1]?=tm[c.1]?)→aD tm' cs=aD tm cs
 | [],_=>rfl
 | [c],h=>by simp only[aD,iq (h c (List.mem_cons_self ..))]
 |c::d::l,h=>by
  simp only[aD,iq (h c (List.mem_cons_self ..))]
  rw[sf (cs:=d::l) (fun x hx=>h x (List.mem_cons_of_mem _ hx))]
omit X in
theorem Al {tm tm':List Slot} {cs:List (Nat×Bool)} {c a b:Operand} (h:∀t, .tmp t=c∨ .tmp t=a∨ .tmp t=b→tm'[t]?=tm[t]?):mC tm' cs c a b=mC tm cs c a b:=by
 cases c with
 |tmp t=>
  have e1:∀cs,rd tm' cs a=rd tm cs a:=fun cs=>aT (fun t e=>h t (by rw[e];simp))
  have e2:∀cs,rd tm' cs b=rd tm cs b:=fun cs=>aT (fun t e=>h t (by rw[e];simp))
  simp only[mC,iq (h t (by simp)),e1,e2]
 |_=>rfl
theorem DU {cs:List (Nat×Bool)} {hp:List (Blk (X:=X))} {tm:List Slot} {t:Nat} {ps:Array (Nat×Operand)}:a8 cfg hp tm cs (.buildSlice t 0 ps)=match ps.toList,look cfg.ti t with
  | [],some i=>match i.el with
   |some el=>cond (and i.slice (Nat.beq i.esz (X.width el))) (some (true,some (.sl hp.length 0 i.esz 0 none),hp++[.vec el [] true])) none
   |none=>none
  |_,_=>none:=rfl
theorem DR {cs:List (Nat×Bool)} {hp:List (Blk (X:=X))} {tm:List Slot} {t n:Nat} {ps:Array (Nat×Operand)}:a8 cfg hp tm cs (.buildSlice t (n+1) ps)=match parts tm cs ps.toList,look cfg.ti t with
  |some vs,some i=>cond (and i.slice (and (and (Nat.beq i.zero.length i.esz) (Nat.ble 1 i.esz)) (and (Nat.ble 1 (n+1)) (Nat.ble ((n+1)*i.esz) 4096)))) (match xA i.esz (Lx (n+1) i.zero) vs with
   |some cells=>some (true,some (.sl hp.length 0 i.esz (n+1) (some (n+1))),hp++[.raw cells])
   |none=>none) none
  |_,_=>none:=rfl
theorem En {cs:List (Nat×Bool)} {o:Oper} {hp:List (Blk (X:=X))} {tm tm':List Slot} (h:su o tm tm') (hk:cZ o.op=some 0∨cZ o.op=some 1∨cZ o.op=some 2):a8 cfg hp tm' cs o.op=a8 cfg hp tm cs o.op:=by
 have hr:=ot h
 obtain⟨dst,op,ty,pos,after,gd⟩:=o
 simp only at*
 cases op<;>simp[cZ,aJ]at hk<;>try (simp only[a8];done)
 case buildSlice t n ps=>
  have e:parts tm' cs ps.toList=parts tm cs ps.toList:=rH (fun t ht=>hr t (by simpa[Op.operands]using ht))
  cases n with
  |zero=>rw[DU,DU]
  |succ n=>rw[DR,DR,e]
 case slice t x lo hi mx=>
  have e1:rd tm' cs x=rd tm cs x:=aT (fun t e=>hr t (by simp[Op.operands,e]))
  have e2:fA tm' cs 0 lo=fA tm cs 0 lo:=iT (fun y e=>aT (fun t e'=>hr t (by simp[Op.operands,e,e'])))
  have e3:fA tm' cs 0 hi=fA tm cs 0 hi:=iT (fun y e=>aT (fun t e'=>hr t (by simp[Op.operands,e,e'])))
  have e4:fA tm' cs 0 mx=fA tm cs 0 mx:=iT (fun y e=>aT (fun t e'=>hr t (by simp[Op.operands,e,e'])))
  simp only[a8,e1,e2,e3,e4]
 rename_i c
 have e1:rds tm' cs c.args.toList=rds tm cs c.args.toList:=oo (fun t ht=>hr t (by simp[Op.operands,Call.operands];exact .inr (by simpa using ht)))
 simp only[a8,e1]
 cases rds tm cs c.args.toList with
 |none=>rfl
 |some args=>
  simp only
  cases hcal:c.callee with
  |value f=>simp only;rw[aT (x:=f) (fun t e=>hr t (by simp[Op.operands,Call.operands,hcal,e]))]
  |builtin b=>cases b<;>rfl
  |_=>rfl
def B5 (cs:List (Nat×Bool)) (o:Oper) (tm:List Slot) (hp hp':List (Blk (X:=X))):Prop:=
 aJ o.op=some 0∨hp'=hp∨(∃t x,o.op= .load t x∧∀(v:AV) (i:Bool×Nat),rd tm cs x=some v→loadAt (X:=X) i.1 i.2 hp' v=loadAt i.1 i.2 hp v)
def Still (cfg:Cfg (X:=X)) (op:Op):Prop:=aJ op=some 0∨aJ op=some 1∨(cfg.apn=false∧∃t x lo hi,op= .slice t x lo hi none)
theorem Kv (hn:cfg.apn=false) {op:Op} (h:cZ op=some 0∨cZ op=some 1):Still cfg op:=by
 cases op
 case slice t x lo hi mx=>
  cases mx with
  |none=>exact .inr (.inr ⟨hn,_,_,_,_,rfl⟩)
  |some m=>simp[cZ,aJ]at h
 all_goals first
  |(simp[cZ,aJ]at h;done)
  |simp[Still,aJ]
omit X in
theorem Wi {op:Op} (h:cZ op=some 0):aJ op=some 0:=by
 cases op
 case slice t x lo hi mx=>cases mx<;>simp[cZ,aJ]at h
 all_goals simp[cZ,aJ]at h⊢
omit X in
theorem PT {op:Op} (h:aJ op=some 0):cZ op=some 0:=by
 cases op<;>simp[cZ,aJ]at h⊢
theorem Ah {cs:List (Nat×Bool)} {op:Op} {hp:List (Blk (X:=X))} {tm:List Slot} (hk:Still cfg op):a8 cfg hp tm cs op=none:=by
 rcases hk with hk|hk|⟨hn,t,x,lo,hi,rfl⟩
 ·cases op<;>simp[aJ]at hk<;>simp only[a8]
 ·cases op<;>simp[aJ]at hk<;>simp only[a8]
 ·simp only[a8,hn,XV]
theorem vl {cs:List (Nat×Bool)} {o:Oper} {hp hp':List (Blk (X:=X))} {tm tm':List Slot} {sl:Slot} {h1:List (Blk (X:=X))} (h:su o tm tm') (hm:B5 cs o tm hp hp') (hk:Still cfg o.op)
  (hc:runCore cfg cs o.op hp tm=some (sl,h1)):h1=hp∧runCore cfg cs o.op hp' tm'=some (sl,hp'):=by
 have hp1:=fl (cfg:=cfg) (cs:=cs) h hm
 have he1:=Ah (cfg:=cfg) (cs:=cs) (hp:=hp) (tm:=tm) hk
 have he2:=Ah (cfg:=cfg) (cs:=cs) (hp:=hp') (tm:=tm') hk
 have hr:=ot h
 unfold runCore at hc⊢
 rw[hp1]
 cases hpo:aB cfg hp tm cs o.op with
 |some r=>
  obtain⟨ok,v⟩:=r
  rw[hpo]at hc
  cases ok with
  |false=>cases hc
  |true=>simp only[XU,XQ,Prod.mk.injEq]at hc;obtain⟨rfl,rfl⟩:=hc;exact⟨rfl,rfl⟩
 |none=>
  rw[hpo]at hc
  cases hop:o.op
  case pick c a b=>
   rw[hop]at hc hr
   simp only at hc⊢
   have hv:=Al (cs:=cs) (c:=c) (a:=a) (b:=b) (tm:=tm) (tm':=tm') (fun t ht=>hr t (by simp[Op.operands];exact ht))
   rw[hv]
   cases hpv:mC tm cs c a b with
   |some v=>rw[hpv]at hc;simp only[XQ,Prod.mk.injEq]at hc;obtain⟨rfl,rfl⟩:=hc;exact⟨rfl,rfl⟩
   |none=>
    rw[hpv]at hc
    simp only at hc⊢
    cases c
    case tmp t=>
     simp only at hc⊢
     rw[iq (hr t (by simp[Op.operands]))]
     cases hb:cG tm t with
     |none=>rw[hb]at hc;cases hc
     |some r=>
      obtain⟨ds,g⟩:=r
      rw[hb]at hc
      simp only at hc⊢
      have e1:rd tm' ((t,g)::cs) (cond g a b)=rd tm ((t,g)::cs) (cond g a b):=aT (fun u e=>hr u (by cases g<;>simp[Op.operands,←e]))
      rw[e1]
      cases hds:ds.all (eg cs)with
      |false=>rw[hds]at hc;cases hc
      |true=>
       rw[hds,XU]at hc
       rw[XU]
       cases hrd:rd tm ((t,g)::cs) (cond g a b)with
       |none=>rw[hrd]at hc;cases hc
       |some v=>rw[hrd]at hc;simp only[XQ,Prod.mk.injEq]at hc;obtain⟨rfl,rfl⟩:=hc;exact⟨rfl,rfl⟩
    all_goals cases hc
  all_goals
   rw[hop]at hc he1
   simp only[he1]at hc
   cases hc
end
end Go.Proofs.YtfhepbbkggdlcaaGreatDoor.Px
