/- One operation: what it puts, and what it makes of the heap. -/
import Derived.Test.YtdadgkgkdgnihaaPxAnc
set_option linter.unusedVariables false
set_option linter.unusedSimpArgs false
namespace Go.Proofs.Ytdadgkgkdgnihaa.Px
open Go Go.RowKit
section
variable [X:aS] {P:Program} {G:World→Prop} {cfg:Cfg (X:=X)} {w0:aN}
def gcs (ops:List Oper) (o:Oper) (tm:List Slot):Option (List (Nat×Bool)):=
 match o.guard with
 |none=>some []
 |some (g,pol)=>match nth ops g with
  |some og=>match og.dst with
   |some tg=>match a8 tm tg with
    |some (ds,_)=>some (ds++[(tg,pol)])
    |none=>none
   |none=>none
  |none=>none
def runCore (cfg:Cfg (X:=X)) (cs:List (Nat×Bool)) (op:Op) (hp:List (Blk (X:=X))) (tm:List Slot):Option (Slot×List (Blk (X:=X))):=
 match af cfg hp tm cs op with
 |some (ok,v)=>cond ok (some (.is v,hp)) none
 |none=>match op with
  | .pick c a b=>match fu tm cs c a b with
   |some v=>some (.is v,hp)
   |none=>match c with
    | .tmp t=>match a8 tm t with
     |some (ds,g)=>cond (ds.all (bW cs)) (match rd tm ((t,g)::cs) (cond g a b)with
      |some v=>some (.is v,hp)
      |none=>none) none
     |none=>none
    |_=>none
  |op=>match aA cfg hp tm cs op with
   |some (ok,some v,h)=>cond ok (some (.is v,h)) none
   |some (ok,none,h)=>cond ok (some (.any,h)) none
   |none=>none
def core (cfg:Cfg (X:=X)) (o:Oper) (cs:List (Nat×Bool)) (hp:List (Blk (X:=X))) (tm:List Slot):Option (Slot×List (Blk (X:=X))):=
 match o.guard with
 |none=>runCore cfg [] o.op hp tm
 |some _=>match af cfg hp tm cs o.op with
  |some (ok,v)=>cond (or ok (not (ai tm cs))) (some (.opt cs v,hp)) none
  |none=>match o.op with
   | .pick c a b=>match fu tm cs c a b with
    |some v=>some (.opt cs v,hp)
    |none=>cond (ai tm cs) (runCore cfg cs o.op hp tm) (some (.opt cs (.bool false),hp))
   |_=>cond (ai tm cs) (runCore cfg cs o.op hp tm) (some (.opt cs (.bool false),hp))
def zf (hasG:Bool) (o:Oper) (tm:List Slot):Option (Slot×List (Blk (X:=X)))→Option (St (X:=X))
 |some (sl,h)=>lX none hasG o sl {tm:=tm,hp:=h} some
 |none=>none
theorem tw {hasG:Bool} {cs:List (Nat×Bool)} {o:Oper} {s:St (X:=X)}:iL cfg none (fun _ _ _ _=>none) hasG cs o s some=zf hasG o s.tm (runCore cfg cs o.op s.hp s.tm):=by
 rw[gg]
 unfold kp runCore
 simp only[gK]
 cases hp:af cfg s.hp s.tm cs o.op with
 |some r=>obtain⟨ok,v⟩:=r;cases ok<;>rfl
 |none=>
  generalize o.op=op
  simp only
  cases op
  case pick c a b=>
   simp only
   cases hv:fu s.tm cs c a b with
   |some v=>rfl
   |none=>
    simp only
    cases c
    case tmp t=>
     simp only
     cases hb:a8 s.tm t with
     |none=>rfl
     |some r=>
      obtain⟨ds,g⟩:=r
      simp only
      cases ds.all (bW cs)with
      |false=>rfl
      |true=>
       cases g with
       |true=>simp only[B4];cases rd s.tm ((t,true)::cs) a<;>rfl
       |false=>simp only[B4,B5];cases rd s.tm ((t,false)::cs) b<;>rfl
    all_goals rfl
  case call c=>
   simp only
   generalize aA cfg s.hp s.tm cs _=r
   rcases r with _|⟨ok,_|v,h⟩
   ·simp only
    split
    ·split
     ·rw[Bool.cond_self];rfl
     ·rfl
     ·rfl
    ·split
     ·split
      ·rw[Bool.cond_self];rfl
      ·rfl
     ·rfl
    ·rfl
   ·cases ok<;>rfl
   ·cases ok<;>rfl
  all_goals
   simp only
   generalize aA cfg s.hp s.tm cs _=r
   rcases r with _|⟨ok,_|v,h⟩
   ·rfl
   ·cases ok<;>rfl
   ·cases ok<;>rfl
theorem bI {ops:List Oper} {hasG:Bool} {o:Oper} {s:St (X:=X)}:fb cfg ops hasG o s=match gcs ops o s.tm with
  |some cs=>zf hasG o s.tm (core cfg o cs s.hp s.tm)
  |none=>none:=by
 unfold fb fR gcs
 simp only[gK,tw]
 cases hg:o.guard with
 |none=>simp only[core,hg]
 |some gp=>
  obtain⟨g,pol⟩:=gp
  simp only
  cases nth ops g with
  |none=>rfl
  |some og=>
   simp only
   cases og.dst with
   |none=>rfl
   |some tg=>
    simp only
    cases a8 s.tm tg with
    |none=>rfl
    |some r=>
     obtain⟨ds,b⟩:=r
     simp only[core,hg]
     cases hp:af cfg s.hp s.tm (ds++[(tg,pol)]) o.op with
     |some r=>
      obtain⟨ok,v⟩:=r
      simp only
      cases (or ok (not (ai s.tm (ds++[(tg,pol)]))))<;>rfl
     |none=>
      simp only
      cases hop:o.op
      case pick c a e=>
       simp only
       cases fu s.tm (ds++[(tg,pol)]) c a e with
       |some v=>rfl
       |none=>simp only;cases ai s.tm (ds++[(tg,pol)])<;>rfl
      all_goals
       simp only
       cases ai s.tm (ds++[(tg,pol)])<;>rfl
end
end Go.Proofs.Ytdadgkgkdgnihaa.Px


namespace Go.Proofs.Ytdadgkgkdgnihaa.Px
open Go Go.RowKit
section
variable [X:aS] {P:Program} {G:World→Prop} {cfg:Cfg (X:=X)} {w0:aN}
omit X in
theorem dn {tm tm':List Slot} {t:Nat} (h:tm'[t]?=tm[t]?):a8 tm' t=a8 tm t:=by
 simp only[a8,ak,h]
omit X in
theorem iI {tm tm':List Slot}:∀{cs:List (Nat×Bool)},(∀c∈cs,tm'[c.1]?=tm[c.1]?)→ai tm' cs=ai tm cs
 | [],_=>rfl
 | [c],h=>by simp only[ai,dn (h c (List.mem_cons_self ..))]
 |c::d::l,h=>by
  simp only[ai,dn (h c (List.mem_cons_self ..))]
  rw[iI (cs:=d::l) (fun x hx=>h x (List.mem_cons_of_mem _ hx))]
omit X in
theorem mE {tm tm':List Slot} {cs:List (Nat×Bool)} {c a b:Operand} (h:∀t, .tmp t=c∨ .tmp t=a∨ .tmp t=b→tm'[t]?=tm[t]?):fu tm' cs c a b=fu tm cs c a b:=by
 cases c with
 |tmp t=>
  have e1:∀cs,rd tm' cs a=rd tm cs a:=fun cs=>aw (fun t e=>h t (by rw[e];simp))
  have e2:∀cs,rd tm' cs b=rd tm cs b:=fun cs=>aw (fun t e=>h t (by rw[e];simp))
  simp only[fu,dn (h t (by simp)),e1,e2]
 |_=>rfl
theorem oz {cs:List (Nat×Bool)} {hp:List (Blk (X:=X))} {tm:List Slot} {t:Nat} {ps:Array (Nat×Operand)}:aA cfg hp tm cs (.buildSlice t 0 ps)=match ps.toList,look cfg.ti t with
  | [],some i=>match i.el with
   |some el=>cond (and i.slice (Nat.beq i.esz (X.width el))) (some (true,some (.sl hp.length 0 i.esz 0 none),hp++[.vec el [] true])) none
   |none=>none
  |_,_=>none:=rfl
theorem om {cs:List (Nat×Bool)} {hp:List (Blk (X:=X))} {tm:List Slot} {t n:Nat} {ps:Array (Nat×Operand)}:aA cfg hp tm cs (.buildSlice t (n+1) ps)=match parts tm cs ps.toList,look cfg.ti t with
  |some vs,some i=>cond (and i.slice (and (and (Nat.beq i.zero.length i.esz) (Nat.ble 1 i.esz)) (and (Nat.ble 1 (n+1)) (Nat.ble ((n+1)*i.esz) 4096)))) (match kX i.esz (td (n+1) i.zero) vs with
   |some cells=>some (true,some (.sl hp.length 0 i.esz (n+1) (some (n+1))),hp++[.raw cells])
   |none=>none) none
  |_,_=>none:=rfl
theorem pr {cs:List (Nat×Bool)} {o:Oper} {hp:List (Blk (X:=X))} {tm tm':List Slot} (h:iG o tm tm') (hk:bk o.op=some 0∨bk o.op=some 1∨bk o.op=some 2):aA cfg hp tm' cs o.op=aA cfg hp tm cs o.op:=by
 have hr:=fV h
 obtain⟨dst,op,ty,pos,after,gd⟩:=o
 simp only at*
 cases op<;>simp[bk,aq]at hk<;>try (simp only[aA];done)
 case buildSlice t n ps=>
  have e:parts tm' cs ps.toList=parts tm cs ps.toList:=iq (fun t ht=>hr t (by simpa[Op.operands]using ht))
  cases n with
  |zero=>rw[oz,oz]
  |succ n=>rw[om,om,e]
 case slice t x lo hi mx=>
  have e1:rd tm' cs x=rd tm cs x:=aw (fun t e=>hr t (by simp[Op.operands,e]))
  have e2:cM tm' cs 0 lo=cM tm cs 0 lo:=dk (fun y e=>aw (fun t e'=>hr t (by simp[Op.operands,e,e'])))
  have e3:cM tm' cs 0 hi=cM tm cs 0 hi:=dk (fun y e=>aw (fun t e'=>hr t (by simp[Op.operands,e,e'])))
  have e4:cM tm' cs 0 mx=cM tm cs 0 mx:=dk (fun y e=>aw (fun t e'=>hr t (by simp[Op.operands,e,e'])))
  simp only[aA,e1,e2,e3,e4]
 rename_i c
 have e1:rds tm' cs c.args.toList=rds tm cs c.args.toList:=fW (fun t ht=>hr t (by simp[Op.operands,Call.operands];exact .inr (by simpa using ht)))
 simp only[aA,e1]
 cases rds tm cs c.args.toList with
 |none=>rfl
 |some args=>
  simp only
  cases hcal:c.callee with
  |value f=>simp only;rw[aw (x:=f) (fun t e=>hr t (by simp[Op.operands,Call.operands,hcal,e]))]
  |builtin b=>cases b<;>rfl
  |_=>rfl
def nz (cs:List (Nat×Bool)) (o:Oper) (tm:List Slot) (hp hp':List (Blk (X:=X))):Prop:=
 aq o.op=some 0∨hp'=hp∨(∃t x,o.op= .load t x∧∀(v:AV) (i:Bool×Nat),rd tm cs x=some v→loadAt (X:=X) i.1 i.2 hp' v=loadAt i.1 i.2 hp v)
def Still (cfg:Cfg (X:=X)) (op:Op):Prop:=aq op=some 0∨aq op=some 1∨(cfg.apn=false∧∃t x lo hi,op= .slice t x lo hi none)
theorem sX (hn:cfg.apn=false) {op:Op} (h:bk op=some 0∨bk op=some 1):Still cfg op:=by
 cases op
 case slice t x lo hi mx=>
  cases mx with
  |none=>exact .inr (.inr ⟨hn,_,_,_,_,rfl⟩)
  |some m=>simp[bk,aq]at h
 all_goals first
  |(simp[bk,aq]at h;done)
  |simp[Still,aq]
omit X in
theorem Bo {op:Op} (h:bk op=some 0):aq op=some 0:=by
 cases op
 case slice t x lo hi mx=>cases mx<;>simp[bk,aq]at h
 all_goals simp[bk,aq]at h⊢
omit X in
theorem w7 {op:Op} (h:aq op=some 0):bk op=some 0:=by
 cases op<;>simp[bk,aq]at h⊢
theorem mz {cs:List (Nat×Bool)} {op:Op} {hp:List (Blk (X:=X))} {tm:List Slot} (hk:Still cfg op):aA cfg hp tm cs op=none:=by
 rcases hk with hk|hk|⟨hn,t,x,lo,hi,rfl⟩
 ·cases op<;>simp[aq]at hk<;>simp only[aA]
 ·cases op<;>simp[aq]at hk<;>simp only[aA]
 ·simp only[aA,hn,B5]
theorem jB {cs:List (Nat×Bool)} {o:Oper} {hp hp':List (Blk (X:=X))} {tm tm':List Slot} {sl:Slot} {h1:List (Blk (X:=X))} (h:iG o tm tm') (hm:nz cs o tm hp hp') (hk:Still cfg o.op)
  (hc:runCore cfg cs o.op hp tm=some (sl,h1)):h1=hp∧runCore cfg cs o.op hp' tm'=some (sl,hp'):=by
 have hp1:=cA (cfg:=cfg) (cs:=cs) h hm
 have he1:=mz (cfg:=cfg) (cs:=cs) (hp:=hp) (tm:=tm) hk
 have he2:=mz (cfg:=cfg) (cs:=cs) (hp:=hp') (tm:=tm') hk
 have hr:=fV h
 unfold runCore at hc⊢
 rw[hp1]
 cases hpo:af cfg hp tm cs o.op with
 |some r=>
  obtain⟨ok,v⟩:=r
  rw[hpo]at hc
  cases ok with
  |false=>cases hc
  |true=>simp only[B4,B0,Prod.mk.injEq]at hc;obtain⟨rfl,rfl⟩:=hc;exact⟨rfl,rfl⟩
 |none=>
  rw[hpo]at hc
  cases hop:o.op
  case pick c a b=>
   rw[hop]at hc hr
   simp only at hc⊢
   have hv:=mE (cs:=cs) (c:=c) (a:=a) (b:=b) (tm:=tm) (tm':=tm') (fun t ht=>hr t (by simp[Op.operands];exact ht))
   rw[hv]
   cases hpv:fu tm cs c a b with
   |some v=>rw[hpv]at hc;simp only[B0,Prod.mk.injEq]at hc;obtain⟨rfl,rfl⟩:=hc;exact⟨rfl,rfl⟩
   |none=>
    rw[hpv]at hc
    simp only at hc⊢
    cases c
    case tmp t=>
     simp only at hc⊢
     rw[dn (hr t (by simp[Op.operands]))]
     cases hb:a8 tm t with
     |none=>rw[hb]at hc;cases hc
     |some r=>
      obtain⟨ds,g⟩:=r
      rw[hb]at hc
      simp only at hc⊢
      have e1:rd tm' ((t,g)::cs) (cond g a b)=rd tm ((t,g)::cs) (cond g a b):=aw (fun u e=>hr u (by cases g<;>simp[Op.operands,←e]))
      rw[e1]
      cases hds:ds.all (bW cs)with
      |false=>rw[hds]at hc;cases hc
      |true=>
       rw[hds,B4]at hc
       rw[B4]
       cases hrd:rd tm ((t,g)::cs) (cond g a b)with
       |none=>rw[hrd]at hc;cases hc
       |some v=>rw[hrd]at hc;simp only[B0,Prod.mk.injEq]at hc;obtain⟨rfl,rfl⟩:=hc;exact⟨rfl,rfl⟩
    all_goals cases hc
  all_goals
   rw[hop]at hc he1
   simp only[he1]at hc
   cases hc
end
end Go.Proofs.Ytdadgkgkdgnihaa.Px
