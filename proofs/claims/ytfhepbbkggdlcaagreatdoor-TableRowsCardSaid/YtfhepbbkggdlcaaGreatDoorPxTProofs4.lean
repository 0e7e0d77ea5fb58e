/- Days of rest, sunsets and windows: the functions are what is said of them. -/
import Derived.Test.YtfhepbbkggdlcaaGreatDoorPxTProofs
import Derived.Test.YtfhepbbkggdlcaaGreatDoorPxSpecFeast
set_option linter.unusedVariables false
set_option linter.unusedSimpArgs false
namespace Go.Proofs.YtfhepbbkggdlcaaGreatDoor.Px.PxT
open Go Go.Proofs
set_option maxRecDepth 10000
theorem mE (n:Int):inH n=true↔249≤n∧n<2278651:=by
 simp only[inH,XR,XT]
theorem C2 (a0:Int) (a1:Bool):∃F d,run k46 F d 192 Tryz.f192 pw (a0,a1,())=some (xE.enc (bb a0 a1)):=by
 refine⟨200,6,?_⟩
 rw[AQ]
 unfold bb A6 lv
 cases hi:inH a0 with
 |false=>
  simp only[XV]
  rw[show(!((41:Int)==0))=true from rfl,Bool.or_true]
  rfl
 |true=>
  have hb:=(mE a0).1 hi
  rw[show cS a0=true from(cO _).2 (by omega)]
  simp only[XU,Bool.true_and,Bool.true_or]
  have e:(bif((0:Int)==0)then bif av a0==6 then true else kO (ez a0).month (ez a0).day a1 != 0 else false)=(a0%7==6||kO (ez a0).month (ez a0).day a1 != 0):=by
   show(bif av a0==6 then true else kO (ez a0).month (ez a0).day a1 != 0)=_
   unfold av
   cases a0%7==6<;>rfl
  rw[e]
  rfl
theorem SX (O0:Int) (P0:Bool) (v0 v5:Int) (F d:Nat) (hb:v0=1∨v0= -1):∀(k:Nat) (x:Int) (n:Nat),inH x=true→cr v0 P0 k x=true→k≤n→
  Hs F (d+3) n (CQ O0 P0 v0 x)=some (.exit 0,(yh O0 P0 (bJ v0 P0 k x))):=by
 intro k
 induction k with
 |zero=>intro x n hi hr hn;cases hr
 |succ k ih=>
  intro x n hi hr hn
  obtain⟨n,rfl⟩:∃k,n=k+1:=⟨n-1,by omega⟩
  have hx:=(mE x).1 hi
  rw[NK,wrI (n:=x+v0) (by omega)]
  simp only[cr,Bool.or_eq_true,Bool.not_eq_true']at hr
  unfold bJ
  cases hc:bb (x+v0) P0 with
  |false=>rfl
  |true=>
   rw[hc]at hr
   rw[XU,XU]
   exact ih (x+v0) n ((n8 _ _).1 hc).1 (hr.resolve_left (by simp)) (by omega)
theorem Og (O0:Int) (P0:Bool) (v0 v5:Int) (hg:(kY v0 P0 v5)=true):∃N d,Hs N d N (CQ O0 P0 v0 v5)=some (a7 Prod.mk [] (.exit 0) (yh O0 P0 (bJ v0 P0 10 v5))):=by
 simp only[kY,XR,Bool.or_eq_true,beq_iff_eq]at hg
 exact⟨20,3,SX O0 P0 v0 v5 20 0 hg.1 10 v5 20 hg.2.1 hg.2.2 (by omega)⟩
theorem Ek (a0:Int) (a1:Bool):∃F d,run k48 F d 191 Tryz.f191 sO (a0,a1,())=some (An.enc (NF a0 a1)):=by
 refine⟨200,6,?_⟩
 rw[C3]
 unfold NF
 cases hr:bb a0 a1 with
 |false=>rfl
 |true=>
  have ho:=QF hr
  rw[ho.1,ho.2]
  rfl
theorem DY (a0:Int) (a1:Bool):∃F d,run k49 F d 174 Tryz.f174 oU (a0,a1,())=some (yM.enc (e9 a0 a1)):=by
 refine⟨200,6,?_⟩
 rw[A9]
 unfold e9 A6 lv
 cases inH a0<;>rfl
theorem Eo (a0:Sun) (a1:Int):∃F d,run k50 F d 195 Tryz.f195 sq (a0,a1,())=some (sJ.enc (AB a0 a1)):=by
 refine⟨200,6,?_⟩
 rw[D2]
 unfold AB
 cases hs:ax a0 != 0 with
 |true=>rfl
 |false=>
  have hs0:ax a0=0:=by simpa using hs
  cases hd:dt a1 with
  |false=>
   have he:Prod.snd (ofG a1)=21:=by
    unfold ofG
    rw[show(decide (a1<1)||decide (a1>3652059))=true by
     have h:¬(1≤a1∧a1≤3652059):=fun h=>by rw[c8.2 h]at hd;cases hd
     rw[Bool.or_eq_true,XT,XT]
     omega]
    rfl
   rw[he]
   rfl
  |true=>
   obtain⟨⟨m1,m2⟩,⟨d1,d2⟩,he,hL⟩:=BK hd
   have hr:=nZ hs0 hd
   have e1:IntKind.wrap IntKind.i64 ((ofG a1).1.month-1)=(ofG a1).1.month-1:=wrI (by omega)
   have e2:Int.tmod ((ofG a1).1.month-1) 12=(ofG a1).1.month-1:=by rw[Int.tmod_eq_emod_of_nonneg (by omega)];omega
   have e3:Int.tmod (ofG a1).1.month 12=(ofG a1).1.month%12:=Int.tmod_eq_emod_of_nonneg (by omega)
   have e4:IntKind.wrap IntKind.i64 ((ofG a1).1.day-1)=(ofG a1).1.day-1:=wrI (by omega)
   have ha:=gT hs0 (k:=((ofG a1).1.month-1).toNat) (by omega)
   have hb:=gT hs0 (k:=((ofG a1).1.month%12).toNat) (by omega)
   have hv:=rB (a:=cP (gH a0) ((ofG a1).1.month-1).toNat) (b:=cP (gH a0) ((ofG a1).1.month%12).toNat) (x:=(ofG a1).1.day-1) (d:=ai (ofG a1).1.year (ofG a1).1.month) (by omega) (by omega) (by omega)
   rw[e1,e2,e3,e4,he]
   have hl:[a0.m0,a0.m1,a0.m2,a0.m3,a0.m4,a0.m5,a0.m6,a0.m7,a0.m8,a0.m9,a0.m10,a0.m11]=gH a0:=rfl
   rw[hl]
   simp only[Nat.zero_add,Nat.mul_one,List.nil_append,List.cons_append,List.getD_cons_zero,List.getD_cons_succ]
   have r:(sJ.enc (cond false (0,ax a0) (cond true (nO (ofG a1).1 a0,0) (0,72))))=AV.tup [AV.int .i64 (cP (gH a0) ((ofG a1).1.month-1).toNat+(cP (gH a0) ((ofG a1).1.month%12).toNat-cP (gH a0) ((ofG a1).1.month-1).toNat)*((ofG a1).1.day-1)/ai (ofG a1).1.year (ofG a1).1.month),AV.int .i64 0]:=rfl
   rw[r]
   have hu:(decide (0≤(ofG a1).1.month-1)&&decide ((ofG a1).1.month-1<((12:Nat):Int)))=true:=by simp;omega
   have hu2:(decide (0≤(ofG a1).1.month%12)&&decide ((ofG a1).1.month%12<((12:Nat):Int)))=true:=by simp;omega
   have hu3:Nat.ble (((ofG a1).1.month-1).toNat+1) 12=true:=Nat.ble_eq_true_of_le (by omega)
   have hu4:Nat.ble (((ofG a1).1.month%12).toNat+1) 12=true:=Nat.ble_eq_true_of_le (by omega)
   rw[hu,hu2,hu3,hu4]
   clear hr r hu hu2 hu3 hu4 hl e1 e2 e3 e4 he
   generalize hm1:cP (gH a0) ((ofG a1).1.month-1).toNat=p at*
   generalize hm2:cP (gH a0) ((ofG a1).1.month%12).toNat=q at*
   generalize hx:(ofG a1).1.day-1=x at*
   generalize hy:ai (ofG a1).1.year (ofG a1).1.month=y at*
   have hx':0≤x∧x≤31:=by omega
   have hpq: -100000≤(q-p)*x∧(q-p)*x≤100000:=by
    have h1:q-p≤420:=by omega
    have h2: -420≤q-p:=by omega
    constructor
    ·have:=Int.mul_le_mul_of_nonneg_right h2 hx'.1
     omega
    ·have:=Int.mul_le_mul_of_nonneg_right h1 hx'.1
     omega
   rw[wrI (n:=q-p) (by omega),wrI (n:=(q-p)*x) (by omega)]
   rw[show bD ((q-p)*x) y=true by simp only[bD,big,byB,XR,XT];omega]
   generalize (q-p)*x/y=v at*
   rw[wrI (n:=p+v) (by omega)]
   rfl
theorem xM (a0:bc) (a1:Sun) (a2:Int):∃F d,run k51 F d 193 Tryz.f193 ki (a0,a1,a2,())=some (qz.enc (iM a0 a1 a2)):=by
 refine⟨200,6,?_⟩
 rw[vT]
 unfold iM
 cases hz:ao a0 != 0 with
 |true=>rfl
 |false=>
  have hz0:ao a0=0:=by simpa using hz
  obtain⟨z1,_⟩:=bR hz0
  unfold AB
  cases hs:ax a1 != 0 with
  |true=>
   have h1:(ax a1==0)=false:=by simpa using hs
   simp only[XU,XV,h1,hs]
   rfl
  |false=>
   have hs0:ax a1=0:=by simpa using hs
   rw[XV,XV]
   cases hd:dt a2 with
   |false=>
    have hb:inB a2 401 3651998=false:=by
     cases hb:inB a2 401 3651998 with
     |false=>rfl
     |true=>
      have:=bG.1 hb
      rw[c8.2 (by omega)]at hd
      cases hd
    rw[hb]
    rfl
   |true=>
    rw[XU]
    have e:(bif decide (a2<401)then true else decide (a2>3651998))= !inB a2 401 3651998:=by
     unfold inB
     rw[Bool.eq_iff_iff]
     cases h1:decide (a2<401)<;>simp at h1⊢ <;>omega
    dsimp only
    rw[e]
    cases hb:inB a2 401 3651998 with
    |false=>rfl
    |true=>
     have h1:=bG.1 hb
     have hr:=nZ hs0 hd
     rw[wrI (n:=a2*1440) (by omega),wrI (n:=a2*1440+nO (ofG a2).1 a1) (by omega),wrI (n:=a2*1440+nO (ofG a2).1 a1-a0.base) (by omega)]
     rfl
theorem my (c:Config):Nat.beq c.stops.length c.stops.length=true∧Nat.ble (0+c.stops.length) c.stops.length=true∧Nat.beq c.ae.length c.ae.length=true∧Nat.ble (0+c.ae.length) c.ae.length=true:=⟨by simp,by simp,by simp,by simp⟩
theorem qT (a0:Unit) (a1:Config) (a2:ag) (a3:Int) (hg:cI a0 a1 a2 a3=true):∃F d,run k53 F d 172 Tryz.f172 fC (a0,a1,a2,a3,())=some (kU.enc (tZ a0 a1 a2 a3)):=by
 refine⟨200,6,?_⟩
 rw[qf]
 obtain⟨b1,b2,b3,b4⟩:=my a1
 rw[b1,b2,b3,b4]
 rfl
theorem B1 {u:Unit} {c:Config} {w:ag} {d:Int} (h:cI u c w d=true):af c=0∧ak w=0∧dw d=true:=by
 simpa only[cI,XR,beq_iff_eq]using h
theorem pn (a0:Unit) (a1:Config) (a2:ag) (a3:Int) (hg:cI a0 a1 a2 a3=true):∃F d,run k54 F d 173 Tryz.f173 eO (a0,a1,a2,a3,())=some (jS.enc (x5 a0 a1 a2 a3)):=by
 refine⟨200,6,?_⟩
 rw[oI]
 obtain⟨b1,b2,b3,b4⟩:=my a1
 obtain⟨h1,h2,h3⟩:=B1 hg
 have hd:=(iR _).1 h3
 obtain⟨_,_,_,hs⟩:=fc h2
 rw[b1,b2,b3,b4,wrI (n:=a3-a2.shift) (by omega)]
 rfl
theorem oF (a0:Unit) (a1:Config) (a2:ag) (a3:Int) (hg:cI a0 a1 a2 a3=true):∃F d,run k55 F d 190 Tryz.f190 ei (a0,a1,a2,a3,())=some (je.enc (a6 a0 a1 a2 a3)):=by
 refine⟨200,6,?_⟩
 rw[ny]
 obtain⟨h1,h2,h3⟩:=B1 hg
 have hd:=(iR _).1 h3
 obtain⟨hz,hs⟩:=cW h1
 obtain⟨z1,_⟩:=bR hz
 rw[wrI (n:=a3+1) (by omega)]
 unfold a6 NF
 cases hr:bb (a3+1) a1.bt with
 |false=>rfl
 |true=>
  cases hn:bb a3 a1.bt with
  |true=>rfl
  |false=>
   obtain⟨l1,l2,_,_⟩:=CJ hr
   obtain⟨m,m1,m2⟩:=ud (n:=a3) hz hs (by omega) (by omega)
   obtain⟨n,n1,n2⟩:=ud (n:=bJ 1 a1.bt 10 (a3+1)) hz hs (by omega) (by omega)
   obtain⟨hk,hf4,hf,_⟩:=fc h2
   have hwl:0≤a2.minute∧a2.minute≤1439∧0≤a2.len∧a2.len≤10080:=by
    by_cases h4:a2.kind=4
    ·have:=hf4 h4;omega
    ·have:=hf h4;omega
   simp only[XU,Bool.not_false,Bool.and_self,m1,n1]
   rw[wrI (n:=a3*1440+m-a1.aK.base-a2.minute) (by omega),wrI (n:=bJ 1 a1.bt 10 (a3+1)*1440+n-a1.aK.base+a2.len) (by omega)]
   rfl
theorem TC (a0:ag) (hg:UF a0=true):∃F d,run k56 F d 98 Tryz.f98 Sa (a0,())=some (Uz.enc (Au a0)):=by
 refine⟨200,6,?_⟩
 rw[PN,show(a0.kind==1)=true from hg]
 rfl
theorem TG (a0:ag) (hg:PQ a0=true):∃F d,run k57 F d 98 Tryz.f98 Sb (a0,())=some (UG.enc (Au a0)):=by
 refine⟨200,6,?_⟩
 have hk:a0.kind=2:=by simpa only[PQ,beq_iff_eq]using hg
 rw[Rq,hk]
 rfl
theorem Ub (a0:ag) (hg:RT a0=true):∃F d,run k58 F d 98 Tryz.f98 PO (a0,())=some (UL.enc (Au a0)):=by
 refine⟨200,6,?_⟩
 have hk:a0.kind=3:=by simpa only[RT,beq_iff_eq]using hg
 rw[QX,hk]
 rfl
theorem TH (a0:ag) (hg:RD a0=true):∃F d,run k59 F d 98 Tryz.f98 Qm (a0,())=some (Un.enc (Au a0)):=by
 refine⟨200,6,?_⟩
 have hk:(a0.kind==1)=false∧(a0.kind==2)=false∧(a0.kind==3)=false:=by simpa only[RD,Bool.not_eq_true',Bool.or_eq_false_iff]using hg
 rw[PX,hk.1,hk.2.1,hk.2.2]
 rfl
end Go.Proofs.YtfhepbbkggdlcaaGreatDoor.Px.PxT


namespace Go.Proofs.YtfhepbbkggdlcaaGreatDoor.Px.PxT
open Go Go.Proofs
set_option maxRecDepth 10000
theorem ju (c:Config) (w:ag) (d:Int) (ok:Bool) (o:Int×Int×Bool) (hok:af c=0→ak w=0→dw d=true→ok=true∧o=opens c w d):
  (bif af c==0 then bif bif ak w==0 then !dw d else false then some (AV.tup [AV.agg [AV.int .i64 0,AV.int .i64 0,AV.int .i64 0,AV.int .i64 0],AV.bool false,AV.int .i64 140])else bif ak w != 0 then some (AV.tup [AV.agg [AV.int .i64 0,AV.int .i64 0,AV.int .i64 0,AV.int .i64 0],AV.bool false,AV.int .i64 (ak w)])else bif ok then bif !o.2.2 then some (AV.tup [AV.agg [AV.int .i64 0,AV.int .i64 0,AV.int .i64 0,AV.int .i64 0],AV.bool false,AV.int .i64 0])else some (AV.tup [AV.agg [AV.int .i64 o.1,AV.int .i64 o.2.1,AV.int .i64 w.mode,AV.int .i64 w.prio],AV.bool true,AV.int .i64 0])else none
   else bif bif af c==0 then !dw d else false then some (AV.tup [AV.agg [AV.int .i64 0,AV.int .i64 0,AV.int .i64 0,AV.int .i64 0],AV.bool false,AV.int .i64 140])else bif af c != 0 then some (AV.tup [AV.agg [AV.int .i64 0,AV.int .i64 0,AV.int .i64 0,AV.int .i64 0],AV.bool false,AV.int .i64 (af c)])else bif ok then bif !o.2.2 then some (AV.tup [AV.agg [AV.int .i64 0,AV.int .i64 0,AV.int .i64 0,AV.int .i64 0],AV.bool false,AV.int .i64 0])else some (AV.tup [AV.agg [AV.int .i64 o.1,AV.int .i64 o.2.1,AV.int .i64 w.mode,AV.int .i64 w.prio],AV.bool true,AV.int .i64 0])else none)
  =some (nB.enc (bw c w d)):=by
 unfold bw lh orE dF
 cases h1:af c==0 with
 |false=>
  have h1':(af c != 0)=true:=by simpa using h1
  simp only[XV,h1',XU,h1]
  rfl
 |true=>
  have e1:=beq_iff_eq.1 h1
  cases h2:ak w==0 with
  |false=>
   have h2':(ak w != 0)=true:=by simpa using h2
   simp only[XV,h2',XU,h2]
   rfl
  |true=>
   have e2:=beq_iff_eq.1 h2
   have h2':(ak w != 0)=false:=by simpa using e2
   cases h3:dw d with
   |false=>simp only[XU,Bool.not_false];rfl
   |true=>
    obtain⟨rfl,rfl⟩:=hok e1 e2 h3
    simp only[XU,Bool.not_true,XV,h2']
    cases (opens c w d).2.2<;>rfl
theorem NX {c:Config} (h:DC c=true):aX c=true:=by
 simp only[DC,aX,XR,XT]at h⊢
 omega
theorem oY {c:Config} {w:ag} {d:Int} (h1:af c=0) (h2:ak w=0) (h3:dw d=true):cI () c w d=true:=by
 simp only[cI,h1,h2,h3,beq_self_eq_true,Bool.and_self]
theorem A2 (a0:Config) (a1:ag) (a2:Int) (hg:Dn a0 a1 a2=true):∃F d,run k61 F d 66 Tryz.f66 cB (a0,a1,a2,())=some (nB.enc (bw a0 a1 a2)):=by
 refine⟨200,6,?_⟩
 obtain⟨b1,b2,b3,b4⟩:=my a0
 have hs:aX a0=true:=hg
 obtain⟨p,wm,wp,wa,ws,wt,wl⟩:=a1
 have rest:∀q:Int,q≠1→q≠2→q≠3→opens a0 ⟨q,wm,wp,wa,ws,wt,wl⟩ a2=a6 () a0 ⟨q,wm,wp,wa,ws,wt,wl⟩ a2:=by
  intro q q1 q2 q3
  unfold opens
  simp only[beq_eq_false_iff_ne.2 q1,beq_eq_false_iff_ne.2 q2,beq_eq_false_iff_ne.2 q3,XV]
 rcases p with n|n
 ·rcases n with _|_|_|_|_|n
  ·refine(wG ..).trans ?_
   rw[b1,b2,b3,b4,hs]
   exact ju a0 ⟨0,wm,wp,wa,ws,wt,wl⟩ a2 _ _ (fun h1 h2 h3=>⟨oY h1 h2 h3,(rest 0 (by omega) (by omega) (by omega)).symm⟩)
  ·refine(wP ..).trans ?_
   rw[b1,b2,b3,b4,hs]
   exact ju a0 ⟨1,wm,wp,wa,ws,wt,wl⟩ a2 _ _ (fun h1 h2 h3=>⟨(cO a2).2 (by have:=(iR a2).1 h3;omega),rfl⟩)
  ·refine(vV ..).trans ?_
   rw[b1,b2,b3,b4,hs]
   exact ju a0 ⟨2,wm,wp,wa,ws,wt,wl⟩ a2 _ _ (fun h1 h2 h3=>⟨oY h1 h2 h3,rfl⟩)
  ·refine(wc ..).trans ?_
   rw[b1,b2,b3,b4,hs]
   exact ju a0 ⟨3,wm,wp,wa,ws,wt,wl⟩ a2 _ _ (fun h1 h2 h3=>⟨oY h1 h2 h3,rfl⟩)
  ·refine(wQ ..).trans ?_
   rw[b1,b2,b3,b4,hs]
   exact ju a0 ⟨4,wm,wp,wa,ws,wt,wl⟩ a2 _ _ (fun h1 h2 h3=>⟨oY h1 h2 h3,rfl⟩)
  ·refine(wN ..).trans ?_
   rw[b1,b2,b3,b4,hs]
   exact ju a0 ⟨Int.ofNat (n+5),wm,wp,wa,ws,wt,wl⟩ a2 _ _ (fun h1 h2 h3=>⟨oY h1 h2 h3,(rest (Int.ofNat (n+5)) (by simp only[Int.ofNat_eq_natCast];omega) (by simp only[Int.ofNat_eq_natCast];omega) (by simp only[Int.ofNat_eq_natCast];omega)).symm⟩)
 ·refine(wZ ..).trans ?_
  rw[b1,b2,b3,b4,hs]
  exact ju a0 ⟨Int.negSucc n,wm,wp,wa,ws,wt,wl⟩ a2 _ _ (fun h1 h2 h3=>⟨oY h1 h2 h3,(rest (Int.negSucc n) (by omega) (by omega) (by omega)).symm⟩)
end Go.Proofs.YtfhepbbkggdlcaaGreatDoor.Px.PxT
