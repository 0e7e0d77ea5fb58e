/- A seat's functions are what their contracts say. -/
import Derived.Test.YtdadgkgkdgnihaaPxVSteps
import Derived.Test.YtdadgkgkdgnihaaPxVProofs
import Derived.Test.YtdadgkgkdgnihaaPxVProofs2
import Derived.Test.YtdadgkgkdgnihaaPxVLSpanTurned
set_option linter.unusedVariables false
set_option linter.unusedSimpArgs false
namespace Go.Proofs.Ytdadgkgkdgnihaa.Px.PxV
open Go Go.Proofs
theorem p1:Prog Try.prog (fun _=>True) k1:=p0.cW (.of Try.func29 (by kernel_rfl) (by kernel_rfl)) (fun x h=>mO x.1 x.2.1)
theorem p2:Prog Try.prog (fun _=>True) k2:=p1.cW (.of Try.func33 (by kernel_rfl) (by kernel_rfl)) (fun x h=>wJ x.1 x.2.1)
theorem p3:Prog Try.prog (fun _=>True) k3:=p2.xV (.of Try.func11 (by kernel_rfl) (by kernel_rfl)) (fun x h=>kd x.1 h)
set_option maxHeartbeats 0 in
theorem vQ:∀ls os xs l e s' s,bSt qM ls os xs=some s→qD ls os xs=some (true,l,e,s')→∃fuel d,fO k3 fuel d 13 58 {keep:=jo,m:=2,mv:=nD.mv} qZ ug s=some (aQ Prod.mk l e s'):=by
 intro ls os xs l e s' s hb hg
 unfold qD at hg
 split at hg
 ·replace hg:=aF hg
  obtain⟨_,xs,rfl,hg⟩:=hg
  replace hg:=aH hg
  obtain⟨rfl,hg⟩:=hg
  simp only[B0,Prod.mk.injEq]at hg
  obtain⟨h1,rfl,rfl,rfl⟩:=hg
  rw[yi]at hb
  simp only[B0]at hb
  subst hb
  exact vT _ _ _ h1
 ·cases hg
set_option maxHeartbeats 0 in
theorem p4:Prog Try.prog (fun _=>True) k4:=Prog.gL (cfg:=k3) (f:=13) (p:=58) (keep:=jo) (kx:=qZ) (m:=2) (mv:=nD.mv) (Q:=qM) (g:=qD) p3 Try.func13 (by kernel_rfl) wq (by kernel_rfl) rfl (by decide) vQ
theorem p5:Prog Try.prog (fun _=>True) k5:=p4.cW (.of Try.func13 (by kernel_rfl) (by kernel_rfl)) (fun x h=>jw x.1 x.2.1 h)
set_option maxHeartbeats 0 in
theorem sj:∀ls os xs l e s' s,bSt lg ls os xs=some s→lu ls os xs=some (true,l,e,s')→∃fuel d,fO k5 fuel d 23 122 {keep:=fI,m:=1,mv:=jd.mv} ma oh s=some (aQ Prod.mk l e s'):=by
 intro ls os xs l e s' s hb hg
 unfold lu at hg
 split at hg
 ·iterate 4 (replace hg:=aF hg;obtain⟨_,xs,rfl,hg⟩:=hg)
  replace hg:=aH hg
  obtain⟨rfl,hg⟩:=hg
  simp only[B0,Prod.mk.injEq]at hg
  obtain⟨h1,rfl,rfl,rfl⟩:=hg
  rw[ue]at hb
  simp only[B0]at hb
  subst hb
  exact sA _ _ _ _ _ h1
 ·cases hg
set_option maxHeartbeats 0 in
theorem p6:Prog Try.prog (fun _=>True) k6:=Prog.gL (cfg:=k5) (f:=23) (p:=122) (keep:=fI) (kx:=ma) (m:=1) (mv:=jd.mv) (Q:=lg) (g:=lu) p5 Try.func23 (by kernel_rfl) sI (by kernel_rfl) rfl (by decide) sj
theorem p7:Prog Try.prog (fun _=>True) k7:=p6.cW (.of Try.func23 (by kernel_rfl) (by kernel_rfl)) (fun x h=>jy x.1 x.2.1 h)
set_option maxHeartbeats 0 in
theorem vY:∀ls os xs l e s' s,bSt qh ls os xs=some s→pY ls os xs=some (true,l,e,s')→∃fuel d,fO k7 fuel d 27 26 {keep:=iX,m:=3,mv:=nB.mv} qY ua s=some (aQ Prod.mk l e s'):=by
 intro ls os xs l e s' s hb hg
 unfold pY at hg
 split at hg
 ·iterate 7 (replace hg:=aF hg;obtain⟨_,xs,rfl,hg⟩:=hg)
  replace hg:=aH hg
  obtain⟨rfl,hg⟩:=hg
  simp only[B0,Prod.mk.injEq]at hg
  obtain⟨h1,rfl,rfl,rfl⟩:=hg
  rw[xw]at hb
  simp only[B0]at hb
  subst hb
  exact wy _ _ _ _ _ _ _ _ h1
 ·cases hg
set_option maxHeartbeats 0 in
theorem p8:Prog Try.prog (fun _=>True) k8:=Prog.gL (cfg:=k7) (f:=27) (p:=26) (cx:=1003) (keep:=iX) (kx:=qY) (m:=3) (mv:=nB.mv) (Q:=qh) (g:=pY) p7 Try.func27 (by kernel_rfl) wu (by kernel_rfl) rfl (by decide) vY
theorem p9:Prog Try.prog (fun _=>True) k9:=p8.cW (.of Try.func15 (by kernel_rfl) (by kernel_rfl)) (fun x h=>rk x.1 x.2.1 h)
set_option maxHeartbeats 0 in
theorem xc:∀ls os xs l e s' s,bSt u9 ls os xs=some s→vH ls os xs=some (true,l,e,s')→∃fuel d,fO k9 fuel d 16 26 {keep:=kP,m:=2,mv:=rj.mv} tY yt s=some (aQ Prod.mk l e s'):=by
 intro ls os xs l e s' s hb hg
 unfold vH at hg
 split at hg
 ·iterate 6 (replace hg:=aF hg;obtain⟨_,xs,rfl,hg⟩:=hg)
  replace hg:=aH hg
  obtain⟨rfl,hg⟩:=hg
  simp only[B0,Prod.mk.injEq]at hg
  obtain⟨h1,rfl,rfl,rfl⟩:=hg
  rw[zy]at hb
  simp only[B0]at hb
  subst hb
  exact xF _ _ _ _ _ _ _ h1
 ·cases hg
set_option maxHeartbeats 0 in
theorem p10:Prog Try.prog (fun _=>True) k10:=Prog.gL (cfg:=k9) (f:=16) (p:=26) (keep:=kP) (kx:=tY) (m:=2) (mv:=rj.mv) (Q:=u9) (g:=vH) p9 Try.func16 (by kernel_rfl) xB (by kernel_rfl) rfl (by decide) xc
theorem p11:Prog Try.prog (fun _=>True) k11:=p10.cW (.of Try.func16 (by kernel_rfl) (by kernel_rfl)) (fun x h=>kI x.1 x.2.1 h)
set_option maxHeartbeats 0 in
theorem yc:∀ls os xs l e s' s,bSt uJ ls os xs=some s→vm ls os xs=some (true,l,e,s')→∃fuel d,fO k11 fuel d 17 58 {keep:=lI,m:=1,mv:=qC.mv} tX yF s=some (aQ Prod.mk l e s'):=by
 intro ls os xs l e s' s hb hg
 unfold vm at hg
 split at hg
 ·iterate 4 (replace hg:=aF hg;obtain⟨_,xs,rfl,hg⟩:=hg)
  replace hg:=aH hg
  obtain⟨rfl,hg⟩:=hg
  simp only[B0,Prod.mk.injEq]at hg
  obtain⟨h1,rfl,rfl,rfl⟩:=hg
  rw[zl]at hb
  simp only[B0]at hb
  subst hb
  exact w6 _ _ _ _ _ _ h1
 ·cases hg
set_option maxHeartbeats 0 in
theorem p12:Prog Try.prog (fun _=>True) k12:=Prog.gL (cfg:=k11) (f:=17) (p:=58) (keep:=lI) (kx:=tX) (m:=1) (mv:=qC.mv) (Q:=uJ) (g:=vm) p11 Try.func17 (by kernel_rfl) wS (by kernel_rfl) rfl (by decide) yc
theorem p13:Prog Try.prog (fun _=>True) k13:=p12.xV (.of Try.func17 (by kernel_rfl) (by kernel_rfl)) (fun x h=>pX x.1 x.2.1 x.2.2.1 h)
set_option maxHeartbeats 0 in
theorem wH:∀ls os xs l e s' s,bSt qI ls os xs=some s→qR ls os xs=some (true,l,e,s')→∃fuel d,fO k13 fuel d 18 58 {keep:=ja,m:=1,mv:=nF.mv} qQ tu s=some (aQ Prod.mk l e s'):=by
 intro ls os xs l e s' s hb hg
 unfold qR at hg
 split at hg
 ·iterate 3 (replace hg:=aF hg;obtain⟨_,xs,rfl,hg⟩:=hg)
  replace hg:=aH hg
  obtain⟨rfl,hg⟩:=hg
  simp only[B0,Prod.mk.injEq]at hg
  obtain⟨h1,rfl,rfl,rfl⟩:=hg
  rw[xy]at hb
  simp only[B0]at hb
  subst hb
  exact wj _ _ _ _ _ h1
 ·cases hg
set_option maxHeartbeats 0 in
theorem p14:Prog Try.prog (fun _=>True) k14:=Prog.gL (cfg:=k13) (f:=18) (p:=58) (keep:=ja) (kx:=qQ) (m:=1) (mv:=nF.mv) (Q:=qI) (g:=qR) p13 Try.func18 (by kernel_rfl) vM (by kernel_rfl) rfl (by decide) wH
theorem p15:Prog Try.prog (fun _=>True) k15:=p14.xV (.of Try.func18 (by kernel_rfl) (by kernel_rfl)) (fun x h=>kf x.1 x.2.1 x.2.2.1 h)
set_option maxHeartbeats 0 in
theorem uq:∀ls os xs l e s' s,bSt nm ls os xs=some s→nA ls os xs=some (true,l,e,s')→∃fuel d,fO k15 fuel d 27 26 {keep:=gJ,m:=2,mv:=kO.mv} nJ qH s=some (aQ Prod.mk l e s'):=by
 intro ls os xs l e s' s hb hg
 unfold nA at hg
 split at hg
 ·iterate 2 (replace hg:=aF hg;obtain⟨_,xs,rfl,hg⟩:=hg)
  replace hg:=aH hg
  obtain⟨rfl,hg⟩:=hg
  simp only[B0,Prod.mk.injEq]at hg
  obtain⟨h1,rfl,rfl,rfl⟩:=hg
  rw[vL]at hb
  simp only[B0]at hb
  subst hb
  exact tS _ _ _ h1
 ·cases hg
set_option maxHeartbeats 0 in
theorem p16:Prog Try.prog (fun _=>True) k16:=Prog.gL (cfg:=k15) (f:=27) (p:=26) (cx:=1002) (keep:=gJ) (kx:=nJ) (m:=2) (mv:=kO.mv) (Q:=nm) (g:=nA) p15 Try.func27 (by kernel_rfl) tA (by kernel_rfl) rfl (by decide) uq
set_option maxHeartbeats 0 in
theorem wI:∀ls os xs l e s' s,bSt qt ls os xs=some s→qV ls os xs=some (true,l,e,s')→∃fuel d,fO k16 fuel d 22 58 {keep:=jc,m:=4,mv:=nk.mv} qE tP s=some (aQ Prod.mk l e s'):=by
 intro ls os xs l e s' s hb hg
 unfold qV at hg
 split at hg
 ·iterate 2 (replace hg:=aF hg;obtain⟨_,xs,rfl,hg⟩:=hg)
  replace hg:=aH hg
  obtain⟨rfl,hg⟩:=hg
  simp only[B0,Prod.mk.injEq]at hg
  obtain⟨h1,rfl,rfl,rfl⟩:=hg
  rw[yh]at hb
  simp only[B0]at hb
  subst hb
  exact vO _ _ _ _ h1
 ·cases hg
set_option maxHeartbeats 0 in
theorem p17:Prog Try.prog (fun _=>True) k17:=Prog.gL (cfg:=k16) (f:=22) (p:=58) (keep:=jc) (kx:=qE) (m:=4) (mv:=nk.mv) (Q:=qt) (g:=qV) p16 Try.func22 (by kernel_rfl) wh (by kernel_rfl) rfl (by decide) wI
set_option maxHeartbeats 0 in
theorem xE:∀ls os xs l e s' s,bSt uW ls os xs=some s→vF ls os xs=some (true,l,e,s')→∃fuel d,fO k17 fuel d 32 6 {keep:=lJ,m:=7,mv:=qn.mv} tQ yb s=some (aQ Prod.mk l e s'):=by
 intro ls os xs l e s' s hb hg
 unfold vF at hg
 split at hg
 ·replace hg:=aF hg
  obtain⟨_,xs,rfl,hg⟩:=hg
  replace hg:=aH hg
  obtain⟨rfl,hg⟩:=hg
  simp only[B0,Prod.mk.injEq]at hg
  obtain⟨h1,rfl,rfl,rfl⟩:=hg
  rw[zr]at hb
  simp only[B0]at hb
  subst hb
  exact w9 _ _ _ _ h1
 ·cases hg
set_option maxHeartbeats 0 in
theorem p18:Prog Try.prog (fun _=>True) k18:=Prog.gL (cfg:=k17) (f:=32) (p:=6) (cx:=1) (keep:=lJ) (kx:=tQ) (m:=7) (mv:=qn.mv) (Q:=uW) (g:=vF) p17 Try.func32 (by kernel_rfl) xo (by kernel_rfl) rfl (by decide) xE
theorem p19:Prog Try.prog (fun _=>True) k19:=p18.xV (.of Try.func10 (by kernel_rfl) (by kernel_rfl)) (fun x h=>lR x.1 h)
set_option maxHeartbeats 0 in
theorem x4:∀ls os xs l e s' s,bSt uB ls os xs=some s→vB ls os xs=some (true,l,e,s')→∃fuel d,fO k19 fuel d 12 26 {keep:=lF,m:=1,mv:=qm.mv} tN wZ s=some (aQ Prod.mk l e s'):=by
 intro ls os xs l e s' s hb hg
 unfold vB at hg
 split at hg
 ·replace hg:=aF hg
  obtain⟨_,xs,rfl,hg⟩:=hg
  replace hg:=aH hg
  obtain⟨rfl,hg⟩:=hg
  simp only[B0,Prod.mk.injEq]at hg
  obtain⟨h1,rfl,rfl,rfl⟩:=hg
  rw[zn]at hb
  simp only[B0]at hb
  subst hb
  exact yp _ _ h1
 ·cases hg
set_option maxHeartbeats 0 in
theorem p20:Prog Try.prog (fun _=>True) k20:=Prog.gL (cfg:=k19) (f:=12) (p:=26) (keep:=lF) (kx:=tN) (m:=1) (mv:=qm.mv) (Q:=uB) (g:=vB) p19 Try.func12 (by kernel_rfl) xW (by kernel_rfl) rfl (by decide) x4
theorem p21:Prog Try.prog (fun _=>True) k21:=p20.cW (.of Try.func12 (by kernel_rfl) (by kernel_rfl)) (fun x h=>kq x.1 h)
theorem p22:Prog Try.prog (fun _=>True) k22:=p21.cW (.of Try.func34 (by kernel_rfl) (by kernel_rfl)) (fun x h=>jv x.1 x.2.1)
set_option maxHeartbeats 0 in
theorem zq:∀ls os xs l e s' s,bSt yT ls os xs=some s→yJ ls os xs=some (true,l,e,s')→∃fuel d,fO k22 fuel d 26 58 {keep:=np,m:=1,mv:=uV.mv} x7 AA s=some (aQ Prod.mk l e s'):=by
 intro ls os xs l e s' s hb hg
 unfold yJ at hg
 split at hg
 ·iterate 3 (replace hg:=aF hg;obtain⟨_,xs,rfl,hg⟩:=hg)
  replace hg:=aH hg
  obtain⟨rfl,hg⟩:=hg
  simp only[B0,Prod.mk.injEq]at hg
  obtain⟨h1,rfl,rfl,rfl⟩:=hg
  rw[AJ]at hb
  simp only[B0]at hb
  subst hb
  exact yQ _ _ _ _ h1
 ·cases hg
set_option maxHeartbeats 0 in
theorem p23:Prog Try.prog (fun _=>True) k23:=Prog.gL (cfg:=k22) (f:=26) (p:=58) (keep:=np) (kx:=x7) (m:=1) (mv:=uV.mv) (Q:=yT) (g:=yJ) p22 Try.func26 (by kernel_rfl) y9 (by kernel_rfl) rfl (by decide) zq
theorem p24:Prog Try.prog (fun _=>True) k24:=p23.cW (.of Try.func26 (by kernel_rfl) (by kernel_rfl)) (fun x h=>fp x.1 x.2.1 h)
set_option maxHeartbeats 0 in
theorem xI:∀ls os xs l e s' s,bSt vp ls os xs=some s→vC ls os xs=some (true,l,e,s')→∃fuel d,fO k24 fuel d 25 122 {keep:=lC,m:=1,mv:=qW.mv} th xh s=some (aQ Prod.mk l e s'):=by
 intro ls os xs l e s' s hb hg
 unfold vC at hg
 split at hg
 ·iterate 2 (replace hg:=aF hg;obtain⟨_,xs,rfl,hg⟩:=hg)
  replace hg:=oB hg
  obtain⟨_,xs,rfl,hg⟩:=hg
  replace hg:=aF hg
  obtain⟨_,xs,rfl,hg⟩:=hg
  replace hg:=aH hg
  obtain⟨rfl,hg⟩:=hg
  simp only[B0,Prod.mk.injEq]at hg
  obtain⟨h1,rfl,rfl,rfl⟩:=hg
  rw[zA]at hb
  simp only[B0]at hb
  subst hb
  exact xf _ _ _ _ _ h1
 ·cases hg
set_option maxHeartbeats 0 in
theorem p25:Prog Try.prog (fun _=>True) k25:=Prog.gL (cfg:=k24) (f:=25) (p:=122) (keep:=lC) (kx:=th) (m:=1) (mv:=qW.mv) (Q:=vp) (g:=vC) p24 Try.func25 (by kernel_rfl) xS (by kernel_rfl) rfl (by decide) xI
theorem p26:Prog Try.prog (fun _=>True) k26:=p25.cW (.of Try.func25 (by kernel_rfl) (by kernel_rfl)) (fun x h=>ju x.1 x.2.1 h)
set_option maxHeartbeats 0 in
theorem xO:∀ls os xs l e s' s,bSt uX ls os xs=some s→uQ ls os xs=some (true,l,e,s')→∃fuel d,fO k26 fuel d 24 58 {keep:=lr,m:=1,mv:=qF.mv} tn w8 s=some (aQ Prod.mk l e s'):=by
 intro ls os xs l e s' s hb hg
 unfold uQ at hg
 split at hg
 ·iterate 2 (replace hg:=aF hg;obtain⟨_,xs,rfl,hg⟩:=hg)
  replace hg:=aH hg
  obtain⟨rfl,hg⟩:=hg
  simp only[B0,Prod.mk.injEq]at hg
  obtain⟨h1,rfl,rfl,rfl⟩:=hg
  rw[yO]at hb
  simp only[B0]at hb
  subst hb
  exact wU _ _ _ h1
 ·cases hg
set_option maxHeartbeats 0 in
theorem p27:Prog Try.prog (fun _=>True) k27:=Prog.gL (cfg:=k26) (f:=24) (p:=58) (keep:=lr) (kx:=tn) (m:=1) (mv:=qF.mv) (Q:=uX) (g:=uQ) p26 Try.func24 (by kernel_rfl) yg (by kernel_rfl) rfl (by decide) xO
theorem p28:Prog Try.prog (fun _=>True) k28:=p27.cW (.of Try.func24 (by kernel_rfl) (by kernel_rfl)) (fun x h=>ij x.1 h)
set_option maxHeartbeats 0 in
theorem wE:∀ls os xs l e s' s,bSt qi ls os xs=some s→qB ls os xs=some (true,l,e,s')→∃fuel d,fO k28 fuel d 14 252 {keep:=iZ,m:=1,mv:=mU.mv} qa uu s=some (aQ Prod.mk l e s'):=by
 intro ls os xs l e s' s hb hg
 unfold qB at hg
 split at hg
 ·iterate 2 (replace hg:=aF hg;obtain⟨_,xs,rfl,hg⟩:=hg)
  replace hg:=oB hg
  obtain⟨_,xs,rfl,hg⟩:=hg
  replace hg:=aH hg
  obtain⟨rfl,hg⟩:=hg
  simp only[B0,Prod.mk.injEq]at hg
  obtain⟨h1,rfl,rfl,rfl⟩:=hg
  rw[yu]at hb
  simp only[B0]at hb
  subst hb
  exact wg _ _ _ _ _ h1
 ·cases hg
set_option maxHeartbeats 0 in
theorem p29:Prog Try.prog (fun _=>True) k29:=Prog.gL (cfg:=k28) (f:=14) (p:=252) (keep:=iZ) (kx:=qa) (m:=1) (mv:=mU.mv) (Q:=qi) (g:=qB) p28 Try.func14 (by kernel_rfl) vK (by kernel_rfl) rfl (by decide) wE
theorem p30:Prog Try.prog (fun _=>True) k30:=p29.xV (.of Try.func14 (by kernel_rfl) (by kernel_rfl)) (fun x h=>gq x.1 h)
theorem il:∃F d,run k30 F d 9 Try.f9 fe (())=some (fa.enc (true)):=⟨200,6,by kernel_rfl⟩
theorem p31:Prog Try.prog (fun _=>True) k31:=p30.cW (.of Try.func9 (by kernel_rfl) (by kernel_rfl)) (fun x h=>il)
set_option maxHeartbeats 0 in
theorem yG:∀ls os xs l e s' s,bSt u5 ls os xs=some s→uE ls os xs=some (true,l,e,s')→∃fuel d,fO k31 fuel d 8 122 {keep:=lh,m:=2,mv:=qO.mv} uf yo s=some (aQ Prod.mk l e s'):=by
 intro ls os xs l e s' s hb hg
 unfold uE at hg
 split at hg
 ·iterate 6 (replace hg:=aF hg;obtain⟨_,xs,rfl,hg⟩:=hg)
  replace hg:=aH hg
  obtain⟨rfl,hg⟩:=hg
  simp only[B0,Prod.mk.injEq]at hg
  obtain⟨h1,rfl,rfl,rfl⟩:=hg
  rw[zt]at hb
  simp only[B0]at hb
  subst hb
  exact xj _ _ _ _ _ _ _ h1
 ·cases hg
set_option maxHeartbeats 0 in
theorem p32:Prog Try.prog (fun _=>True) k32:=Prog.gL (cfg:=k31) (f:=8) (p:=122) (keep:=lh) (kx:=uf) (m:=2) (mv:=qO.mv) (Q:=u5) (g:=uE) p31 Try.func8 (by kernel_rfl) wW (by kernel_rfl) rfl (by decide) yG
set_option maxHeartbeats 0 in
theorem xQ:∀ls os xs l e s' s,bSt vu ls os xs=some s→vA ls os xs=some (true,l,e,s')→∃fuel d,fO k32 fuel d 19 26 {keep:=kr,m:=15,mv:=qx.mv} tc xi s=some (aQ Prod.mk l e s'):=by
 intro ls os xs l e s' s hb hg
 unfold vA at hg
 split at hg
 ·iterate 5 (replace hg:=aF hg;obtain⟨_,xs,rfl,hg⟩:=hg)
  replace hg:=aH hg
  obtain⟨rfl,hg⟩:=hg
  simp only[B0,Prod.mk.injEq]at hg
  obtain⟨h1,rfl,rfl,rfl⟩:=hg
  rw[za]at hb
  simp only[B0]at hb
  subst hb
  exact yq _ _ _ _ _ _ _ _ _ _ _ _ _ _ _ _ h1
 ·cases hg
set_option maxHeartbeats 0 in
theorem p33:Prog Try.prog (fun _=>True) k33:=Prog.gL (cfg:=k32) (f:=19) (p:=26) (cx:=113015) (keep:=kr) (kx:=tc) (m:=15) (mv:=qx.mv) (Q:=vu) (g:=vA) p32 Try.func19 (by kernel_rfl) yz (by kernel_rfl) rfl (by decide) xQ
set_option maxHeartbeats 0 in
theorem yv:∀ls os xs l e s' s,bSt uU ls os xs=some s→vG ls os xs=some (true,l,e,s')→∃fuel d,fO k33 fuel d 19 26 {keep:=lH,m:=18,mv:=qL.mv} tr yk s=some (aQ Prod.mk l e s'):=by
 intro ls os xs l e s' s hb hg
 unfold vG at hg
 split at hg
 ·iterate 5 (replace hg:=aF hg;obtain⟨_,xs,rfl,hg⟩:=hg)
  replace hg:=aH hg
  obtain⟨rfl,hg⟩:=hg
  simp only[B0,Prod.mk.injEq]at hg
  obtain⟨h1,rfl,rfl,rfl⟩:=hg
  rw[zC]at hb
  simp only[B0]at hb
  subst hb
  exact yr _ _ _ _ _ _ _ _ _ _ _ _ _ _ _ _ _ _ h1
 ·cases hg
set_option maxHeartbeats 0 in
theorem p34:Prog Try.prog (fun _=>True) k34:=Prog.gL (cfg:=k33) (f:=19) (p:=26) (cx:=127018) (keep:=lH) (kx:=tr) (m:=18) (mv:=qL.mv) (Q:=uU) (g:=vG) p33 Try.func19 (by kernel_rfl) wV (by kernel_rfl) rfl (by decide) yv
set_option maxHeartbeats 0 in
theorem xu:∀ls os xs l e s' s,bSt vI ls os xs=some s→uF ls os xs=some (true,l,e,s')→∃fuel d,fO k34 fuel d 19 26 {keep:=lx,m:=15,mv:=qg.mv} sS xK s=some (aQ Prod.mk l e s'):=by
 intro ls os xs l e s' s hb hg
 unfold uF at hg
 split at hg
 ·iterate 5 (replace hg:=aF hg;obtain⟨_,xs,rfl,hg⟩:=hg)
  replace hg:=aH hg
  obtain⟨rfl,hg⟩:=hg
  simp only[B0,Prod.mk.injEq]at hg
  obtain⟨h1,rfl,rfl,rfl⟩:=hg
  rw[y8]at hb
  simp only[B0]at hb
  subst hb
  exact x9 _ _ _ _ _ _ _ _ _ _ _ _ _ _ _ _ h1
 ·cases hg
set_option maxHeartbeats 0 in
theorem p35:Prog Try.prog (fun _=>True) k35:=Prog.gL (cfg:=k34) (f:=19) (p:=26) (cx:=114015) (keep:=lx) (kx:=sS) (m:=15) (mv:=qg.mv) (Q:=vI) (g:=uF) p34 Try.func19 (by kernel_rfl) yC (by kernel_rfl) rfl (by decide) xu
set_option maxHeartbeats 0 in
theorem xP:∀ls os xs l e s' s,bSt uH ls os xs=some s→vi ls os xs=some (true,l,e,s')→∃fuel d,fO k35 fuel d 19 26 {keep:=kD,m:=18,mv:=q8.mv} tC xk s=some (aQ Prod.mk l e s'):=by
 intro ls os xs l e s' s hb hg
 unfold vi at hg
 split at hg
 ·iterate 5 (replace hg:=aF hg;obtain⟨_,xs,rfl,hg⟩:=hg)
  replace hg:=aH hg
  obtain⟨rfl,hg⟩:=hg
  simp only[B0,Prod.mk.injEq]at hg
  obtain⟨h1,rfl,rfl,rfl⟩:=hg
  rw[zw]at hb
  simp only[B0]at hb
  subst hb
  exact xL _ _ _ _ _ _ _ _ _ _ _ _ _ _ _ _ _ _ h1
 ·cases hg
set_option maxHeartbeats 0 in
theorem p36:Prog Try.prog (fun _=>True) k36:=Prog.gL (cfg:=k35) (f:=19) (p:=26) (cx:=128018) (keep:=kD) (kx:=tC) (m:=18) (mv:=q8.mv) (Q:=uH) (g:=vi) p35 Try.func19 (by kernel_rfl) wM (by kernel_rfl) rfl (by decide) xP
theorem fo:∀x,aJ.wf x→∃fuel d,run k36 fuel d 8 Try.f8 aJ x=some (.bool true):=fun x hx=>fq x.1 x.2.1 hx
end Go.Proofs.Ytdadgkgkdgnihaa.Px.PxV
