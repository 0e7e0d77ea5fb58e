/- A seat's functions are what their contracts say. -/
import Derived.Test.YtfhepbbkggdlcaaGreatDoorPxTSteps
import Derived.Test.YtfhepbbkggdlcaaGreatDoorPxTProofs
import Derived.Test.YtfhepbbkggdlcaaGreatDoorPxTProofs4
import Derived.Test.YtfhepbbkggdlcaaGreatDoorPxTProofs6
import Derived.Test.YtfhepbbkggdlcaaGreatDoorPxTProofs7
import Derived.Test.YtfhepbbkggdlcaaGreatDoorPxTHol
set_option linter.unusedVariables false
set_option linter.unusedSimpArgs false
namespace Go.Proofs.YtfhepbbkggdlcaaGreatDoor.Px.PxT
open Go Go.Proofs
theorem AP (a0:Int) (a1:Int) (a2:Int):∃F d,run k0 F d 83 Tryz.f83 vq (a0,a1,a2,())=some (vn.enc (inB a0 a1 a2)):=⟨200,6,by kernel_rfl⟩
theorem p1:Prog Tryz.prog (ar gl) k1:=p0.aj (.of Tryz.func83 (by kernel_rfl) (by kernel_rfl)) (fun x h=>AP x.1 x.2.1 x.2.2.1)
theorem xg (a0:Int) (a1:Int) (a2:Int):∃F d,run k1 F d 89 Tryz.f89 qp (a0,a1,a2,())=some (qu.enc (inB a0 a1 a2)):=⟨200,6,by kernel_rfl⟩
theorem p2:Prog Tryz.prog (ar gl) k2:=p1.aj (.of Tryz.func89 (by kernel_rfl) (by kernel_rfl)) (fun x h=>xg x.1 x.2.1 x.2.2.1)
theorem p3:Prog Tryz.prog (ar gl) k3:=p2.aj (.of Tryz.func78 (by kernel_rfl) (by kernel_rfl)) (fun x h=>FN x.1 x.2.1 h)
theorem p4:Prog Tryz.prog (ar gl) k4:=p3.aj (.of Tryz.func128 (by kernel_rfl) (by kernel_rfl)) (fun x h=>G8 x.1 x.2.1 h)
theorem p5:Prog Tryz.prog (ar gl) k5:=p4.aj (.of Tryz.func119 (by kernel_rfl) (by kernel_rfl)) (fun x h=>EB x.1 x.2.1 x.2.2.1 h)
theorem p6:Prog Tryz.prog (ar gl) k6:=p5.aj (.of Tryz.func87 (by kernel_rfl) (by kernel_rfl)) (fun x h=>Eu x.1)
theorem p7:Prog Tryz.prog (ar gl) k7:=p6.aj (.of Tryz.func54 (by kernel_rfl) (by kernel_rfl)) (fun x h=>EC x.1 x.2.1)
theorem p8:Prog Tryz.prog (ar gl) k8:=p7.aj (.of Tryz.func56 (by kernel_rfl) (by kernel_rfl)) (fun x h=>CO x.1)
theorem p9:Prog Tryz.prog (ar gl) k9:=p8.aj (.of Tryz.func55 (by kernel_rfl) (by kernel_rfl)) (fun x h=>A8 x.1 h)
theorem p10:Prog Tryz.prog (ar gl) k10:=p9.aj (.of Tryz.func25 (by kernel_rfl) (by kernel_rfl)) (fun x h=>GH x.1)
theorem p11:Prog Tryz.prog (ar gl) k11:=p10.aj (.of Tryz.func79 (by kernel_rfl) (by kernel_rfl)) (fun x h=>I0 x.1)
theorem p12:Prog Tryz.prog (ar gl) k12:=p11.aj (.of Tryz.func106 (by kernel_rfl) (by kernel_rfl)) (fun x h=>FM x.1 x.2.1 x.2.2.1 x.2.2.2.1)
theorem p13:Prog Tryz.prog (ar gl) k13:=p12.aj (.of Tryz.func51 (by kernel_rfl) (by kernel_rfl)) (fun x h=>Da x.1)
theorem p14:Prog Tryz.prog (ar gl) k14:=p13.aj (.of Tryz.func84 (by kernel_rfl) (by kernel_rfl)) (fun x h=>EK x.1 x.2.1 x.2.2.1 h)
theorem p15:Prog Tryz.prog (ar gl) k15:=p14.aj (.of Tryz.func47 (by kernel_rfl) (by kernel_rfl)) (fun x h=>Ct x.1 x.2.1 h)
theorem p16:Prog Tryz.prog (ar gl) k16:=p15.A5 (.of Tryz.func53 (by kernel_rfl) (by kernel_rfl)) (fun x h=>xU x.1 x.2.1 x.2.2.1)
theorem uY (a0:Int):∃F d,run k16 F d 52 Tryz.f52 nt (a0,())=some (mY.enc (dw a0)):=⟨200,6,by kernel_rfl⟩
theorem p17:Prog Tryz.prog (ar gl) k17:=p16.aj (.of Tryz.func52 (by kernel_rfl) (by kernel_rfl)) (fun x h=>uY x.1)
set_option maxHeartbeats 0 in
theorem M1:∀ls os xs l e s' s,bSt FI ls os xs=some s→Gf ls os xs=some (true,l,e,s')→∃fuel d,dV k17 fuel d 24 62 {keep:=tK,m:=1,mv:=B9.mv} Gy La s=some (a7 Prod.mk l e s'):=by
 intro ls os xs l e s' s hb hg
 unfold Gf at hg
 split at hg
 ·iterate 11 (replace hg:=ay hg;obtain⟨_,xs,rfl,hg⟩:=hg)
  replace hg:=aI hg
  obtain⟨rfl,hg⟩:=hg
  simp only[XQ,Prod.mk.injEq]at hg
  obtain⟨h1,rfl,rfl,rfl⟩:=hg
  rw[OU]at hb
  simp only[XQ]at hb
  subst hb
  exact MW _ _ _ _ _ _ _ _ _ _ _ h1
 ·cases hg
set_option maxHeartbeats 0 in
theorem p18:Prog Tryz.prog (ar gl) k18:=Prog.eF (cfg:=k17) (f:=24) (p:=62) (keep:=tK) (kx:=Gy) (m:=1) (mv:=B9.mv) (Q:=FI) (g:=Gf) p17 Tryz.func24 (by kernel_rfl) Nr (by kernel_rfl) rfl (by decide) M1
theorem p19:Prog Tryz.prog (ar gl) k19:=p18.aj (.of Tryz.func24 (by kernel_rfl) (by kernel_rfl)) (fun x h=>xo x.1 x.2.1 x.2.2.1)
theorem p20:Prog Tryz.prog (ar gl) k20:=p19.aj (.of Tryz.func171 (by kernel_rfl) (by kernel_rfl)) (fun x h=>zY x.1 h)
theorem zn (a0:Config) (a1:ag) (a2:Int) (a3:Bool):∃F d,run k20 F d 170 Tryz.f170 rV (a0,a1,a2,a3,())=some (sn.enc (vM a0 a1 a2 a3)):=⟨200,6,by kernel_rfl⟩
theorem p21:Prog Tryz.prog (ar gl) k21:=p20.aj (.of Tryz.func170 (by kernel_rfl) (by kernel_rfl)) (fun x h=>zn x.1 x.2.1 x.2.2.1 x.2.2.2.1)
theorem p22:Prog Tryz.prog (ar gl) k22:=p21.aj (.of Tryz.func88 (by kernel_rfl) (by kernel_rfl)) (fun x h=>A3 x.1 x.2.1)
theorem p23:Prog Tryz.prog (ar gl) k23:=p22.aj (.of Tryz.func92 (by kernel_rfl) (by kernel_rfl)) (fun x h=>yS x.1)
theorem p24:Prog Tryz.prog (ar gl) k24:=p23.aj (.of Tryz.func57 (by kernel_rfl) (by kernel_rfl)) (fun x h=>AU x.1)
set_option maxHeartbeats 0 in
theorem LI:∀ls os xs l e s' s,bSt BN ls os xs=some s→Br ls os xs=some (true,l,e,s')→∃fuel d,dV k24 fuel d 58 58 {keep:=oR,m:=3,mv:=yY.mv} CU Hf s=some (a7 Prod.mk l e s'):=by
 intro ls os xs l e s' s hb hg
 unfold Br at hg
 split at hg
 ·iterate 34 (replace hg:=ay hg;obtain⟨_,xs,rfl,hg⟩:=hg)
  iterate 2 (replace hg:=bL hg;obtain⟨_,xs,rfl,hg⟩:=hg)
  iterate 2 (replace hg:=ay hg;obtain⟨_,xs,rfl,hg⟩:=hg)
  replace hg:=aI hg
  obtain⟨rfl,hg⟩:=hg
  simp only[XQ,Prod.mk.injEq]at hg
  obtain⟨h1,rfl,rfl,rfl⟩:=hg
  rw[NB]at hb
  simp only[XQ]at hb
  subst hb
  exact KR _ _ _ _ _ _ _ _ _ _ _ _ _ _ _ _ _ _ _ _ _ _ _ _ _ _ _ _ _ _ _ _ _ _ _ _ _ _ _ _ h1
 ·cases hg
set_option maxHeartbeats 0 in
theorem p25:Prog Tryz.prog (ar gl) k25:=Prog.eF (cfg:=k24) (f:=58) (p:=58) (keep:=oR) (kx:=CU) (m:=3) (mv:=yY.mv) (Q:=BN) (g:=Br) p24 Tryz.func58 (by kernel_rfl) Lg (by kernel_rfl) rfl (by decide) LI
theorem p26:Prog Tryz.prog (ar gl) k26:=p25.aj (.of Tryz.func58 (by kernel_rfl) (by kernel_rfl)) (fun x h=>zH x.1 h)
theorem p27:Prog Tryz.prog (ar gl) k27:=p26.aj (.of Tryz.func59 (by kernel_rfl) (by kernel_rfl)) (fun x h=>zU x.1)
theorem p28:Prog Tryz.prog (ar gl) k28:=p27.aj (.of Tryz.func62 (by kernel_rfl) (by kernel_rfl)) (fun x h=>zw x.1)
set_option maxHeartbeats 0 in
theorem Nk:∀ls os xs l e s' s,bSt F6 ls os xs=some s→GQ ls os xs=some (true,l,e,s')→∃fuel d,dV k28 fuel d 108 26 {keep:=tV,m:=3,mv:=Bq.mv} H3 Ko s=some (a7 Prod.mk l e s'):=by
 intro ls os xs l e s' s hb hg
 unfold GQ at hg
 split at hg
 ·iterate 34 (replace hg:=ay hg;obtain⟨_,xs,rfl,hg⟩:=hg)
  replace hg:=bL hg
  obtain⟨_,xs,rfl,hg⟩:=hg
  iterate 2 (replace hg:=ay hg;obtain⟨_,xs,rfl,hg⟩:=hg)
  replace hg:=aI hg
  obtain⟨rfl,hg⟩:=hg
  simp only[XQ,Prod.mk.injEq]at hg
  obtain⟨h1,rfl,rfl,rfl⟩:=hg
  rw[Pr]at hb
  simp only[XQ]at hb
  subst hb
  exact N3 _ _ _ _ _ _ _ _ _ _ _ _ _ _ _ _ _ _ _ _ _ _ _ _ _ _ _ _ _ _ _ _ _ _ _ _ _ _ _ h1
 ·cases hg
set_option maxHeartbeats 0 in
theorem p29:Prog Tryz.prog (ar gl) k29:=Prog.eF (cfg:=k28) (f:=108) (p:=26) (keep:=tV) (kx:=H3) (m:=3) (mv:=Bq.mv) (Q:=F6) (g:=GQ) p28 Tryz.func108 (by kernel_rfl) M9 (by kernel_rfl) rfl (by decide) Nk
theorem p30:Prog Tryz.prog (ar gl) k30:=p29.aj (.of Tryz.func63 (by kernel_rfl) (by kernel_rfl)) (fun x h=>wg x.1 h)
theorem p31:Prog Tryz.prog (ar gl) k31:=p30.aj (.of Tryz.func27 (by kernel_rfl) (by kernel_rfl)) (fun x h=>zX x.1 h)
theorem p32:Prog Tryz.prog (ar gl) k32:=p31.aj (.of Tryz.func9 (by kernel_rfl) (by kernel_rfl)) (fun x h=>vD x.1)
theorem p33:Prog Tryz.prog (ar gl) k33:=p32.A5 (.of Tryz.func12 (by kernel_rfl) (by kernel_rfl)) (fun x h=>wb x.1 h)
theorem p34:Prog Tryz.prog (ar gl) k34:=p33.aj (.of Tryz.func186 (by kernel_rfl) (by kernel_rfl)) (fun x h=>CW x.1 h)
theorem p35:Prog Tryz.prog (ar gl) k35:=p34.aj (.of Tryz.func189 (by kernel_rfl) (by kernel_rfl)) (fun x h=>q5 x.1 h)
theorem p36:Prog Tryz.prog (ar gl) k36:=p35.aj (.of Tryz.func187 (by kernel_rfl) (by kernel_rfl)) (fun x h=>um x.1 h)
theorem p37:Prog Tryz.prog (ar gl) k37:=p36.aj (.of Tryz.func188 (by kernel_rfl) (by kernel_rfl)) (fun x h=>sH x.1 h)
theorem p38:Prog Tryz.prog (ar gl) k38:=p37.aj (.of Tryz.func183 (by kernel_rfl) (by kernel_rfl)) (fun x h=>sb x.1 h)
theorem p39:Prog Tryz.prog (ar gl) k39:=p38.aj (.of Tryz.func184 (by kernel_rfl) (by kernel_rfl)) (fun x h=>qE x.1 h)
theorem p40:Prog Tryz.prog (ar gl) k40:=p39.aj (.of Tryz.func177 (by kernel_rfl) (by kernel_rfl)) (fun x h=>yz x.1)
theorem p41:Prog Tryz.prog (ar gl) k41:=p40.aj (.of Tryz.func178 (by kernel_rfl) (by kernel_rfl)) (fun x h=>Ey x.1)
theorem p42:Prog Tryz.prog (ar gl) k42:=p41.aj (.of Tryz.func180 (by kernel_rfl) (by kernel_rfl)) (fun x h=>Be x.1 x.2.1)
set_option maxHeartbeats 0 in
theorem Uf:∀ls os xs l e s' s,bSt TA ls os xs=some s→Ui ls os xs=some (true,l,e,s')→∃fuel d,dV k42 fuel d 175 508 {keep:=Bk,m:=3,mv:=LX.mv} OX Vc s=some (a7 Prod.mk l e s'):=by
 intro ls os xs l e s' s hb hg
 unfold Ui at hg
 split at hg
 ·iterate 6 (replace hg:=ay hg;obtain⟨_,xs,rfl,hg⟩:=hg)
  replace hg:=aI hg
  obtain⟨rfl,hg⟩:=hg
  simp only[XQ,Prod.mk.injEq]at hg
  obtain⟨h1,rfl,rfl,rfl⟩:=hg
  rw[Va]at hb
  simp only[XQ]at hb
  subst hb
  exact Ta _ _ _ _ _ _ h1
 ·cases hg
set_option maxHeartbeats 0 in
theorem p43:Prog Tryz.prog (ar gl) k43:=Prog.eF (cfg:=k42) (f:=175) (p:=508) (keep:=Bk) (kx:=OX) (m:=3) (mv:=LX.mv) (Q:=TA) (g:=Ui) p42 Tryz.func175 (by kernel_rfl) Ud (by kernel_rfl) rfl (by decide) Uf
set_option maxHeartbeats 0 in
theorem SQ:∀ls os xs l e s' s,bSt T5 ls os xs=some s→T8 ls os xs=some (true,l,e,s')→∃fuel d,dV k43 fuel d 185 6 {keep:=B8,m:=8,mv:=ME.mv} Ql Vw s=some (a7 Prod.mk l e s'):=by
 intro ls os xs l e s' s hb hg
 unfold T8 at hg
 split at hg
 ·iterate 11 (replace hg:=ay hg;obtain⟨_,xs,rfl,hg⟩:=hg)
  replace hg:=aI hg
  obtain⟨rfl,hg⟩:=hg
  simp only[XQ,Prod.mk.injEq]at hg
  obtain⟨h1,rfl,rfl,rfl⟩:=hg
  rw[UO]at hb
  simp only[XQ]at hb
  subst hb
  exact Tx _ _ _ _ _ _ _ _ _ _ _ h1
 ·cases hg
set_option maxHeartbeats 0 in
theorem p44:Prog Tryz.prog (ar gl) k44:=Prog.eF (cfg:=k43) (f:=185) (p:=6) (cx:=1) (keep:=B8) (kx:=Ql) (m:=8) (mv:=ME.mv) (Q:=T5) (g:=T8) p43 Tryz.func185 (by kernel_rfl) Uh (by kernel_rfl) rfl (by decide) SQ
theorem p45:Prog Tryz.prog (ar gl) k45:=p44.aj (.of Tryz.func175 (by kernel_rfl) (by kernel_rfl)) (fun x h=>Es x.1)
theorem p46:Prog Tryz.prog (ar gl) k46:=p45.add Qu
theorem p47:Prog Tryz.prog (ar gl) k47:=p46.aj (.of Tryz.func192 (by kernel_rfl) (by kernel_rfl)) (fun x h=>C2 x.1 x.2.1)
set_option maxHeartbeats 0 in
theorem NL:∀ls os xs l e s' s,bSt Gm ls os xs=some s→Ia ls os xs=some (true,l,e,s')→∃fuel d,dV k47 fuel d 194 28 {keep:=tT,m:=2,mv:=Bi.mv} Hy J5 s=some (a7 Prod.mk l e s'):=by
 intro ls os xs l e s' s hb hg
 unfold Ia at hg
 split at hg
 ·replace hg:=ay hg
  obtain⟨_,xs,rfl,hg⟩:=hg
  replace hg:=bL hg
  obtain⟨_,xs,rfl,hg⟩:=hg
  iterate 2 (replace hg:=ay hg;obtain⟨_,xs,rfl,hg⟩:=hg)
  replace hg:=aI hg
  obtain⟨rfl,hg⟩:=hg
  simp only[XQ,Prod.mk.injEq]at hg
  obtain⟨h1,rfl,rfl,rfl⟩:=hg
  rw[PE]at hb
  simp only[XQ]at hb
  subst hb
  exact Og _ _ _ _ h1
 ·cases hg
set_option maxHeartbeats 0 in
theorem p48:Prog Tryz.prog (ar gl) k48:=Prog.eF (cfg:=k47) (f:=194) (p:=28) (keep:=tT) (kx:=Hy) (m:=2) (mv:=Bi.mv) (Q:=Gm) (g:=Ia) p47 Tryz.func194 (by kernel_rfl) OC (by kernel_rfl) rfl (by decide) NL
theorem p49:Prog Tryz.prog (ar gl) k49:=p48.aj (.of Tryz.func191 (by kernel_rfl) (by kernel_rfl)) (fun x h=>Ek x.1 x.2.1)
theorem p50:Prog Tryz.prog (ar gl) k50:=p49.aj (.of Tryz.func174 (by kernel_rfl) (by kernel_rfl)) (fun x h=>DY x.1 x.2.1)
theorem p51:Prog Tryz.prog (ar gl) k51:=p50.aj (.of Tryz.func195 (by kernel_rfl) (by kernel_rfl)) (fun x h=>Eo x.1 x.2.1)
theorem p52:Prog Tryz.prog (ar gl) k52:=p51.aj (.of Tryz.func193 (by kernel_rfl) (by kernel_rfl)) (fun x h=>xM x.1 x.2.1 x.2.2.1)
theorem p53:Prog Tryz.prog (ar gl) k53:=p52.aj (.of Tryz.func169 (by kernel_rfl) (by kernel_rfl)) (fun x h=>pc x.1 x.2.1 x.2.2.1 x.2.2.2.1 h)
theorem p54:Prog Tryz.prog (ar gl) k54:=p53.aj (.of Tryz.func172 (by kernel_rfl) (by kernel_rfl)) (fun x h=>qT x.1 x.2.1 x.2.2.1 x.2.2.2.1 h)
theorem p55:Prog Tryz.prog (ar gl) k55:=p54.aj (.of Tryz.func173 (by kernel_rfl) (by kernel_rfl)) (fun x h=>pn x.1 x.2.1 x.2.2.1 x.2.2.2.1 h)
theorem p56:Prog Tryz.prog (ar gl) k56:=p55.aj (.of Tryz.func190 (by kernel_rfl) (by kernel_rfl)) (fun x h=>oF x.1 x.2.1 x.2.2.1 x.2.2.2.1 h)
theorem p57:Prog Tryz.prog (ar gl) k57:=p56.aj (.of Tryz.func98 (by kernel_rfl) (by kernel_rfl)) (fun x h=>TC x.1 h)
theorem p58:Prog Tryz.prog (ar gl) k58:=p57.aj (.of Tryz.func98 (by kernel_rfl) (by kernel_rfl)) (fun x h=>TG x.1 h)
theorem p59:Prog Tryz.prog (ar gl) k59:=p58.aj (.of Tryz.func98 (by kernel_rfl) (by kernel_rfl)) (fun x h=>Ub x.1 h)
theorem p60:Prog Tryz.prog (ar gl) k60:=p59.aj (.of Tryz.func98 (by kernel_rfl) (by kernel_rfl)) (fun x h=>TH x.1 h)
theorem p61:Prog Tryz.prog (ar gl) k61:=p60.add (UW (F2 p57 ⟨_,rfl⟩) (F2 p58 ⟨_,rfl⟩) (F2 p59 ⟨_,rfl⟩) (F2 p60 ⟨_,rfl⟩))
theorem p62:Prog Tryz.prog (ar gl) k62:=p61.aj (.of Tryz.func66 (by kernel_rfl) (by kernel_rfl)) (fun x h=>A2 x.1 x.2.1 x.2.2.1 h)
theorem p63:Prog Tryz.prog (ar gl) k63:=p62.aj (.of Tryz.func46 (by kernel_rfl) (by kernel_rfl)) (fun x h=>Di x.1 x.2.1)
theorem p64:Prog Tryz.prog (ar gl) k64:=p63.aj (.of Tryz.func22 (by kernel_rfl) (by kernel_rfl)) (fun x h=>Ei x.1 x.2.1)
theorem p65:Prog Tryz.prog (ar gl) k65:=p64.aj (.of Tryz.func50 (by kernel_rfl) (by kernel_rfl)) (fun x h=>AO x.1 x.2.1)
theorem p66:Prog Tryz.prog (ar gl) k66:=p65.aj (.of Tryz.func112 (by kernel_rfl) (by kernel_rfl)) (fun x h=>Na x.1 x.2.1)
set_option maxHeartbeats 0 in
theorem IH:∀ls os xs l e s' s,bSt yO ls os xs=some s→xa ls os xs=some (true,l,e,s')→∃fuel d,dV k66 fuel d 97 122 {keep:=mD,m:=1,mv:=tO.mv} zC DQ s=some (a7 Prod.mk l e s'):=by
 intro ls os xs l e s' s hb hg
 unfold xa at hg
 split at hg
 ·iterate 4 (replace hg:=ay hg;obtain⟨_,xs,rfl,hg⟩:=hg)
  replace hg:=aI hg
  obtain⟨rfl,hg⟩:=hg
  simp only[XQ,Prod.mk.injEq]at hg
  obtain⟨h1,rfl,rfl,rfl⟩:=hg
  rw[KL]at hb
  simp only[XQ]at hb
  subst hb
  exact Je _ _ _ _ _ h1
 ·cases hg
set_option maxHeartbeats 0 in
theorem p67:Prog Tryz.prog (ar gl) k67:=Prog.eF (cfg:=k66) (f:=97) (p:=122) (keep:=mD) (kx:=zC) (m:=1) (mv:=tO.mv) (Q:=yO) (g:=xa) p66 Tryz.func97 (by kernel_rfl) Ig (by kernel_rfl) rfl (by decide) IH
theorem p68:Prog Tryz.prog (ar gl) k68:=p67.aj (.of Tryz.func97 (by kernel_rfl) (by kernel_rfl)) (fun x h=>uW x.1 x.2.1 h)
set_option maxHeartbeats 0 in
theorem M6:∀ls os xs l e s' s,bSt FJ ls os xs=some s→HJ ls os xs=some (true,l,e,s')→∃fuel d,dV k68 fuel d 48 26 {keep:=uh,m:=3,mv:=B2.mv} HF Kw s=some (a7 Prod.mk l e s'):=by
 intro ls os xs l e s' s hb hg
 unfold HJ at hg
 split at hg
 ·iterate 7 (replace hg:=ay hg;obtain⟨_,xs,rfl,hg⟩:=hg)
  replace hg:=aI hg
  obtain⟨rfl,hg⟩:=hg
  simp only[XQ,Prod.mk.injEq]at hg
  obtain⟨h1,rfl,rfl,rfl⟩:=hg
  rw[RP]at hb
  simp only[XQ]at hb
  subst hb
  exact Nn _ _ _ _ _ _ _ _ h1
 ·cases hg
set_option maxHeartbeats 0 in
theorem p69:Prog Tryz.prog (ar gl) k69:=Prog.eF (cfg:=k68) (f:=48) (p:=26) (cx:=1003) (keep:=uh) (kx:=HF) (m:=3) (mv:=B2.mv) (Q:=FJ) (g:=HJ) p68 Tryz.func48 (by kernel_rfl) MQ (by kernel_rfl) rfl (by decide) M6
theorem p70:Prog Tryz.prog (ar gl) k70:=p69.aj (.of Tryz.func23 (by kernel_rfl) (by kernel_rfl)) (fun x h=>I9 x.1 x.2.1 h)
set_option maxHeartbeats 0 in
theorem OI:∀ls os xs l e s' s,bSt MJ ls os xs=some s→Mj ls os xs=some (true,l,e,s')→∃fuel d,dV k70 fuel d 29 58 {keep:=xZ,m:=1,mv:=FL.mv} Lc ON s=some (a7 Prod.mk l e s'):=by
 intro ls os xs l e s' s hb hg
 unfold Mj at hg
 split at hg
 ·iterate 4 (replace hg:=ay hg;obtain⟨_,xs,rfl,hg⟩:=hg)
  replace hg:=aI hg
  obtain⟨rfl,hg⟩:=hg
  simp only[XQ,Prod.mk.injEq]at hg
  obtain⟨h1,rfl,rfl,rfl⟩:=hg
  rw[TY]at hb
  simp only[XQ]at hb
  subst hb
  exact PJ _ _ _ _ _ _ h1
 ·cases hg
set_option maxHeartbeats 0 in
theorem p71:Prog Tryz.prog (ar gl) k71:=Prog.eF (cfg:=k70) (f:=29) (p:=58) (keep:=xZ) (kx:=Lc) (m:=1) (mv:=FL.mv) (Q:=MJ) (g:=Mj) p70 Tryz.func29 (by kernel_rfl) Ps (by kernel_rfl) rfl (by decide) OI
theorem p72:Prog Tryz.prog (ar gl) k72:=p71.A5 (.of Tryz.func29 (by kernel_rfl) (by kernel_rfl)) (fun x h=>Ha x.1 x.2.1 x.2.2.1 h)
set_option maxHeartbeats 0 in
theorem Kn:∀ls os xs l e s' s,bSt Bu ls os xs=some s→BE ls os xs=some (true,l,e,s')→∃fuel d,dV k72 fuel d 48 26 {keep:=qb,m:=2,mv:=x4.mv} DT G0 s=some (a7 Prod.mk l e s'):=by
 intro ls os xs l e s' s hb hg
 unfold BE at hg
 split at hg
 ·iterate 2 (replace hg:=ay hg;obtain⟨_,xs,rfl,hg⟩:=hg)
  replace hg:=aI hg
  obtain⟨rfl,hg⟩:=hg
  simp only[XQ,Prod.mk.injEq]at hg
  obtain⟨h1,rfl,rfl,rfl⟩:=hg
  rw[N7]at hb
  simp only[XQ]at hb
  subst hb
  exact LC _ _ _ h1
 ·cases hg
set_option maxHeartbeats 0 in
theorem p73:Prog Tryz.prog (ar gl) k73:=Prog.eF (cfg:=k72) (f:=48) (p:=26) (cx:=1002) (keep:=qb) (kx:=DT) (m:=2) (mv:=x4.mv) (Q:=Bu) (g:=BE) p72 Tryz.func48 (by kernel_rfl) KM (by kernel_rfl) rfl (by decide) Kn
set_option maxHeartbeats 0 in
theorem Nh:∀ls os xs l e s' s,bSt HK ls os xs=some s→Hn ls os xs=some (true,l,e,s')→∃fuel d,dV k73 fuel d 96 58 {keep:=tL,m:=4,mv:=BJ.mv} H4 LW s=some (a7 Prod.mk l e s'):=by
 intro ls os xs l e s' s hb hg
 unfold Hn at hg
 split at hg
 ·iterate 2 (replace hg:=ay hg;obtain⟨_,xs,rfl,hg⟩:=hg)
  replace hg:=aI hg
  obtain⟨rfl,hg⟩:=hg
  simp only[XQ,Prod.mk.injEq]at hg
  obtain⟨h1,rfl,rfl,rfl⟩:=hg
  rw[Sw]at hb
  simp only[XQ]at hb
  subst hb
  exact NZ _ _ _ _ h1
 ·cases hg
set_option maxHeartbeats 0 in
theorem p74:Prog Tryz.prog (ar gl) k74:=Prog.eF (cfg:=k73) (f:=96) (p:=58) (keep:=tL) (kx:=H4) (m:=4) (mv:=BJ.mv) (Q:=HK) (g:=Hn) p73 Tryz.func96 (by kernel_rfl) NU (by kernel_rfl) rfl (by decide) Nh
set_option maxHeartbeats 0 in
theorem Ro:∀ls os xs l e s' s,bSt Mm ls os xs=some s→LY ls os xs=some (true,l,e,s')→∃fuel d,dV k74 fuel d 111 6 {keep:=yR,m:=7,mv:=Hp.mv} Kx Qk s=some (a7 Prod.mk l e s'):=by
 intro ls os xs l e s' s hb hg
 unfold LY at hg
 split at hg
 ·replace hg:=ay hg
  obtain⟨_,xs,rfl,hg⟩:=hg
  replace hg:=aI hg
  obtain⟨rfl,hg⟩:=hg
  simp only[XQ,Prod.mk.injEq]at hg
  obtain⟨h1,rfl,rfl,rfl⟩:=hg
  rw[SF]at hb
  simp only[XQ]at hb
  subst hb
  exact QE _ _ _ _ h1
 ·cases hg
set_option maxHeartbeats 0 in
theorem p75:Prog Tryz.prog (ar gl) k75:=Prog.eF (cfg:=k74) (f:=111) (p:=6) (cx:=3) (keep:=yR) (kx:=Kx) (m:=7) (mv:=Hp.mv) (Q:=Mm) (g:=LY) p74 Tryz.func111 (by kernel_rfl) PR (by kernel_rfl) rfl (by decide) Ro
theorem p76:Prog Tryz.prog (ar gl) k76:=p75.A5 (.of Tryz.func64 (by kernel_rfl) (by kernel_rfl)) (fun x h=>ze x.1 h)
set_option maxHeartbeats 0 in
theorem MZ:∀ls os xs l e s' s,bSt Ie ls os xs=some s→HE ls os xs=some (true,l,e,s')→∃fuel d,dV k76 fuel d 65 1426 {keep:=ui,m:=10,mv:=BR.mv} Hk LK s=some (a7 Prod.mk l e s'):=by
 intro ls os xs l e s' s hb hg
 unfold HE at hg
 split at hg
 ·iterate 34 (replace hg:=ay hg;obtain⟨_,xs,rfl,hg⟩:=hg)
  replace hg:=bL hg
  obtain⟨_,xs,rfl,hg⟩:=hg
  iterate 34 (replace hg:=ay hg;obtain⟨_,xs,rfl,hg⟩:=hg)
  replace hg:=bL hg
  obtain⟨_,xs,rfl,hg⟩:=hg
  iterate 5 (replace hg:=ay hg;obtain⟨_,xs,rfl,hg⟩:=hg)
  replace hg:=aI hg
  obtain⟨rfl,hg⟩:=hg
  simp only[XQ,Prod.mk.injEq]at hg
  obtain⟨h1,rfl,rfl,rfl⟩:=hg
  rw[Qd]at hb
  simp only[XQ]at hb
  subst hb
  exact Nl _ _ _ _ _ _ _ _ _ _ _ _ _ _ _ _ _ _ _ _ _ _ _ _ _ _ _ _ _ _ _ _ _ _ _ _ _ _ _ _ _ _ _ _ _ _ _ _ _ _ _ _ _ _ _ _ _ _ _ _ _ _ _ _ _ _ _ _ _ _ _ _ _ _ _ _ _ _ h1
 ·cases hg
set_option maxHeartbeats 0 in
theorem p77:Prog Tryz.prog (ar gl) k77:=Prog.eF (cfg:=k76) (f:=65) (p:=1426) (cx:=2) (keep:=ui) (kx:=Hk) (m:=10) (mv:=BR.mv) (Q:=Ie) (g:=HE) p76 Tryz.func65 (by kernel_rfl) Oi (by kernel_rfl) rfl (by decide) MZ
set_option maxHeartbeats 0 in
theorem Ni:∀ls os xs l e s' s,bSt H6 ls os xs=some s→F1 ls os xs=some (true,l,e,s')→∃fuel d,dV k77 fuel d 65 22 {keep:=tf,m:=9,mv:=Bg.mv} GG Kh s=some (a7 Prod.mk l e s'):=by
 intro ls os xs l e s' s hb hg
 unfold F1 at hg
 split at hg
 ·iterate 34 (replace hg:=ay hg;obtain⟨_,xs,rfl,hg⟩:=hg)
  replace hg:=bL hg
  obtain⟨_,xs,rfl,hg⟩:=hg
  iterate 34 (replace hg:=ay hg;obtain⟨_,xs,rfl,hg⟩:=hg)
  replace hg:=bL hg
  obtain⟨_,xs,rfl,hg⟩:=hg
  iterate 3 (replace hg:=ay hg;obtain⟨_,xs,rfl,hg⟩:=hg)
  replace hg:=aI hg
  obtain⟨rfl,hg⟩:=hg
  simp only[XQ,Prod.mk.injEq]at hg
  obtain⟨h1,rfl,rfl,rfl⟩:=hg
  rw[Rx]at hb
  simp only[XQ]at hb
  subst hb
  exact NG _ _ _ _ _ _ _ _ _ _ _ _ _ _ _ _ _ _ _ _ _ _ _ _ _ _ _ _ _ _ _ _ _ _ _ _ _ _ _ _ _ _ _ _ _ _ _ _ _ _ _ _ _ _ _ _ _ _ _ _ _ _ _ _ _ _ _ _ _ _ _ _ _ _ _ _ h1
 ·cases hg
set_option maxHeartbeats 0 in
theorem p78:Prog Tryz.prog (ar gl) k78:=Prog.eF (cfg:=k77) (f:=65) (p:=22) (cx:=2) (keep:=tf) (kx:=GG) (m:=9) (mv:=Bg.mv) (Q:=H6) (g:=F1) p77 Tryz.func65 (by kernel_rfl) N4 (by kernel_rfl) rfl (by decide) Ni
theorem p79:Prog Tryz.prog (ar gl) k79:=p78.A5 (.of Tryz.func13 (by kernel_rfl) (by kernel_rfl)) (fun x h=>AZ x.1 x.2.1 x.2.2.1 h)
theorem p80:Prog Tryz.prog (ar gl) k80:=p79.A5 (.of Tryz.func28 (by kernel_rfl) (by kernel_rfl)) (fun x h=>A0 x.1 x.2.1 h)
theorem p81:Prog Tryz.prog (ar gl) k81:=p80.A5 (.of Tryz.func11 (by kernel_rfl) (by kernel_rfl)) (fun x h=>Et x.1 x.2.1 h)
theorem p82:Prog Tryz.prog (ar gl) k82:=p81.aj (.of Tryz.func40 (by kernel_rfl) (by kernel_rfl)) (fun x h=>Aa x.1 x.2.1 h)
theorem p83:Prog Tryz.prog (ar gl) k83:=p82.aj (.of Tryz.func19 (by kernel_rfl) (by kernel_rfl)) (fun x h=>CI x.1 x.2.1 h)
theorem p84:Prog Tryz.prog (ar gl) k84:=p83.aj (.of Tryz.func69 (by kernel_rfl) (by kernel_rfl)) (fun x h=>sg x.1)
theorem p85:Prog Tryz.prog (ar gl) k85:=p84.aj (.of Tryz.func67 (by kernel_rfl) (by kernel_rfl)) (fun x h=>uN x.1)
theorem p86:Prog Tryz.prog (ar gl) k86:=p85.aj (.of Tryz.func68 (by kernel_rfl) (by kernel_rfl)) (fun x h=>uw x.1)
theorem p87:Prog Tryz.prog (ar gl) k87:=p86.aj (.of Tryz.func35 (by kernel_rfl) (by kernel_rfl)) (fun x h=>qZ x.1)
theorem p88:Prog Tryz.prog (ar gl) k88:=p87.aj (.of Tryz.func33 (by kernel_rfl) (by kernel_rfl)) (fun x h=>rU x.1)
theorem p89:Prog Tryz.prog (ar gl) k89:=p88.aj (.of Tryz.func34 (by kernel_rfl) (by kernel_rfl)) (fun x h=>sU x.1)
theorem p90:Prog Tryz.prog (ar gl) k90:=p89.aj (.of Tryz.func32 (by kernel_rfl) (by kernel_rfl)) (fun x h=>sL x.1)
set_option maxHeartbeats 0 in
theorem Iy:∀ls os xs l e s' s,bSt yT ls os xs=some s→y7 ls os xs=some (true,l,e,s')→∃fuel d,dV k90 fuel d 31 26 {keep:=nr,m:=3,mv:=tX.mv} zK DO s=some (a7 Prod.mk l e s'):=by
 intro ls os xs l e s' s hb hg
 unfold y7 at hg
 split at hg
 ·iterate 34 (replace hg:=ay hg;obtain⟨_,xs,rfl,hg⟩:=hg)
  replace hg:=bL hg
  obtain⟨_,xs,rfl,hg⟩:=hg
  replace hg:=ay hg
  obtain⟨_,xs,rfl,hg⟩:=hg
  replace hg:=aI hg
  obtain⟨rfl,hg⟩:=hg
  simp only[XQ,Prod.mk.injEq]at hg
  obtain⟨h1,rfl,rfl,rfl⟩:=hg
  rw[JY]at hb
  simp only[XQ]at hb
  subst hb
  exact JC _ _ _ _ _ _ _ _ _ _ _ _ _ _ _ _ _ _ _ _ _ _ _ _ _ _ _ _ _ _ _ _ _ _ _ _ _ _ h1
 ·cases hg
set_option maxHeartbeats 0 in
theorem p91:Prog Tryz.prog (ar gl) k91:=Prog.eF (cfg:=k90) (f:=31) (p:=26) (keep:=nr) (kx:=zK) (m:=3) (mv:=tX.mv) (Q:=yT) (g:=y7) p90 Tryz.func31 (by kernel_rfl) Iz (by kernel_rfl) rfl (by decide) Iy
theorem p92:Prog Tryz.prog (ar gl) k92:=p91.aj (.of Tryz.func31 (by kernel_rfl) (by kernel_rfl)) (fun x h=>q9 x.1 h)
set_option maxHeartbeats 0 in
theorem KE:∀ls os xs l e s' s,bSt Bp ls os xs=some s→Ca ls os xs=some (true,l,e,s')→∃fuel d,dV k92 fuel d 14 32762 {keep:=oM,m:=3,mv:=xQ.mv} C9 Gt s=some (a7 Prod.mk l e s'):=by
 intro ls os xs l e s' s hb hg
 unfold Ca at hg
 split at hg
 ·iterate 34 (replace hg:=ay hg;obtain⟨_,xs,rfl,hg⟩:=hg)
  replace hg:=bL hg
  obtain⟨_,xs,rfl,hg⟩:=hg
  replace hg:=ay hg
  obtain⟨_,xs,rfl,hg⟩:=hg
  replace hg:=aI hg
  obtain⟨rfl,hg⟩:=hg
  simp only[XQ,Prod.mk.injEq]at hg
  obtain⟨h1,rfl,rfl,rfl⟩:=hg
  rw[M3]at hb
  simp only[XQ]at hb
  subst hb
  exact K0 _ _ _ _ _ _ _ _ _ _ _ _ _ _ _ _ _ _ _ _ _ _ _ _ _ _ _ _ _ _ _ _ _ _ _ _ _ _ h1
 ·cases hg
set_option maxHeartbeats 0 in
theorem p93:Prog Tryz.prog (ar gl) k93:=Prog.eF (cfg:=k92) (f:=14) (p:=32762) (keep:=oM) (kx:=C9) (m:=3) (mv:=xQ.mv) (Q:=Bp) (g:=Ca) p92 Tryz.func14 (by kernel_rfl) Ly (by kernel_rfl) rfl (by decide) KE
theorem p94:Prog Tryz.prog (ar gl) k94:=p93.aj (.of Tryz.func14 (by kernel_rfl) (by kernel_rfl)) (fun x h=>rh x.1 h)
theorem rk:∃F d,run k94 F d 10 Tryz.f10 l5 (())=some (lG.enc (true)):=⟨200,6,by kernel_rfl⟩
theorem p95:Prog Tryz.prog (ar gl) k95:=p94.aj (.of Tryz.func10 (by kernel_rfl) (by kernel_rfl)) (fun x h=>rk)
theorem p96:Prog Tryz.prog (ar gl) k96:=p95.aj (.of Tryz.func45 (by kernel_rfl) (by kernel_rfl)) (fun x h=>wv x.1 x.2.1 h)
theorem p97:Prog Tryz.prog (ar gl) k97:=p96.aj (.of Tryz.func105 (by kernel_rfl) (by kernel_rfl)) (fun x h=>uU x.1)
theorem p98:Prog Tryz.prog (ar gl) k98:=p97.aj (.of Tryz.func81 (by kernel_rfl) (by kernel_rfl)) (fun x h=>ur x.1)
theorem p99:Prog Tryz.prog (ar gl) k99:=p98.aj (.of Tryz.func82 (by kernel_rfl) (by kernel_rfl)) (fun x h=>uX x.1 x.2.1)
set_option maxHeartbeats 0 in
theorem RQ:∀ls os xs l e s' s,bSt Mk ls os xs=some s→MA ls os xs=some (true,l,e,s')→∃fuel d,dV k99 fuel d 44 28 {keep:=xD,m:=1,mv:=H5.mv} Lw RC s=some (a7 Prod.mk l e s'):=by
 intro ls os xs l e s' s hb hg
 unfold MA at hg
 split at hg
 ·iterate 5 (replace hg:=ay hg;obtain⟨_,xs,rfl,hg⟩:=hg)
  replace hg:=aI hg
  obtain⟨rfl,hg⟩:=hg
  simp only[XQ,Prod.mk.injEq]at hg
  obtain⟨h1,rfl,rfl,rfl⟩:=hg
  rw[Ts]at hb
  simp only[XQ]at hb
  subst hb
  exact Sr _ _ _ _ _ h1
 ·cases hg
set_option maxHeartbeats 0 in
theorem WW:Prog Tryz.prog (ar gl) KX:=Prog.eF (cfg:=k99) (f:=44) (p:=28) (keep:=xD) (kx:=Lw) (m:=1) (mv:=H5.mv) (Q:=Mk) (g:=MA) p99 Tryz.func44 (by kernel_rfl) PU (by kernel_rfl) rfl (by decide) RQ
set_option maxHeartbeats 0 in
theorem Ox:∀ls os xs l e s' s,bSt Hq ls os xs=some s→G1 ls os xs=some (true,l,e,s')→∃fuel d,dV KX fuel d 44 124 {keep:=tR,m:=1,mv:=BL.mv} HX Kd s=some (a7 Prod.mk l e s'):=by
 intro ls os xs l e s' s hb hg
 unfold G1 at hg
 split at hg
 ·iterate 6 (replace hg:=ay hg;obtain⟨_,xs,rfl,hg⟩:=hg)
  replace hg:=aI hg
  obtain⟨rfl,hg⟩:=hg
  simp only[XQ,Prod.mk.injEq]at hg
  obtain⟨h1,rfl,rfl,rfl⟩:=hg
  rw[Qs]at hb
  simp only[XQ]at hb
  subst hb
  exact Oa _ _ _ _ _ _ h1
 ·cases hg
set_option maxHeartbeats 0 in
theorem WU:Prog Tryz.prog (ar gl) Pm:=Prog.eF (cfg:=KX) (f:=44) (p:=124) (keep:=tR) (kx:=HX) (m:=1) (mv:=BL.mv) (Q:=Hq) (g:=G1) WW Tryz.func44 (by kernel_rfl) NI (by kernel_rfl) rfl (by decide) Ox
theorem Xr:Prog Tryz.prog (ar gl) QO:=WU.aj (.of Tryz.func44 (by kernel_rfl) (by kernel_rfl)) (fun x h=>yB x.1 h)
theorem Ws:Prog Tryz.prog (ar gl) OJ:=Xr.aj (.of Tryz.func43 (by kernel_rfl) (by kernel_rfl)) (fun x h=>uq x.1)
theorem Xj:Prog Tryz.prog (ar gl) QK:=Ws.aj (.of Tryz.func21 (by kernel_rfl) (by kernel_rfl)) (fun x h=>qD x.1 x.2.1 h)
theorem Xh:Prog Tryz.prog (ar gl) KS:=Xj.aj (.of Tryz.func113 (by kernel_rfl) (by kernel_rfl)) (fun x h=>wO x.1 x.2.1 h)
set_option maxHeartbeats 0 in
theorem M4:∀ls os xs l e s' s,bSt F9 ls os xs=some s→HI ls os xs=some (true,l,e,s')→∃fuel d,dV KS fuel d 127 58 {keep:=tP,m:=1,mv:=Bw.mv} F3 Kz s=some (a7 Prod.mk l e s'):=by
 intro ls os xs l e s' s hb hg
 unfold HI at hg
 split at hg
 ·iterate 5 (replace hg:=ay hg;obtain⟨_,xs,rfl,hg⟩:=hg)
  replace hg:=aI hg
  obtain⟨rfl,hg⟩:=hg
  simp only[XQ,Prod.mk.injEq]at hg
  obtain⟨h1,rfl,rfl,rfl⟩:=hg
  rw[Pt]at hb
  simp only[XQ]at hb
  subst hb
  exact Oz _ _ _ _ _ h1
 ·cases hg
set_option maxHeartbeats 0 in
theorem Ww:Prog Tryz.prog (ar gl) J1:=Prog.eF (cfg:=KS) (f:=127) (p:=58) (keep:=tP) (kx:=F3) (m:=1) (mv:=Bw.mv) (Q:=F9) (g:=HI) Xh Tryz.func127 (by kernel_rfl) Nt (by kernel_rfl) rfl (by decide) M4
set_option maxHeartbeats 0 in
theorem Oe:∀ls os xs l e s' s,bSt G3 ls os xs=some s→H8 ls os xs=some (true,l,e,s')→∃fuel d,dV J1 fuel d 127 122 {keep:=tp,m:=1,mv:=Bs.mv} Gz LB s=some (a7 Prod.mk l e s'):=by
 intro ls os xs l e s' s hb hg
 unfold H8 at hg
 split at hg
 ·iterate 5 (replace hg:=ay hg;obtain⟨_,xs,rfl,hg⟩:=hg)
  replace hg:=aI hg
  obtain⟨rfl,hg⟩:=hg
  simp only[XQ,Prod.mk.injEq]at hg
  obtain⟨h1,rfl,rfl,rfl⟩:=hg
  rw[Qq]at hb
  simp only[XQ]at hb
  subst hb
  exact Nb _ _ _ _ _ h1
 ·cases hg
set_option maxHeartbeats 0 in
theorem Wl:Prog Tryz.prog (ar gl) OL:=Prog.eF (cfg:=J1) (f:=127) (p:=122) (keep:=tp) (kx:=Gz) (m:=1) (mv:=Bs.mv) (Q:=G3) (g:=H8) Ww Tryz.func127 (by kernel_rfl) ND (by kernel_rfl) rfl (by decide) Oe
theorem Xk:Prog Tryz.prog (ar gl) QQ:=Wl.aj (.of Tryz.func127 (by kernel_rfl) (by kernel_rfl)) (fun x h=>vL x.1 h)
theorem Wq:Prog Tryz.prog (ar gl) LJ:=Xk.aj (.of Tryz.func99 (by kernel_rfl) (by kernel_rfl)) (fun x h=>pk x.1 h)
set_option maxHeartbeats 0 in
theorem M5:∀ls os xs l e s' s,bSt F7 ls os xs=some s→FF ls os xs=some (true,l,e,s')→∃fuel d,dV LJ fuel d 118 1018 {keep:=uf,m:=0,mv:=BG.mv} Ht JW s=some (a7 Prod.mk l e s'):=by
 intro ls os xs l e s' s hb hg
 unfold FF at hg
 split at hg
 ·iterate 8 (replace hg:=ay hg;obtain⟨_,xs,rfl,hg⟩:=hg)
  replace hg:=aI hg
  obtain⟨rfl,hg⟩:=hg
  simp only[XQ,Prod.mk.injEq]at hg
  obtain⟨h1,rfl,rfl,rfl⟩:=hg
  rw[RF]at hb
  simp only[XQ]at hb
  subst hb
  exact NY _ _ _ _ _ _ _ _ h1
 ·cases hg
set_option maxHeartbeats 0 in
theorem Xe:Prog Tryz.prog (ar gl) RR:=Prog.eF (cfg:=LJ) (f:=118) (p:=1018) (keep:=uf) (kx:=Ht) (m:=0) (mv:=BG.mv) (Q:=F7) (g:=FF) Wq Tryz.func118 (by kernel_rfl) NN (by kernel_rfl) rfl (by decide) M5
theorem W5:Prog Tryz.prog (ar gl) QY:=Xe.aj (.of Tryz.func118 (by kernel_rfl) (by kernel_rfl)) (fun x h=>wT x.1 x.2.1 x.2.2.1 x.2.2.2.1)
theorem Wv:Prog Tryz.prog (ar gl) Rp:=W5.aj (.of Tryz.func104 (by kernel_rfl) (by kernel_rfl)) (fun x h=>u0 x.1 x.2.1 x.2.2.1 h)
theorem Xc:Prog Tryz.prog (ar gl) P5:=Wv.aj (.of Tryz.func80 (by kernel_rfl) (by kernel_rfl)) (fun x h=>qH x.1 x.2.1 h)
theorem WO:Prog Tryz.prog (ar gl) RG:=Xc.aj (.of Tryz.func41 (by kernel_rfl) (by kernel_rfl)) (fun x h=>uA x.1 x.2.1 h)
theorem W4:Prog Tryz.prog (ar gl) Ky:=WO.A5 (.of Tryz.func77 (by kernel_rfl) (by kernel_rfl)) (fun x h=>oH x.1 x.2.1 x.2.2.1 h)
set_option maxHeartbeats 0 in
theorem Ol:∀ls os xs l e s' s,bSt Gh ls os xs=some s→Hh ls os xs=some (true,l,e,s')→∃fuel d,dV Ky fuel d 39 60 {keep:=tz,m:=2,mv:=Bt.mv} HO LN s=some (a7 Prod.mk l e s'):=by
 intro ls os xs l e s' s hb hg
 unfold Hh at hg
 split at hg
 ·iterate 11 (replace hg:=ay hg;obtain⟨_,xs,rfl,hg⟩:=hg)
  replace hg:=aI hg
  obtain⟨rfl,hg⟩:=hg
  simp only[XQ,Prod.mk.injEq]at hg
  obtain⟨h1,rfl,rfl,rfl⟩:=hg
  rw[Pe]at hb
  simp only[XQ]at hb
  subst hb
  exact Oy _ _ _ _ _ _ _ _ _ _ _ _ h1
 ·cases hg
set_option maxHeartbeats 0 in
theorem W6:Prog Tryz.prog (ar gl) Ra:=Prog.eF (cfg:=Ky) (f:=39) (p:=60) (keep:=tz) (kx:=HO) (m:=2) (mv:=Bt.mv) (Q:=Gh) (g:=Hh) W4 Tryz.func39 (by kernel_rfl) OD (by kernel_rfl) rfl (by decide) Ol
theorem WQ:Prog Tryz.prog (ar gl) QL:=W6.aj (.of Tryz.func39 (by kernel_rfl) (by kernel_rfl)) (fun x h=>qW x.1 x.2.1 x.2.2.1 h)
theorem WT:Prog Tryz.prog (ar gl) RJ:=WQ.aj (.of Tryz.func102 (by kernel_rfl) (by kernel_rfl)) (fun x h=>xx x.1 x.2.1 h)
theorem WZ:Prog Tryz.prog (ar gl) OO:=WT.aj (.of Tryz.func73 (by kernel_rfl) (by kernel_rfl)) (fun x h=>qM x.1 x.2.1 x.2.2.1)
theorem Xb:Prog Tryz.prog (ar gl) PL:=WZ.aj (.of Tryz.func143 (by kernel_rfl) (by kernel_rfl)) (fun x h=>u9 x.1 h)
theorem Wp:Prog Tryz.prog (ar gl) J0:=Xb.aj (.of Tryz.func142 (by kernel_rfl) (by kernel_rfl)) (fun x h=>wS x.1)
set_option maxHeartbeats 0 in
theorem N5:∀ls os xs l e s' s,bSt HD ls os xs=some s→HH ls os xs=some (true,l,e,s')→∃fuel d,dV J0 fuel d 150 122 {keep:=tD,m:=0,mv:=BT.mv} HT KQ s=some (a7 Prod.mk l e s'):=by
 intro ls os xs l e s' s hb hg
 unfold HH at hg
 split at hg
 ·iterate 3 (replace hg:=ay hg;obtain⟨_,xs,rfl,hg⟩:=hg)
  replace hg:=aI hg
  obtain⟨rfl,hg⟩:=hg
  simp only[XQ,Prod.mk.injEq]at hg
  obtain⟨h1,rfl,rfl,rfl⟩:=hg
  rw[OY]at hb
  simp only[XQ]at hb
  subst hb
  exact N1 _ _ _ h1
 ·cases hg
set_option maxHeartbeats 0 in
theorem WM:Prog Tryz.prog (ar gl) RI:=Prog.eF (cfg:=J0) (f:=150) (p:=122) (keep:=tD) (kx:=HT) (m:=0) (mv:=BT.mv) (Q:=HD) (g:=HH) Wp Tryz.func150 (by kernel_rfl) Nf (by kernel_rfl) rfl (by decide) N5
theorem Wu:Prog Tryz.prog (ar gl) OR:=WM.aj (.of Tryz.func150 (by kernel_rfl) (by kernel_rfl)) (fun x h=>q6 x.1 h)
theorem WC:Prog Tryz.prog (ar gl) Ri:=Wu.aj (.of Tryz.func140 (by kernel_rfl) (by kernel_rfl)) (fun x h=>sx x.1 h)
theorem Xi:Prog Tryz.prog (ar gl) OP:=WC.aj (.of Tryz.func151 (by kernel_rfl) (by kernel_rfl)) (fun x h=>wV x.1 x.2.1 h)
theorem Wy:Prog Tryz.prog (ar gl) Pk:=Xi.aj (.of Tryz.func141 (by kernel_rfl) (by kernel_rfl)) (fun x h=>sB x.1 h)
theorem XB:Prog Tryz.prog (ar gl) QS:=Wy.aj (.of Tryz.func124 (by kernel_rfl) (by kernel_rfl)) (fun x h=>qc x.1 h)
theorem Xq:Prog Tryz.prog (ar gl) Ru:=XB.aj (.of Tryz.func126 (by kernel_rfl) (by kernel_rfl)) (fun x h=>vF x.1 h)
theorem Wz:Prog Tryz.prog (ar gl) Sm:=Xq.aj (.of Tryz.func125 (by kernel_rfl) (by kernel_rfl)) (fun x h=>uG x.1 x.2.1)
theorem XA:Prog Tryz.prog (ar gl) Rz:=Wz.aj (.of Tryz.func116 (by kernel_rfl) (by kernel_rfl)) (fun x h=>sa)
theorem Xn:Prog Tryz.prog (ar gl) Kr:=XA.aj (.of Tryz.func117 (by kernel_rfl) (by kernel_rfl)) (fun x h=>uk)
set_option maxHeartbeats 0 in
theorem NA:∀ls os xs l e s' s,bSt HQ ls os xs=some s→HA ls os xs=some (true,l,e,s')→∃fuel d,dV Kr fuel d 123 60 {keep:=tI,m:=0,mv:=BI.mv} GI KY s=some (a7 Prod.mk l e s'):=by
 intro ls os xs l e s' s hb hg
 unfold HA at hg
 split at hg
 ·iterate 3 (replace hg:=ay hg;obtain⟨_,xs,rfl,hg⟩:=hg)
  replace hg:=aI hg
  obtain⟨rfl,hg⟩:=hg
  simp only[XQ,Prod.mk.injEq]at hg
  obtain⟨h1,rfl,rfl,rfl⟩:=hg
  rw[OW]at hb
  simp only[XQ]at hb
  subst hb
  exact Nz _ _ _ h1
 ·cases hg
set_option maxHeartbeats 0 in
theorem Xg:Prog Tryz.prog (ar gl) QH:=Prog.eF (cfg:=Kr) (f:=123) (p:=60) (keep:=tI) (kx:=GI) (m:=0) (mv:=BI.mv) (Q:=HQ) (g:=HA) Xn Tryz.func123 (by kernel_rfl) MS (by kernel_rfl) rfl (by decide) NA
theorem W9:Prog Tryz.prog (ar gl) LR:=Xg.aj (.of Tryz.func123 (by kernel_rfl) (by kernel_rfl)) (fun x h=>uJ x.1 h)
set_option maxHeartbeats 0 in
theorem Nq:∀ls os xs l e s' s,bSt Hb ls os xs=some s→Gw ls os xs=some (true,l,e,s')→∃fuel d,dV LR fuel d 115 124 {keep:=tn,m:=1,mv:=BH.mv} G5 LL s=some (a7 Prod.mk l e s'):=by
 intro ls os xs l e s' s hb hg
 unfold Gw at hg
 split at hg
 ·iterate 6 (replace hg:=ay hg;obtain⟨_,xs,rfl,hg⟩:=hg)
  replace hg:=aI hg
  obtain⟨rfl,hg⟩:=hg
  simp only[XQ,Prod.mk.injEq]at hg
  obtain⟨h1,rfl,rfl,rfl⟩:=hg
  rw[PH]at hb
  simp only[XQ]at hb
  subst hb
  exact OA _ _ _ _ _ _ h1
 ·cases hg
set_option maxHeartbeats 0 in
theorem Xs:Prog Tryz.prog (ar gl) QU:=Prog.eF (cfg:=LR) (f:=115) (p:=124) (keep:=tn) (kx:=G5) (m:=1) (mv:=BH.mv) (Q:=Hb) (g:=Gw) W9 Tryz.func115 (by kernel_rfl) Ns (by kernel_rfl) rfl (by decide) Nq
theorem W2:Prog Tryz.prog (ar gl) Po:=Xs.aj (.of Tryz.func115 (by kernel_rfl) (by kernel_rfl)) (fun x h=>xI x.1 h)
theorem Xl:Prog Tryz.prog (ar gl) PW:=W2.aj (.of Tryz.func122 (by kernel_rfl) (by kernel_rfl)) (fun x h=>qK x.1 x.2.1)
theorem WY:Prog Tryz.prog (ar gl) P8:=Xl.aj (.of Tryz.func114 (by kernel_rfl) (by kernel_rfl)) (fun x h=>xP x.1 x.2.1)
theorem Xx:Prog Tryz.prog (ar gl) Pd:=WY.aj (.of Tryz.func101 (by kernel_rfl) (by kernel_rfl)) (fun x h=>wW x.1)
theorem WJ:Prog Tryz.prog (ar gl) Pa:=Xx.aj (.of Tryz.func100 (by kernel_rfl) (by kernel_rfl)) (fun x h=>uD x.1 x.2.1)
theorem WR:Prog Tryz.prog (ar gl) Ku:=WJ.aj (.of Tryz.func71 (by kernel_rfl) (by kernel_rfl)) (fun x h=>uC x.1 x.2.1)
set_option maxHeartbeats 0 in
theorem Kb:∀ls os xs l e s' s,bSt Cb ls os xs=some s→Bx ls os xs=some (true,l,e,s')→∃fuel d,dV Ku fuel d 72 124 {keep:=pZ,m:=1,mv:=yD.mv} Cn G7 s=some (a7 Prod.mk l e s'):=by
 intro ls os xs l e s' s hb hg
 unfold Bx at hg
 split at hg
 ·iterate 2 (replace hg:=ay hg;obtain⟨_,xs,rfl,hg⟩:=hg)
  replace hg:=bL hg
  obtain⟨_,xs,rfl,hg⟩:=hg
  iterate 2 (replace hg:=ay hg;obtain⟨_,xs,rfl,hg⟩:=hg)
  replace hg:=bL hg
  obtain⟨_,xs,rfl,hg⟩:=hg
  replace hg:=aI hg
  obtain⟨rfl,hg⟩:=hg
  simp only[XQ,Prod.mk.injEq]at hg
  obtain⟨h1,rfl,rfl,rfl⟩:=hg
  rw[Nu]at hb
  simp only[XQ]at hb
  subst hb
  exact J2 _ _ _ _ _ _ h1
 ·cases hg
set_option maxHeartbeats 0 in
theorem Xd:Prog Tryz.prog (ar gl) Lv:=Prog.eF (cfg:=Ku) (f:=72) (p:=124) (keep:=pZ) (kx:=Cn) (m:=1) (mv:=yD.mv) (Q:=Cb) (g:=Bx) WR Tryz.func72 (by kernel_rfl) K6 (by kernel_rfl) rfl (by decide) Kb
set_option maxHeartbeats 0 in
theorem JO:∀ls os xs l e s' s,bSt yp ls os xs=some s→yZ ls os xs=some (true,l,e,s')→∃fuel d,dV Lv fuel d 72 508 {keep:=nk,m:=1,mv:=tS.mv} zO C8 s=some (a7 Prod.mk l e s'):=by
 intro ls os xs l e s' s hb hg
 unfold yZ at hg
 split at hg
 ·iterate 2 (replace hg:=ay hg;obtain⟨_,xs,rfl,hg⟩:=hg)
  replace hg:=bL hg
  obtain⟨_,xs,rfl,hg⟩:=hg
  iterate 2 (replace hg:=ay hg;obtain⟨_,xs,rfl,hg⟩:=hg)
  replace hg:=bL hg
  obtain⟨_,xs,rfl,hg⟩:=hg
  replace hg:=aI hg
  obtain⟨rfl,hg⟩:=hg
  simp only[XQ,Prod.mk.injEq]at hg
  obtain⟨h1,rfl,rfl,rfl⟩:=hg
  rw[LO]at hb
  simp only[XQ]at hb
  subst hb
  exact IA _ _ _ _ _ _ h1
 ·cases hg
set_option maxHeartbeats 0 in
theorem W7:Prog Tryz.prog (ar gl) RY:=Prog.eF (cfg:=Lv) (f:=72) (p:=508) (keep:=nk) (kx:=zO) (m:=1) (mv:=tS.mv) (Q:=yp) (g:=yZ) Xd Tryz.func72 (by kernel_rfl) Io (by kernel_rfl) rfl (by decide) JO
theorem Wo:Prog Tryz.prog (ar gl) QC:=W7.aj (.of Tryz.func72 (by kernel_rfl) (by kernel_rfl)) (fun x h=>wX x.1 x.2.1 h)
theorem W3:Prog Tryz.prog (ar gl) Rm:=Wo.aj (.of Tryz.func70 (by kernel_rfl) (by kernel_rfl)) (fun x h=>qI x.1 x.2.1 x.2.2.1 h)
theorem W8:Prog Tryz.prog (ar gl) Kg:=W3.aj (.of Tryz.func36 (by kernel_rfl) (by kernel_rfl)) (fun x h=>xt x.1 x.2.1 x.2.2.1 h)
set_option maxHeartbeats 0 in
theorem QW:∀ls os xs l e s' s,bSt L4 ls os xs=some s→Mh ls os xs=some (true,l,e,s')→∃fuel d,dV Kg fuel d 42 26 {keep:=xL,m:=2,mv:=Hi.mv} J8 Rt s=some (a7 Prod.mk l e s'):=by
 intro ls os xs l e s' s hb hg
 unfold Mh at hg
 split at hg
 ·iterate 6 (replace hg:=ay hg;obtain⟨_,xs,rfl,hg⟩:=hg)
  replace hg:=aI hg
  obtain⟨rfl,hg⟩:=hg
  simp only[XQ,Prod.mk.injEq]at hg
  obtain⟨h1,rfl,rfl,rfl⟩:=hg
  rw[Ug]at hb
  simp only[XQ]at hb
  subst hb
  exact PA _ _ _ _ _ _ _ h1
 ·cases hg
set_option maxHeartbeats 0 in
theorem WK:Prog Tryz.prog (ar gl) R4:=Prog.eF (cfg:=Kg) (f:=42) (p:=26) (keep:=xL) (kx:=J8) (m:=2) (mv:=Hi.mv) (Q:=L4) (g:=Mh) W8 Tryz.func42 (by kernel_rfl) Sn (by kernel_rfl) rfl (by decide) QW
theorem WB:Prog Tryz.prog (ar gl) Sf:=WK.aj (.of Tryz.func42 (by kernel_rfl) (by kernel_rfl)) (fun x h=>yA x.1 x.2.1 h)
theorem WA:Prog Tryz.prog (ar gl) Kq:=WB.aj (.of Tryz.func103 (by kernel_rfl) (by kernel_rfl)) (fun x h=>uH x.1 x.2.1)
set_option maxHeartbeats 0 in
theorem TD:∀ls os xs l e s' s,bSt TF ls os xs=some s→T6 ls os xs=some (true,l,e,s')→∃fuel d,dV Kq fuel d 76 58 {keep:=B3,m:=1,mv:=Mg.mv} Rw Vl s=some (a7 Prod.mk l e s'):=by
 intro ls os xs l e s' s hb hg
 unfold T6 at hg
 split at hg
 ·iterate 3 (replace hg:=ay hg;obtain⟨_,xs,rfl,hg⟩:=hg)
  replace hg:=aI hg
  obtain⟨rfl,hg⟩:=hg
  simp only[XQ,Prod.mk.injEq]at hg
  obtain⟨h1,rfl,rfl,rfl⟩:=hg
  rw[U8]at hb
  simp only[XQ]at hb
  subst hb
  exact TB _ _ _ _ h1
 ·cases hg
set_option maxHeartbeats 0 in
theorem WS:Prog Tryz.prog (ar gl) OM:=Prog.eF (cfg:=Kq) (f:=76) (p:=58) (keep:=B3) (kx:=Rw) (m:=1) (mv:=Mg.mv) (Q:=TF) (g:=T6) WA Tryz.func76 (by kernel_rfl) Uj (by kernel_rfl) rfl (by decide) TD
theorem Xf:Prog Tryz.prog (ar gl) Lz:=WS.aj (.of Tryz.func76 (by kernel_rfl) (by kernel_rfl)) (fun x h=>mq x.1 x.2.1 h)
set_option maxHeartbeats 0 in
theorem Rf:∀ls os xs l e s' s,bSt Mn ls os xs=some s→Md ls os xs=some (true,l,e,s')→∃fuel d,dV Lz fuel d 75 122 {keep:=yw,m:=1,mv:=GF.mv} Lr QM s=some (a7 Prod.mk l e s'):=by
 intro ls os xs l e s' s hb hg
 unfold Md at hg
 split at hg
 ·iterate 2 (replace hg:=ay hg;obtain⟨_,xs,rfl,hg⟩:=hg)
  replace hg:=bL hg
  obtain⟨_,xs,rfl,hg⟩:=hg
  replace hg:=ay hg
  obtain⟨_,xs,rfl,hg⟩:=hg
  replace hg:=aI hg
  obtain⟨rfl,hg⟩:=hg
  simp only[XQ,Prod.mk.injEq]at hg
  obtain⟨h1,rfl,rfl,rfl⟩:=hg
  rw[TM]at hb
  simp only[XQ]at hb
  subst hb
  exact Qr _ _ _ _ _ h1
 ·cases hg
set_option maxHeartbeats 0 in
theorem Xw:Prog Tryz.prog (ar gl) Sp:=Prog.eF (cfg:=Lz) (f:=75) (p:=122) (keep:=yw) (kx:=Lr) (m:=1) (mv:=GF.mv) (Q:=Mn) (g:=Md) Xf Tryz.func75 (by kernel_rfl) Qj (by kernel_rfl) rfl (by decide) Rf
theorem Xu:Prog Tryz.prog (ar gl) K8:=Xw.aj (.of Tryz.func75 (by kernel_rfl) (by kernel_rfl)) (fun x h=>uR x.1 x.2.1 h)
set_option maxHeartbeats 0 in
theorem Sz:∀ls os xs l e s' s,bSt Mz ls os xs=some s→MN ls os xs=some (true,l,e,s')→∃fuel d,dV K8 fuel d 74 58 {keep:=xR,m:=1,mv:=Hu.mv} LG Sh s=some (a7 Prod.mk l e s'):=by
 intro ls os xs l e s' s hb hg
 unfold MN at hg
 split at hg
 ·iterate 2 (replace hg:=ay hg;obtain⟨_,xs,rfl,hg⟩:=hg)
  replace hg:=aI hg
  obtain⟨rfl,hg⟩:=hg
  simp only[XQ,Prod.mk.injEq]at hg
  obtain⟨h1,rfl,rfl,rfl⟩:=hg
  rw[Tf]at hb
  simp only[XQ]at hb
  subst hb
  exact RB _ _ _ h1
 ·cases hg
set_option maxHeartbeats 0 in
theorem Xo:Prog Tryz.prog (ar gl) Qg:=Prog.eF (cfg:=K8) (f:=74) (p:=58) (keep:=xR) (kx:=LG) (m:=1) (mv:=Hu.mv) (Q:=Mz) (g:=MN) Xu Tryz.func74 (by kernel_rfl) QZ (by kernel_rfl) rfl (by decide) Sz
theorem Xy:Prog Tryz.prog (ar gl) Ln:=Xo.aj (.of Tryz.func74 (by kernel_rfl) (by kernel_rfl)) (fun x h=>sZ x.1 h)
set_option maxHeartbeats 0 in
theorem M0:∀ls os xs l e s' s,bSt HS ls os xs=some s→F0 ls os xs=some (true,l,e,s')→∃fuel d,dV Ln fuel d 37 252 {keep:=tq,m:=1,mv:=Bf.mv} HY Ka s=some (a7 Prod.mk l e s'):=by
 intro ls os xs l e s' s hb hg
 unfold F0 at hg
 split at hg
 ·iterate 2 (replace hg:=ay hg;obtain⟨_,xs,rfl,hg⟩:=hg)
  replace hg:=bL hg
  obtain⟨_,xs,rfl,hg⟩:=hg
  replace hg:=aI hg
  obtain⟨rfl,hg⟩:=hg
  simp only[XQ,Prod.mk.injEq]at hg
  obtain⟨h1,rfl,rfl,rfl⟩:=hg
  rw[Qn]at hb
  simp only[XQ]at hb
  subst hb
  exact Nc _ _ _ _ _ h1
 ·cases hg
set_option maxHeartbeats 0 in
theorem Wn:Prog Tryz.prog (ar gl) P6:=Prog.eF (cfg:=Ln) (f:=37) (p:=252) (keep:=tq) (kx:=HY) (m:=1) (mv:=Bf.mv) (Q:=HS) (g:=F0) Xy Tryz.func37 (by kernel_rfl) M8 (by kernel_rfl) rfl (by decide) M0
theorem WG:Prog Tryz.prog (ar gl) KP:=Wn.A5 (.of Tryz.func37 (by kernel_rfl) (by kernel_rfl)) (fun x h=>pt x.1 h)
set_option maxHeartbeats 0 in
theorem N8:∀ls os xs l e s' s,bSt HC ls os xs=some s→H9 ls os xs=some (true,l,e,s')→∃fuel d,dV KP fuel d 17 3730 {keep:=tJ,m:=4,mv:=Bv.mv} GW KN s=some (a7 Prod.mk l e s'):=by
 intro ls os xs l e s' s hb hg
 unfold H9 at hg
 split at hg
 ·iterate 34 (replace hg:=ay hg;obtain⟨_,xs,rfl,hg⟩:=hg)
  replace hg:=bL hg
  obtain⟨_,xs,rfl,hg⟩:=hg
  iterate 3 (replace hg:=ay hg;obtain⟨_,xs,rfl,hg⟩:=hg)
  replace hg:=aI hg
  obtain⟨rfl,hg⟩:=hg
  simp only[XQ,Prod.mk.injEq]at hg
  obtain⟨h1,rfl,rfl,rfl⟩:=hg
  rw[Pc]at hb
  simp only[XQ]at hb
  subst hb
  exact Oo _ _ _ _ _ _ _ _ _ _ _ _ _ _ _ _ _ _ _ _ _ _ _ _ _ _ _ _ _ _ _ _ _ _ _ _ _ _ _ _ _ h1
 ·cases hg
set_option maxHeartbeats 0 in
theorem Wr:Prog Tryz.prog (ar gl) J9:=Prog.eF (cfg:=KP) (f:=17) (p:=3730) (keep:=tJ) (kx:=GW) (m:=4) (mv:=Bv.mv) (Q:=HC) (g:=H9) WG Tryz.func17 (by kernel_rfl) NR (by kernel_rfl) rfl (by decide) N8
set_option maxHeartbeats 0 in
theorem Nx:∀ls os xs l e s' s,bSt F8 ls os xs=some s→H7 ls os xs=some (true,l,e,s')→∃fuel d,dV J9 fuel d 17 58 {keep:=tH,m:=3,mv:=BM.mv} Gu LP s=some (a7 Prod.mk l e s'):=by
 intro ls os xs l e s' s hb hg
 unfold H7 at hg
 split at hg
 ·iterate 34 (replace hg:=ay hg;obtain⟨_,xs,rfl,hg⟩:=hg)
  replace hg:=bL hg
  obtain⟨_,xs,rfl,hg⟩:=hg
  iterate 2 (replace hg:=ay hg;obtain⟨_,xs,rfl,hg⟩:=hg)
  replace hg:=aI hg
  obtain⟨rfl,hg⟩:=hg
  simp only[XQ,Prod.mk.injEq]at hg
  obtain⟨h1,rfl,rfl,rfl⟩:=hg
  rw[Qt]at hb
  simp only[XQ]at hb
  subst hb
  exact NP _ _ _ _ _ _ _ _ _ _ _ _ _ _ _ _ _ _ _ _ _ _ _ _ _ _ _ _ _ _ _ _ _ _ _ _ _ _ _ _ h1
 ·cases hg
set_option maxHeartbeats 0 in
theorem WN:Prog Tryz.prog (ar gl) Pw:=Prog.eF (cfg:=J9) (f:=17) (p:=58) (keep:=tH) (kx:=Gu) (m:=3) (mv:=BM.mv) (Q:=F8) (g:=H7) Wr Tryz.func17 (by kernel_rfl) NS (by kernel_rfl) rfl (by decide) Nx
theorem WI:Prog Tryz.prog (ar gl) Kc:=WN.A5 (.of Tryz.func17 (by kernel_rfl) (by kernel_rfl)) (fun x h=>sI x.1 x.2.1 x.2.2.1 h)
set_option maxHeartbeats 0 in
theorem On:∀ls os xs l e s' s,bSt GN ls os xs=some s→Gp ls os xs=some (true,l,e,s')→∃fuel d,dV Kc fuel d 16 58 {keep:=ug,m:=2,mv:=BU.mv} Gl KI s=some (a7 Prod.mk l e s'):=by
 intro ls os xs l e s' s hb hg
 unfold Gp at hg
 split at hg
 ·replace hg:=ay hg
  obtain⟨_,xs,rfl,hg⟩:=hg
  replace hg:=aI hg
  obtain⟨rfl,hg⟩:=hg
  simp only[XQ,Prod.mk.injEq]at hg
  obtain⟨h1,rfl,rfl,rfl⟩:=hg
  rw[Pz]at hb
  simp only[XQ]at hb
  subst hb
  exact N9 _ _ _ h1
 ·cases hg
set_option maxHeartbeats 0 in
theorem WE:Prog Tryz.prog (ar gl) P7:=Prog.eF (cfg:=Kc) (f:=16) (p:=58) (keep:=ug) (kx:=Gl) (m:=2) (mv:=BU.mv) (Q:=GN) (g:=Gp) WI Tryz.func16 (by kernel_rfl) NH (by kernel_rfl) rfl (by decide) On
theorem Wk:Prog Tryz.prog (ar gl) KT:=WE.aj (.of Tryz.func16 (by kernel_rfl) (by kernel_rfl)) (fun x h=>u7 x.1 x.2.1 h)
set_option maxHeartbeats 0 in
theorem NQ:∀ls os xs l e s' s,bSt GA ls os xs=some s→GX ls os xs=some (true,l,e,s')→∃fuel d,dV KT fuel d 38 58 {keep:=tM,m:=1,mv:=BW.mv} Gs K5 s=some (a7 Prod.mk l e s'):=by
 intro ls os xs l e s' s hb hg
 unfold GX at hg
 split at hg
 ·iterate 3 (replace hg:=ay hg;obtain⟨_,xs,rfl,hg⟩:=hg)
  replace hg:=aI hg
  obtain⟨rfl,hg⟩:=hg
  simp only[XQ,Prod.mk.injEq]at hg
  obtain⟨h1,rfl,rfl,rfl⟩:=hg
  rw[OQ]at hb
  simp only[XQ]at hb
  subst hb
  exact MY _ _ _ _ _ h1
 ·cases hg
set_option maxHeartbeats 0 in
theorem Wm:Prog Tryz.prog (ar gl) R8:=Prog.eF (cfg:=KT) (f:=38) (p:=58) (keep:=tM) (kx:=Gs) (m:=1) (mv:=BW.mv) (Q:=GA) (g:=GX) Wk Tryz.func38 (by kernel_rfl) Ny (by kernel_rfl) rfl (by decide) NQ
theorem Xt:Prog Tryz.prog (ar gl) PI:=Wm.A5 (.of Tryz.func38 (by kernel_rfl) (by kernel_rfl)) (fun x h=>vX x.1 x.2.1 x.2.2.1 h)
theorem WV:Prog Tryz.prog (ar gl) PD:=Xt.aj (.of Tryz.func15 (by kernel_rfl) (by kernel_rfl)) (fun x h=>uz x.1 x.2.1)
theorem Xa:Prog Tryz.prog (ar gl) S3:=WV.A5 (.of Tryz.func18 (by kernel_rfl) (by kernel_rfl)) (fun x h=>wi x.1 x.2.1 h)
theorem nx:∀x,cj.wf x→∃fuel d,run S3 fuel d 3 Tryz.f3 cj x=some (.bool true):=fun x hx=>nI x.1 x.2.1 x.2.2.1
end Go.Proofs.YtfhepbbkggdlcaaGreatDoor.Px.PxT
