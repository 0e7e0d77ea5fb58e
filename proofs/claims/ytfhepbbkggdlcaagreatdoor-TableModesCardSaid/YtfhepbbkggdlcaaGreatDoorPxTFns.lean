/- A seat's functions are what their contracts say. -/
import Derived.Test.YtfhepbbkggdlcaaGreatDoorPxTSteps
import Derived.Test.YtfhepbbkggdlcaaGreatDoorPxTProofs
import Derived.Test.YtfhepbbkggdlcaaGreatDoorPxTProofs4
import Derived.Test.YtfhepbbkggdlcaaGreatDoorPxTProofs6
import Derived.Test.YtfhepbbkggdlcaaGreatDoorPxTProofs7
import Derived.Test.YtfhepbbkggdlcaaGreatDoorPxTHol
set_option linter.unusedVariables false
set_option linter.unusedSimpArgs false
namespace Go.Proofs.YtfhepbbkggdlcaaGreatDoor.Px.PxT
open Go Go.Proofs
theorem As (a0:Int) (a1:Int) (a2:Int):∃F d,run k0 F d 83 Tryz.f83 uZ (a0,a1,a2,())=some (uP.enc (inB a0 a1 a2)):=⟨200,6,by kernel_rfl⟩
theorem p1:Prog Tryz.prog (ar gl) k1:=p0.aj (.of Tryz.func83 (by kernel_rfl) (by kernel_rfl)) (fun x h=>As x.1 x.2.1 x.2.2.1)
theorem xK (a0:Int) (a1:Int) (a2:Int):∃F d,run k1 F d 89 Tryz.f89 qf (a0,a1,a2,())=some (pU.enc (inB a0 a1 a2)):=⟨200,6,by kernel_rfl⟩
theorem p2:Prog Tryz.prog (ar gl) k2:=p1.aj (.of Tryz.func89 (by kernel_rfl) (by kernel_rfl)) (fun x h=>xK x.1 x.2.1 x.2.2.1)
theorem p3:Prog Tryz.prog (ar gl) k3:=p2.aj (.of Tryz.func78 (by kernel_rfl) (by kernel_rfl)) (fun x h=>Ga x.1 x.2.1 h)
theorem p4:Prog Tryz.prog (ar gl) k4:=p3.aj (.of Tryz.func128 (by kernel_rfl) (by kernel_rfl)) (fun x h=>FL x.1 x.2.1 h)
theorem p5:Prog Tryz.prog (ar gl) k5:=p4.aj (.of Tryz.func119 (by kernel_rfl) (by kernel_rfl)) (fun x h=>Em x.1 x.2.1 x.2.2.1 h)
theorem p6:Prog Tryz.prog (ar gl) k6:=p5.aj (.of Tryz.func87 (by kernel_rfl) (by kernel_rfl)) (fun x h=>D1 x.1)
theorem p7:Prog Tryz.prog (ar gl) k7:=p6.aj (.of Tryz.func54 (by kernel_rfl) (by kernel_rfl)) (fun x h=>DY x.1 x.2.1)
theorem p8:Prog Tryz.prog (ar gl) k8:=p7.aj (.of Tryz.func56 (by kernel_rfl) (by kernel_rfl)) (fun x h=>CI x.1)
theorem p9:Prog Tryz.prog (ar gl) k9:=p8.aj (.of Tryz.func55 (by kernel_rfl) (by kernel_rfl)) (fun x h=>AH x.1 h)
theorem p10:Prog Tryz.prog (ar gl) k10:=p9.aj (.of Tryz.func25 (by kernel_rfl) (by kernel_rfl)) (fun x h=>Gm x.1)
theorem p11:Prog Tryz.prog (ar gl) k11:=p10.aj (.of Tryz.func79 (by kernel_rfl) (by kernel_rfl)) (fun x h=>HF x.1)
theorem p12:Prog Tryz.prog (ar gl) k12:=p11.aj (.of Tryz.func106 (by kernel_rfl) (by kernel_rfl)) (fun x h=>F7 x.1 x.2.1 x.2.2.1 x.2.2.2.1)
theorem p13:Prog Tryz.prog (ar gl) k13:=p12.aj (.of Tryz.func51 (by kernel_rfl) (by kernel_rfl)) (fun x h=>BP x.1)
theorem p14:Prog Tryz.prog (ar gl) k14:=p13.aj (.of Tryz.func84 (by kernel_rfl) (by kernel_rfl)) (fun x h=>DZ x.1 x.2.1 x.2.2.1 h)
theorem p15:Prog Tryz.prog (ar gl) k15:=p14.aj (.of Tryz.func47 (by kernel_rfl) (by kernel_rfl)) (fun x h=>BN x.1 x.2.1 h)
theorem p16:Prog Tryz.prog (ar gl) k16:=p15.Ef (.of Tryz.func53 (by kernel_rfl) (by kernel_rfl)) (fun x h=>yr x.1 x.2.1 x.2.2.1)
theorem ub (a0:Int):∃F d,run k16 F d 52 Tryz.f52 mn (a0,())=some (mj.enc (du a0)):=⟨200,6,by kernel_rfl⟩
theorem p17:Prog Tryz.prog (ar gl) k17:=p16.aj (.of Tryz.func52 (by kernel_rfl) (by kernel_rfl)) (fun x h=>ub x.1)
set_option maxHeartbeats 0 in
theorem MG:∀ls os xs l e s' s,bSt Ft ls os xs=some s→Ff ls os xs=some (true,l,e,s')→∃fuel d,eu k17 fuel d 24 62 {keep:=tO,m:=1,mv:=AW.mv} G7 JR s=some (bb Prod.mk l e s'):=by
 intro ls os xs l e s' s hb hg
 unfold Ff at hg
 split at hg
 ·iterate 11 (replace hg:=ay hg;obtain⟨_,xs,rfl,hg⟩:=hg)
  replace hg:=aL hg
  obtain⟨rfl,hg⟩:=hg
  simp only[WV,Prod.mk.injEq]at hg
  obtain⟨h1,rfl,rfl,rfl⟩:=hg
  rw[Qn]at hb
  simp only[WV]at hb
  subst hb
  exact MK _ _ _ _ _ _ _ _ _ _ _ h1
 ·cases hg
set_option maxHeartbeats 0 in
theorem p18:Prog Tryz.prog (ar gl) k18:=Prog.fb (cfg:=k17) (f:=24) (p:=62) (keep:=tO) (kx:=G7) (m:=1) (mv:=AW.mv) (Q:=Ft) (g:=Ff) p17 Tryz.func24 (by kernel_rfl) Ns (by kernel_rfl) rfl (by decide) MG
theorem p19:Prog Tryz.prog (ar gl) k19:=p18.aj (.of Tryz.func24 (by kernel_rfl) (by kernel_rfl)) (fun x h=>xM x.1 x.2.1 x.2.2.1)
theorem p20:Prog Tryz.prog (ar gl) k20:=p19.aj (.of Tryz.func171 (by kernel_rfl) (by kernel_rfl)) (fun x h=>y7 x.1 h)
theorem yE (a0:Config) (a1:ag) (a2:Int) (a3:Bool):∃F d,run k20 F d 170 Tryz.f170 ry (a0,a1,a2,a3,())=some (rC.enc (vF a0 a1 a2 a3)):=⟨200,6,by kernel_rfl⟩
theorem p21:Prog Tryz.prog (ar gl) k21:=p20.aj (.of Tryz.func170 (by kernel_rfl) (by kernel_rfl)) (fun x h=>yE x.1 x.2.1 x.2.2.1 x.2.2.2.1)
theorem p22:Prog Tryz.prog (ar gl) k22:=p21.aj (.of Tryz.func88 (by kernel_rfl) (by kernel_rfl)) (fun x h=>AA x.1 x.2.1)
theorem p23:Prog Tryz.prog (ar gl) k23:=p22.aj (.of Tryz.func92 (by kernel_rfl) (by kernel_rfl)) (fun x h=>wW x.1)
theorem p24:Prog Tryz.prog (ar gl) k24:=p23.aj (.of Tryz.func57 (by kernel_rfl) (by kernel_rfl)) (fun x h=>Av x.1)
set_option maxHeartbeats 0 in
theorem JW:∀ls os xs l e s' s,bSt BE ls os xs=some s→Bu ls os xs=some (true,l,e,s')→∃fuel d,eu k24 fuel d 58 58 {keep:=oG,m:=3,mv:=xV.mv} Cd FJ s=some (bb Prod.mk l e s'):=by
 intro ls os xs l e s' s hb hg
 unfold Bu at hg
 split at hg
 ·iterate 34 (replace hg:=ay hg;obtain⟨_,xs,rfl,hg⟩:=hg)
  iterate 2 (replace hg:=bK hg;obtain⟨_,xs,rfl,hg⟩:=hg)
  iterate 2 (replace hg:=ay hg;obtain⟨_,xs,rfl,hg⟩:=hg)
  replace hg:=aL hg
  obtain⟨rfl,hg⟩:=hg
  simp only[WV,Prod.mk.injEq]at hg
  obtain⟨h1,rfl,rfl,rfl⟩:=hg
  rw[Mw]at hb
  simp only[WV]at hb
  subst hb
  exact La _ _ _ _ _ _ _ _ _ _ _ _ _ _ _ _ _ _ _ _ _ _ _ _ _ _ _ _ _ _ _ _ _ _ _ _ _ _ _ _ h1
 ·cases hg
set_option maxHeartbeats 0 in
theorem p25:Prog Tryz.prog (ar gl) k25:=Prog.fb (cfg:=k24) (f:=58) (p:=58) (keep:=oG) (kx:=Cd) (m:=3) (mv:=xV.mv) (Q:=BE) (g:=Bu) p24 Tryz.func58 (by kernel_rfl) J6 (by kernel_rfl) rfl (by decide) JW
theorem p26:Prog Tryz.prog (ar gl) k26:=p25.aj (.of Tryz.func58 (by kernel_rfl) (by kernel_rfl)) (fun x h=>zE x.1 h)
theorem p27:Prog Tryz.prog (ar gl) k27:=p26.aj (.of Tryz.func59 (by kernel_rfl) (by kernel_rfl)) (fun x h=>yI x.1)
theorem p28:Prog Tryz.prog (ar gl) k28:=p27.aj (.of Tryz.func62 (by kernel_rfl) (by kernel_rfl)) (fun x h=>yN x.1)
set_option maxHeartbeats 0 in
theorem MS:∀ls os xs l e s' s,bSt Hz ls os xs=some s→Hi ls os xs=some (true,l,e,s')→∃fuel d,eu k28 fuel d 108 26 {keep:=tH,m:=3,mv:=Bm.mv} Ho Ju s=some (bb Prod.mk l e s'):=by
 intro ls os xs l e s' s hb hg
 unfold Hi at hg
 split at hg
 ·iterate 34 (replace hg:=ay hg;obtain⟨_,xs,rfl,hg⟩:=hg)
  replace hg:=bK hg
  obtain⟨_,xs,rfl,hg⟩:=hg
  iterate 2 (replace hg:=ay hg;obtain⟨_,xs,rfl,hg⟩:=hg)
  replace hg:=aL hg
  obtain⟨rfl,hg⟩:=hg
  simp only[WV,Prod.mk.injEq]at hg
  obtain⟨h1,rfl,rfl,rfl⟩:=hg
  rw[Rn]at hb
  simp only[WV]at hb
  subst hb
  exact MT _ _ _ _ _ _ _ _ _ _ _ _ _ _ _ _ _ _ _ _ _ _ _ _ _ _ _ _ _ _ _ _ _ _ _ _ _ _ _ h1
 ·cases hg
set_option maxHeartbeats 0 in
theorem p29:Prog Tryz.prog (ar gl) k29:=Prog.fb (cfg:=k28) (f:=108) (p:=26) (keep:=tH) (kx:=Ho) (m:=3) (mv:=Bm.mv) (Q:=Hz) (g:=Hi) p28 Tryz.func108 (by kernel_rfl) Ma (by kernel_rfl) rfl (by decide) MS
theorem p30:Prog Tryz.prog (ar gl) k30:=p29.aj (.of Tryz.func63 (by kernel_rfl) (by kernel_rfl)) (fun x h=>vI x.1 h)
theorem p31:Prog Tryz.prog (ar gl) k31:=p30.aj (.of Tryz.func27 (by kernel_rfl) (by kernel_rfl)) (fun x h=>yM x.1 h)
theorem p32:Prog Tryz.prog (ar gl) k32:=p31.aj (.of Tryz.func9 (by kernel_rfl) (by kernel_rfl)) (fun x h=>vE x.1)
theorem p33:Prog Tryz.prog (ar gl) k33:=p32.Ef (.of Tryz.func12 (by kernel_rfl) (by kernel_rfl)) (fun x h=>vl x.1 h)
theorem p34:Prog Tryz.prog (ar gl) k34:=p33.aj (.of Tryz.func186 (by kernel_rfl) (by kernel_rfl)) (fun x h=>DA x.1 h)
theorem p35:Prog Tryz.prog (ar gl) k35:=p34.aj (.of Tryz.func189 (by kernel_rfl) (by kernel_rfl)) (fun x h=>qC x.1 h)
theorem p36:Prog Tryz.prog (ar gl) k36:=p35.aj (.of Tryz.func187 (by kernel_rfl) (by kernel_rfl)) (fun x h=>tT x.1 h)
theorem p37:Prog Tryz.prog (ar gl) k37:=p36.aj (.of Tryz.func188 (by kernel_rfl) (by kernel_rfl)) (fun x h=>sM x.1 h)
theorem p38:Prog Tryz.prog (ar gl) k38:=p37.aj (.of Tryz.func183 (by kernel_rfl) (by kernel_rfl)) (fun x h=>sN x.1 h)
theorem p39:Prog Tryz.prog (ar gl) k39:=p38.aj (.of Tryz.func184 (by kernel_rfl) (by kernel_rfl)) (fun x h=>qD x.1 h)
theorem p40:Prog Tryz.prog (ar gl) k40:=p39.aj (.of Tryz.func177 (by kernel_rfl) (by kernel_rfl)) (fun x h=>wU x.1)
theorem p41:Prog Tryz.prog (ar gl) k41:=p40.aj (.of Tryz.func178 (by kernel_rfl) (by kernel_rfl)) (fun x h=>D7 x.1)
theorem p42:Prog Tryz.prog (ar gl) k42:=p41.aj (.of Tryz.func180 (by kernel_rfl) (by kernel_rfl)) (fun x h=>AB x.1 x.2.1)
set_option maxHeartbeats 0 in
theorem Tb:∀ls os xs l e s' s,bSt SA ls os xs=some s→R9 ls os xs=some (true,l,e,s')→∃fuel d,eu k42 fuel d 175 508 {keep:=Bz,m:=3,mv:=Lt.mv} Pb T9 s=some (bb Prod.mk l e s'):=by
 intro ls os xs l e s' s hb hg
 unfold R9 at hg
 split at hg
 ·iterate 6 (replace hg:=ay hg;obtain⟨_,xs,rfl,hg⟩:=hg)
  replace hg:=aL hg
  obtain⟨rfl,hg⟩:=hg
  simp only[WV,Prod.mk.injEq]at hg
  obtain⟨h1,rfl,rfl,rfl⟩:=hg
  rw[Ui]at hb
  simp only[WV]at hb
  subst hb
  exact Th _ _ _ _ _ _ h1
 ·cases hg
set_option maxHeartbeats 0 in
theorem p43:Prog Tryz.prog (ar gl) k43:=Prog.fb (cfg:=k42) (f:=175) (p:=508) (keep:=Bz) (kx:=Pb) (m:=3) (mv:=Lt.mv) (Q:=SA) (g:=R9) p42 Tryz.func175 (by kernel_rfl) RJ (by kernel_rfl) rfl (by decide) Tb
set_option maxHeartbeats 0 in
theorem SG:∀ls os xs l e s' s,bSt Te ls os xs=some s→Tc ls os xs=some (true,l,e,s')→∃fuel d,eu k43 fuel d 185 6 {keep:=AM,m:=8,mv:=LF.mv} Qi T0 s=some (bb Prod.mk l e s'):=by
 intro ls os xs l e s' s hb hg
 unfold Tc at hg
 split at hg
 ·iterate 11 (replace hg:=ay hg;obtain⟨_,xs,rfl,hg⟩:=hg)
  replace hg:=aL hg
  obtain⟨rfl,hg⟩:=hg
  simp only[WV,Prod.mk.injEq]at hg
  obtain⟨h1,rfl,rfl,rfl⟩:=hg
  rw[Ub]at hb
  simp only[WV]at hb
  subst hb
  exact Tj _ _ _ _ _ _ _ _ _ _ _ h1
 ·cases hg
set_option maxHeartbeats 0 in
theorem p44:Prog Tryz.prog (ar gl) k44:=Prog.fb (cfg:=k43) (f:=185) (p:=6) (cx:=1) (keep:=AM) (kx:=Qi) (m:=8) (mv:=LF.mv) (Q:=Te) (g:=Tc) p43 Tryz.func185 (by kernel_rfl) SB (by kernel_rfl) rfl (by decide) SG
theorem p45:Prog Tryz.prog (ar gl) k45:=p44.aj (.of Tryz.func175 (by kernel_rfl) (by kernel_rfl)) (fun x h=>DW x.1)
theorem p46:Prog Tryz.prog (ar gl) k46:=p45.add PA
theorem p47:Prog Tryz.prog (ar gl) k47:=p46.aj (.of Tryz.func192 (by kernel_rfl) (by kernel_rfl)) (fun x h=>CX x.1 x.2.1)
set_option maxHeartbeats 0 in
theorem Nd:∀ls os xs l e s' s,bSt Fk ls os xs=some s→FT ls os xs=some (true,l,e,s')→∃fuel d,eu k47 fuel d 194 28 {keep:=tv,m:=2,mv:=A7.mv} Gx KQ s=some (bb Prod.mk l e s'):=by
 intro ls os xs l e s' s hb hg
 unfold FT at hg
 split at hg
 ·replace hg:=ay hg
  obtain⟨_,xs,rfl,hg⟩:=hg
  replace hg:=bK hg
  obtain⟨_,xs,rfl,hg⟩:=hg
  iterate 2 (replace hg:=ay hg;obtain⟨_,xs,rfl,hg⟩:=hg)
  replace hg:=aL hg
  obtain⟨rfl,hg⟩:=hg
  simp only[WV,Prod.mk.injEq]at hg
  obtain⟨h1,rfl,rfl,rfl⟩:=hg
  rw[Rz]at hb
  simp only[WV]at hb
  subst hb
  exact Mo _ _ _ _ h1
 ·cases hg
set_option maxHeartbeats 0 in
theorem p48:Prog Tryz.prog (ar gl) k48:=Prog.fb (cfg:=k47) (f:=194) (p:=28) (keep:=tv) (kx:=Gx) (m:=2) (mv:=A7.mv) (Q:=Fk) (g:=FT) p47 Tryz.func194 (by kernel_rfl) Nv (by kernel_rfl) rfl (by decide) Nd
theorem p49:Prog Tryz.prog (ar gl) k49:=p48.aj (.of Tryz.func191 (by kernel_rfl) (by kernel_rfl)) (fun x h=>Eh x.1 x.2.1)
theorem p50:Prog Tryz.prog (ar gl) k50:=p49.aj (.of Tryz.func174 (by kernel_rfl) (by kernel_rfl)) (fun x h=>DE x.1 x.2.1)
theorem p51:Prog Tryz.prog (ar gl) k51:=p50.aj (.of Tryz.func195 (by kernel_rfl) (by kernel_rfl)) (fun x h=>DU x.1 x.2.1)
theorem p52:Prog Tryz.prog (ar gl) k52:=p51.aj (.of Tryz.func193 (by kernel_rfl) (by kernel_rfl)) (fun x h=>wM x.1 x.2.1 x.2.2.1)
theorem p53:Prog Tryz.prog (ar gl) k53:=p52.aj (.of Tryz.func169 (by kernel_rfl) (by kernel_rfl)) (fun x h=>oS x.1 x.2.1 x.2.2.1 x.2.2.2.1 h)
theorem p54:Prog Tryz.prog (ar gl) k54:=p53.aj (.of Tryz.func172 (by kernel_rfl) (by kernel_rfl)) (fun x h=>qu x.1 x.2.1 x.2.2.1 x.2.2.2.1 h)
theorem p55:Prog Tryz.prog (ar gl) k55:=p54.aj (.of Tryz.func173 (by kernel_rfl) (by kernel_rfl)) (fun x h=>oO x.1 x.2.1 x.2.2.1 x.2.2.2.1 h)
theorem p56:Prog Tryz.prog (ar gl) k56:=p55.aj (.of Tryz.func190 (by kernel_rfl) (by kernel_rfl)) (fun x h=>n9 x.1 x.2.1 x.2.2.1 x.2.2.2.1 h)
theorem p57:Prog Tryz.prog (ar gl) k57:=p56.aj (.of Tryz.func98 (by kernel_rfl) (by kernel_rfl)) (fun x h=>Tv x.1 h)
theorem p58:Prog Tryz.prog (ar gl) k58:=p57.aj (.of Tryz.func98 (by kernel_rfl) (by kernel_rfl)) (fun x h=>RM x.1 h)
theorem p59:Prog Tryz.prog (ar gl) k59:=p58.aj (.of Tryz.func98 (by kernel_rfl) (by kernel_rfl)) (fun x h=>Sr x.1 h)
theorem p60:Prog Tryz.prog (ar gl) k60:=p59.aj (.of Tryz.func98 (by kernel_rfl) (by kernel_rfl)) (fun x h=>RP x.1 h)
theorem p61:Prog Tryz.prog (ar gl) k61:=p60.add (T8 (Gp p57 ⟨_,rfl⟩) (Gp p58 ⟨_,rfl⟩) (Gp p59 ⟨_,rfl⟩) (Gp p60 ⟨_,rfl⟩))
theorem p62:Prog Tryz.prog (ar gl) k62:=p61.aj (.of Tryz.func66 (by kernel_rfl) (by kernel_rfl)) (fun x h=>AE x.1 x.2.1 x.2.2.1 h)
theorem p63:Prog Tryz.prog (ar gl) k63:=p62.aj (.of Tryz.func46 (by kernel_rfl) (by kernel_rfl)) (fun x h=>B9 x.1 x.2.1)
theorem p64:Prog Tryz.prog (ar gl) k64:=p63.aj (.of Tryz.func22 (by kernel_rfl) (by kernel_rfl)) (fun x h=>Du x.1 x.2.1)
theorem p65:Prog Tryz.prog (ar gl) k65:=p64.aj (.of Tryz.func50 (by kernel_rfl) (by kernel_rfl)) (fun x h=>Ao x.1 x.2.1)
theorem p66:Prog Tryz.prog (ar gl) k66:=p65.aj (.of Tryz.func112 (by kernel_rfl) (by kernel_rfl)) (fun x h=>Nl x.1 x.2.1)
set_option maxHeartbeats 0 in
theorem Ic:∀ls os xs l e s' s,bSt yz ls os xs=some s→yq ls os xs=some (true,l,e,s')→∃fuel d,eu k66 fuel d 97 122 {keep:=mT,m:=1,mv:=sR.mv} yD Di s=some (bb Prod.mk l e s'):=by
 intro ls os xs l e s' s hb hg
 unfold yq at hg
 split at hg
 ·iterate 4 (replace hg:=ay hg;obtain⟨_,xs,rfl,hg⟩:=hg)
  replace hg:=aL hg
  obtain⟨rfl,hg⟩:=hg
  simp only[WV,Prod.mk.injEq]at hg
  obtain⟨h1,rfl,rfl,rfl⟩:=hg
  rw[Kf]at hb
  simp only[WV]at hb
  subst hb
  exact IE _ _ _ _ _ h1
 ·cases hg
set_option maxHeartbeats 0 in
theorem p67:Prog Tryz.prog (ar gl) k67:=Prog.fb (cfg:=k66) (f:=97) (p:=122) (keep:=mT) (kx:=yD) (m:=1) (mv:=sR.mv) (Q:=yz) (g:=yq) p66 Tryz.func97 (by kernel_rfl) IF (by kernel_rfl) rfl (by decide) Ic
theorem p68:Prog Tryz.prog (ar gl) k68:=p67.aj (.of Tryz.func97 (by kernel_rfl) (by kernel_rfl)) (fun x h=>uo x.1 x.2.1 h)
set_option maxHeartbeats 0 in
theorem Mm:∀ls os xs l e s' s,bSt Gy ls os xs=some s→FE ls os xs=some (true,l,e,s')→∃fuel d,eu k68 fuel d 48 26 {keep:=sU,m:=3,mv:=AY.mv} Gr Jm s=some (bb Prod.mk l e s'):=by
 intro ls os xs l e s' s hb hg
 unfold FE at hg
 split at hg
 ·iterate 7 (replace hg:=ay hg;obtain⟨_,xs,rfl,hg⟩:=hg)
  replace hg:=aL hg
  obtain⟨rfl,hg⟩:=hg
  simp only[WV,Prod.mk.injEq]at hg
  obtain⟨h1,rfl,rfl,rfl⟩:=hg
  rw[OX]at hb
  simp only[WV]at hb
  subst hb
  exact ML _ _ _ _ _ _ _ _ h1
 ·cases hg
set_option maxHeartbeats 0 in
theorem p69:Prog Tryz.prog (ar gl) k69:=Prog.fb (cfg:=k68) (f:=48) (p:=26) (cx:=1003) (keep:=sU) (kx:=Gr) (m:=3) (mv:=AY.mv) (Q:=Gy) (g:=FE) p68 Tryz.func48 (by kernel_rfl) Ml (by kernel_rfl) rfl (by decide) Mm
theorem p70:Prog Tryz.prog (ar gl) k70:=p69.aj (.of Tryz.func23 (by kernel_rfl) (by kernel_rfl)) (fun x h=>HU x.1 x.2.1 h)
set_option maxHeartbeats 0 in
theorem RC:∀ls os xs l e s' s,bSt Lr ls os xs=some s→Ln ls os xs=some (true,l,e,s')→∃fuel d,eu k70 fuel d 29 58 {keep:=xN,m:=1,mv:=GU.mv} J1 NX s=some (bb Prod.mk l e s'):=by
 intro ls os xs l e s' s hb hg
 unfold Ln at hg
 split at hg
 ·iterate 4 (replace hg:=ay hg;obtain⟨_,xs,rfl,hg⟩:=hg)
  replace hg:=aL hg
  obtain⟨rfl,hg⟩:=hg
  simp only[WV,Prod.mk.injEq]at hg
  obtain⟨h1,rfl,rfl,rfl⟩:=hg
  rw[Sz]at hb
  simp only[WV]at hb
  subst hb
  exact Oe _ _ _ _ _ _ h1
 ·cases hg
set_option maxHeartbeats 0 in
theorem p71:Prog Tryz.prog (ar gl) k71:=Prog.fb (cfg:=k70) (f:=29) (p:=58) (keep:=xN) (kx:=J1) (m:=1) (mv:=GU.mv) (Q:=Lr) (g:=Ln) p70 Tryz.func29 (by kernel_rfl) OG (by kernel_rfl) rfl (by decide) RC
theorem p72:Prog Tryz.prog (ar gl) k72:=p71.Ef (.of Tryz.func29 (by kernel_rfl) (by kernel_rfl)) (fun x h=>Gu x.1 x.2.1 x.2.2.1 h)
set_option maxHeartbeats 0 in
theorem Js:∀ls os xs l e s' s,bSt BJ ls os xs=some s→Bj ls os xs=some (true,l,e,s')→∃fuel d,eu k72 fuel d 48 26 {keep:=pT,m:=2,mv:=w9.mv} C8 Ht s=some (bb Prod.mk l e s'):=by
 intro ls os xs l e s' s hb hg
 unfold Bj at hg
 split at hg
 ·iterate 2 (replace hg:=ay hg;obtain⟨_,xs,rfl,hg⟩:=hg)
  replace hg:=aL hg
  obtain⟨rfl,hg⟩:=hg
  simp only[WV,Prod.mk.injEq]at hg
  obtain⟨h1,rfl,rfl,rfl⟩:=hg
  rw[Ny]at hb
  simp only[WV]at hb
  subst hb
  exact KM _ _ _ h1
 ·cases hg
set_option maxHeartbeats 0 in
theorem p73:Prog Tryz.prog (ar gl) k73:=Prog.fb (cfg:=k72) (f:=48) (p:=26) (cx:=1002) (keep:=pT) (kx:=C8) (m:=2) (mv:=w9.mv) (Q:=BJ) (g:=Bj) p72 Tryz.func48 (by kernel_rfl) Ka (by kernel_rfl) rfl (by decide) Js
set_option maxHeartbeats 0 in
theorem NH:∀ls os xs l e s' s,bSt GY ls os xs=some s→GW ls os xs=some (true,l,e,s')→∃fuel d,eu k73 fuel d 96 58 {keep:=sX,m:=4,mv:=Bd.mv} Gq JT s=some (bb Prod.mk l e s'):=by
 intro ls os xs l e s' s hb hg
 unfold GW at hg
 split at hg
 ·iterate 2 (replace hg:=ay hg;obtain⟨_,xs,rfl,hg⟩:=hg)
  replace hg:=aL hg
  obtain⟨rfl,hg⟩:=hg
  simp only[WV,Prod.mk.injEq]at hg
  obtain⟨h1,rfl,rfl,rfl⟩:=hg
  rw[Ol]at hb
  simp only[WV]at hb
  subst hb
  exact Mi _ _ _ _ h1
 ·cases hg
set_option maxHeartbeats 0 in
theorem p74:Prog Tryz.prog (ar gl) k74:=Prog.fb (cfg:=k73) (f:=96) (p:=58) (keep:=sX) (kx:=Gq) (m:=4) (mv:=Bd.mv) (Q:=GY) (g:=GW) p73 Tryz.func96 (by kernel_rfl) MN (by kernel_rfl) rfl (by decide) NH
set_option maxHeartbeats 0 in
theorem Pf:∀ls os xs l e s' s,bSt Lk ls os xs=some s→Lh ls os xs=some (true,l,e,s')→∃fuel d,eu k74 fuel d 111 6 {keep:=xL,m:=7,mv:=FZ.mv} KI Ru s=some (bb Prod.mk l e s'):=by
 intro ls os xs l e s' s hb hg
 unfold Lh at hg
 split at hg
 ·replace hg:=ay hg
  obtain⟨_,xs,rfl,hg⟩:=hg
  replace hg:=aL hg
  obtain⟨rfl,hg⟩:=hg
  simp only[WV,Prod.mk.injEq]at hg
  obtain⟨h1,rfl,rfl,rfl⟩:=hg
  rw[R3]at hb
  simp only[WV]at hb
  subst hb
  exact P7 _ _ _ _ h1
 ·cases hg
set_option maxHeartbeats 0 in
theorem p75:Prog Tryz.prog (ar gl) k75:=Prog.fb (cfg:=k74) (f:=111) (p:=6) (cx:=3) (keep:=xL) (kx:=KI) (m:=7) (mv:=FZ.mv) (Q:=Lk) (g:=Lh) p74 Tryz.func111 (by kernel_rfl) NU (by kernel_rfl) rfl (by decide) Pf
theorem p76:Prog Tryz.prog (ar gl) k76:=p75.Ef (.of Tryz.func64 (by kernel_rfl) (by kernel_rfl)) (fun x h=>zB x.1 h)
set_option maxHeartbeats 0 in
theorem NM:∀ls os xs l e s' s,bSt Hp ls os xs=some s→Gz ls os xs=some (true,l,e,s')→∃fuel d,eu k76 fuel d 65 1426 {keep:=tN,m:=10,mv:=BB.mv} GA Kq s=some (bb Prod.mk l e s'):=by
 intro ls os xs l e s' s hb hg
 unfold Gz at hg
 split at hg
 ·iterate 34 (replace hg:=ay hg;obtain⟨_,xs,rfl,hg⟩:=hg)
  replace hg:=bK hg
  obtain⟨_,xs,rfl,hg⟩:=hg
  iterate 34 (replace hg:=ay hg;obtain⟨_,xs,rfl,hg⟩:=hg)
  replace hg:=bK hg
  obtain⟨_,xs,rfl,hg⟩:=hg
  iterate 5 (replace hg:=ay hg;obtain⟨_,xs,rfl,hg⟩:=hg)
  replace hg:=aL hg
  obtain⟨rfl,hg⟩:=hg
  simp only[WV,Prod.mk.injEq]at hg
  obtain⟨h1,rfl,rfl,rfl⟩:=hg
  rw[RA]at hb
  simp only[WV]at hb
  subst hb
  exact M3 _ _ _ _ _ _ _ _ _ _ _ _ _ _ _ _ _ _ _ _ _ _ _ _ _ _ _ _ _ _ _ _ _ _ _ _ _ _ _ _ _ _ _ _ _ _ _ _ _ _ _ _ _ _ _ _ _ _ _ _ _ _ _ _ _ _ _ _ _ _ _ _ _ _ _ _ _ _ h1
 ·cases hg
set_option maxHeartbeats 0 in
theorem p77:Prog Tryz.prog (ar gl) k77:=Prog.fb (cfg:=k76) (f:=65) (p:=1426) (cx:=2) (keep:=tN) (kx:=GA) (m:=10) (mv:=BB.mv) (Q:=Hp) (g:=Gz) p76 Tryz.func65 (by kernel_rfl) Nc (by kernel_rfl) rfl (by decide) NM
set_option maxHeartbeats 0 in
theorem NI:∀ls os xs l e s' s,bSt FG ls os xs=some s→GI ls os xs=some (true,l,e,s')→∃fuel d,eu k77 fuel d 65 22 {keep:=tM,m:=9,mv:=Bo.mv} GB JM s=some (bb Prod.mk l e s'):=by
 intro ls os xs l e s' s hb hg
 unfold GI at hg
 split at hg
 ·iterate 34 (replace hg:=ay hg;obtain⟨_,xs,rfl,hg⟩:=hg)
  replace hg:=bK hg
  obtain⟨_,xs,rfl,hg⟩:=hg
  iterate 34 (replace hg:=ay hg;obtain⟨_,xs,rfl,hg⟩:=hg)
  replace hg:=bK hg
  obtain⟨_,xs,rfl,hg⟩:=hg
  iterate 3 (replace hg:=ay hg;obtain⟨_,xs,rfl,hg⟩:=hg)
  replace hg:=aL hg
  obtain⟨rfl,hg⟩:=hg
  simp only[WV,Prod.mk.injEq]at hg
  obtain⟨h1,rfl,rfl,rfl⟩:=hg
  rw[Qb]at hb
  simp only[WV]at hb
  subst hb
  exact NO _ _ _ _ _ _ _ _ _ _ _ _ _ _ _ _ _ _ _ _ _ _ _ _ _ _ _ _ _ _ _ _ _ _ _ _ _ _ _ _ _ _ _ _ _ _ _ _ _ _ _ _ _ _ _ _ _ _ _ _ _ _ _ _ _ _ _ _ _ _ _ _ _ _ _ _ h1
 ·cases hg
set_option maxHeartbeats 0 in
theorem p78:Prog Tryz.prog (ar gl) k78:=Prog.fb (cfg:=k77) (f:=65) (p:=22) (cx:=2) (keep:=tM) (kx:=GB) (m:=9) (mv:=Bo.mv) (Q:=FG) (g:=GI) p77 Tryz.func65 (by kernel_rfl) Mf (by kernel_rfl) rfl (by decide) NI
theorem p79:Prog Tryz.prog (ar gl) k79:=p78.Ef (.of Tryz.func13 (by kernel_rfl) (by kernel_rfl)) (fun x h=>Aw x.1 x.2.1 x.2.2.1 h)
theorem p80:Prog Tryz.prog (ar gl) k80:=p79.Ef (.of Tryz.func28 (by kernel_rfl) (by kernel_rfl)) (fun x h=>Al x.1 x.2.1 h)
theorem p81:Prog Tryz.prog (ar gl) k81:=p80.Ef (.of Tryz.func11 (by kernel_rfl) (by kernel_rfl)) (fun x h=>DQ x.1 x.2.1 h)
theorem p82:Prog Tryz.prog (ar gl) k82:=p81.aj (.of Tryz.func40 (by kernel_rfl) (by kernel_rfl)) (fun x h=>y8 x.1 x.2.1 h)
theorem p83:Prog Tryz.prog (ar gl) k83:=p82.aj (.of Tryz.func19 (by kernel_rfl) (by kernel_rfl)) (fun x h=>Dv x.1 x.2.1 h)
theorem p84:Prog Tryz.prog (ar gl) k84:=p83.aj (.of Tryz.func69 (by kernel_rfl) (by kernel_rfl)) (fun x h=>qW x.1)
theorem p85:Prog Tryz.prog (ar gl) k85:=p84.aj (.of Tryz.func67 (by kernel_rfl) (by kernel_rfl)) (fun x h=>ua x.1)
theorem p86:Prog Tryz.prog (ar gl) k86:=p85.aj (.of Tryz.func68 (by kernel_rfl) (by kernel_rfl)) (fun x h=>tS x.1)
theorem p87:Prog Tryz.prog (ar gl) k87:=p86.aj (.of Tryz.func35 (by kernel_rfl) (by kernel_rfl)) (fun x h=>ql x.1)
theorem p88:Prog Tryz.prog (ar gl) k88:=p87.aj (.of Tryz.func33 (by kernel_rfl) (by kernel_rfl)) (fun x h=>rN x.1)
theorem p89:Prog Tryz.prog (ar gl) k89:=p88.aj (.of Tryz.func34 (by kernel_rfl) (by kernel_rfl)) (fun x h=>rD x.1)
theorem p90:Prog Tryz.prog (ar gl) k90:=p89.aj (.of Tryz.func32 (by kernel_rfl) (by kernel_rfl)) (fun x h=>rO x.1)
set_option maxHeartbeats 0 in
theorem HG:∀ls os xs l e s' s,bSt xw ls os xs=some s→wP ls os xs=some (true,l,e,s')→∃fuel d,eu k90 fuel d 31 26 {keep:=mw,m:=3,mv:=tk.mv} yH DI s=some (bb Prod.mk l e s'):=by
 intro ls os xs l e s' s hb hg
 unfold wP at hg
 split at hg
 ·iterate 34 (replace hg:=ay hg;obtain⟨_,xs,rfl,hg⟩:=hg)
  replace hg:=bK hg
  obtain⟨_,xs,rfl,hg⟩:=hg
  replace hg:=ay hg
  obtain⟨_,xs,rfl,hg⟩:=hg
  replace hg:=aL hg
  obtain⟨rfl,hg⟩:=hg
  simp only[WV,Prod.mk.injEq]at hg
  obtain⟨h1,rfl,rfl,rfl⟩:=hg
  rw[Kj]at hb
  simp only[WV]at hb
  subst hb
  exact I7 _ _ _ _ _ _ _ _ _ _ _ _ _ _ _ _ _ _ _ _ _ _ _ _ _ _ _ _ _ _ _ _ _ _ _ _ _ _ h1
 ·cases hg
set_option maxHeartbeats 0 in
theorem p91:Prog Tryz.prog (ar gl) k91:=Prog.fb (cfg:=k90) (f:=31) (p:=26) (keep:=mw) (kx:=yH) (m:=3) (mv:=tk.mv) (Q:=xw) (g:=wP) p90 Tryz.func31 (by kernel_rfl) IJ (by kernel_rfl) rfl (by decide) HG
theorem p92:Prog Tryz.prog (ar gl) k92:=p91.aj (.of Tryz.func31 (by kernel_rfl) (by kernel_rfl)) (fun x h=>rk x.1 h)
set_option maxHeartbeats 0 in
theorem JU:∀ls os xs l e s' s,bSt AP ls os xs=some s→Bb ls os xs=some (true,l,e,s')→∃fuel d,eu k92 fuel d 14 32762 {keep:=pH,m:=3,mv:=xz.mv} CC GP s=some (bb Prod.mk l e s'):=by
 intro ls os xs l e s' s hb hg
 unfold Bb at hg
 split at hg
 ·iterate 34 (replace hg:=ay hg;obtain⟨_,xs,rfl,hg⟩:=hg)
  replace hg:=bK hg
  obtain⟨_,xs,rfl,hg⟩:=hg
  replace hg:=ay hg
  obtain⟨_,xs,rfl,hg⟩:=hg
  replace hg:=aL hg
  obtain⟨rfl,hg⟩:=hg
  simp only[WV,Prod.mk.injEq]at hg
  obtain⟨h1,rfl,rfl,rfl⟩:=hg
  rw[Mt]at hb
  simp only[WV]at hb
  subst hb
  exact Jt _ _ _ _ _ _ _ _ _ _ _ _ _ _ _ _ _ _ _ _ _ _ _ _ _ _ _ _ _ _ _ _ _ _ _ _ _ _ h1
 ·cases hg
set_option maxHeartbeats 0 in
theorem p93:Prog Tryz.prog (ar gl) k93:=Prog.fb (cfg:=k92) (f:=14) (p:=32762) (keep:=pH) (kx:=CC) (m:=3) (mv:=xz.mv) (Q:=AP) (g:=Bb) p92 Tryz.func14 (by kernel_rfl) JP (by kernel_rfl) rfl (by decide) JU
theorem p94:Prog Tryz.prog (ar gl) k94:=p93.aj (.of Tryz.func14 (by kernel_rfl) (by kernel_rfl)) (fun x h=>sK x.1 h)
theorem rE:∃F d,run k94 F d 10 Tryz.f10 lW (())=some (lL.enc (true)):=⟨200,6,by kernel_rfl⟩
theorem p95:Prog Tryz.prog (ar gl) k95:=p94.aj (.of Tryz.func10 (by kernel_rfl) (by kernel_rfl)) (fun x h=>rE)
theorem p96:Prog Tryz.prog (ar gl) k96:=p95.aj (.of Tryz.func45 (by kernel_rfl) (by kernel_rfl)) (fun x h=>wo x.1 x.2.1 h)
theorem p97:Prog Tryz.prog (ar gl) k97:=p96.aj (.of Tryz.func105 (by kernel_rfl) (by kernel_rfl)) (fun x h=>ud x.1)
theorem p98:Prog Tryz.prog (ar gl) k98:=p97.aj (.of Tryz.func81 (by kernel_rfl) (by kernel_rfl)) (fun x h=>ui x.1)
theorem p99:Prog Tryz.prog (ar gl) k99:=p98.aj (.of Tryz.func82 (by kernel_rfl) (by kernel_rfl)) (fun x h=>tR x.1 x.2.1)
set_option maxHeartbeats 0 in
theorem Pv:∀ls os xs l e s' s,bSt Lw ls os xs=some s→L0 ls os xs=some (true,l,e,s')→∃fuel d,eu k99 fuel d 44 28 {keep:=wG,m:=1,mv:=Gk.mv} Kr OV s=some (bb Prod.mk l e s'):=by
 intro ls os xs l e s' s hb hg
 unfold L0 at hg
 split at hg
 ·iterate 5 (replace hg:=ay hg;obtain⟨_,xs,rfl,hg⟩:=hg)
  replace hg:=aL hg
  obtain⟨rfl,hg⟩:=hg
  simp only[WV,Prod.mk.injEq]at hg
  obtain⟨h1,rfl,rfl,rfl⟩:=hg
  rw[SO]at hb
  simp only[WV]at hb
  subst hb
  exact Oq _ _ _ _ _ h1
 ·cases hg
set_option maxHeartbeats 0 in
theorem VZ:Prog Tryz.prog (ar gl) J0:=Prog.fb (cfg:=k99) (f:=44) (p:=28) (keep:=wG) (kx:=Kr) (m:=1) (mv:=Gk.mv) (Q:=Lw) (g:=L0) p99 Tryz.func44 (by kernel_rfl) Ri (by kernel_rfl) rfl (by decide) Pv
set_option maxHeartbeats 0 in
theorem MI:∀ls os xs l e s' s,bSt Fh ls os xs=some s→G6 ls os xs=some (true,l,e,s')→∃fuel d,eu J0 fuel d 44 124 {keep:=tq,m:=1,mv:=BH.mv} GJ JK s=some (bb Prod.mk l e s'):=by
 intro ls os xs l e s' s hb hg
 unfold G6 at hg
 split at hg
 ·iterate 6 (replace hg:=ay hg;obtain⟨_,xs,rfl,hg⟩:=hg)
  replace hg:=aL hg
  obtain⟨rfl,hg⟩:=hg
  simp only[WV,Prod.mk.injEq]at hg
  obtain⟨h1,rfl,rfl,rfl⟩:=hg
  rw[Qv]at hb
  simp only[WV]at hb
  subst hb
  exact M7 _ _ _ _ _ _ h1
 ·cases hg
set_option maxHeartbeats 0 in
theorem VD:Prog Tryz.prog (ar gl) PG:=Prog.fb (cfg:=J0) (f:=44) (p:=124) (keep:=tq) (kx:=GJ) (m:=1) (mv:=BH.mv) (Q:=Fh) (g:=G6) VZ Tryz.func44 (by kernel_rfl) Mx (by kernel_rfl) rfl (by decide) MI
theorem Vw:Prog Tryz.prog (ar gl) Qu:=VD.aj (.of Tryz.func44 (by kernel_rfl) (by kernel_rfl)) (fun x h=>xr x.1 h)
theorem WB:Prog Tryz.prog (ar gl) N2:=Vw.aj (.of Tryz.func43 (by kernel_rfl) (by kernel_rfl)) (fun x h=>uG x.1)
theorem Wz:Prog Tryz.prog (ar gl) P8:=WB.aj (.of Tryz.func21 (by kernel_rfl) (by kernel_rfl)) (fun x h=>qF x.1 x.2.1 h)
theorem V0:Prog Tryz.prog (ar gl) Jk:=Wz.aj (.of Tryz.func113 (by kernel_rfl) (by kernel_rfl)) (fun x h=>wq x.1 x.2.1 h)
set_option maxHeartbeats 0 in
theorem NA:∀ls os xs l e s' s,bSt FC ls os xs=some s→GV ls os xs=some (true,l,e,s')→∃fuel d,eu Jk fuel d 127 58 {keep:=sZ,m:=1,mv:=Br.mv} Fq JO s=some (bb Prod.mk l e s'):=by
 intro ls os xs l e s' s hb hg
 unfold GV at hg
 split at hg
 ·iterate 5 (replace hg:=ay hg;obtain⟨_,xs,rfl,hg⟩:=hg)
  replace hg:=aL hg
  obtain⟨rfl,hg⟩:=hg
  simp only[WV,Prod.mk.injEq]at hg
  obtain⟨h1,rfl,rfl,rfl⟩:=hg
  rw[Ot]at hb
  simp only[WV]at hb
  subst hb
  exact Nn _ _ _ _ _ h1
 ·cases hg
set_option maxHeartbeats 0 in
theorem Wk:Prog Tryz.prog (ar gl) K8:=Prog.fb (cfg:=Jk) (f:=127) (p:=58) (keep:=sZ) (kx:=Fq) (m:=1) (mv:=Br.mv) (Q:=FC) (g:=GV) V0 Tryz.func127 (by kernel_rfl) MY (by kernel_rfl) rfl (by decide) NA
set_option maxHeartbeats 0 in
theorem Nq:∀ls os xs l e s' s,bSt Hk ls os xs=some s→Hg ls os xs=some (true,l,e,s')→∃fuel d,eu K8 fuel d 127 122 {keep:=sV,m:=1,mv:=AQ.mv} F3 Jr s=some (bb Prod.mk l e s'):=by
 intro ls os xs l e s' s hb hg
 unfold Hg at hg
 split at hg
 ·iterate 5 (replace hg:=ay hg;obtain⟨_,xs,rfl,hg⟩:=hg)
  replace hg:=aL hg
  obtain⟨rfl,hg⟩:=hg
  simp only[WV,Prod.mk.injEq]at hg
  obtain⟨h1,rfl,rfl,rfl⟩:=hg
  rw[PK]at hb
  simp only[WV]at hb
  subst hb
  exact MA _ _ _ _ _ h1
 ·cases hg
set_option maxHeartbeats 0 in
theorem VS:Prog Tryz.prog (ar gl) Rf:=Prog.fb (cfg:=K8) (f:=127) (p:=122) (keep:=sV) (kx:=F3) (m:=1) (mv:=AQ.mv) (Q:=Hk) (g:=Hg) Wk Tryz.func127 (by kernel_rfl) Nx (by kernel_rfl) rfl (by decide) Nq
theorem Wx:Prog Tryz.prog (ar gl) QT:=VS.aj (.of Tryz.func127 (by kernel_rfl) (by kernel_rfl)) (fun x h=>vc x.1 h)
theorem Wn:Prog Tryz.prog (ar gl) Kc:=Wx.aj (.of Tryz.func99 (by kernel_rfl) (by kernel_rfl)) (fun x h=>pw x.1 h)
set_option maxHeartbeats 0 in
theorem MD:∀ls os xs l e s' s,bSt Hu ls os xs=some s→Gn ls os xs=some (true,l,e,s')→∃fuel d,eu Kc fuel d 118 1018 {keep:=sO,m:=0,mv:=A3.mv} Gd KG s=some (bb Prod.mk l e s'):=by
 intro ls os xs l e s' s hb hg
 unfold Gn at hg
 split at hg
 ·iterate 8 (replace hg:=ay hg;obtain⟨_,xs,rfl,hg⟩:=hg)
  replace hg:=aL hg
  obtain⟨rfl,hg⟩:=hg
  simp only[WV,Prod.mk.injEq]at hg
  obtain⟨h1,rfl,rfl,rfl⟩:=hg
  rw[Pj]at hb
  simp only[WV]at hb
  subst hb
  exact My _ _ _ _ _ _ _ _ h1
 ·cases hg
set_option maxHeartbeats 0 in
theorem WE:Prog Tryz.prog (ar gl) QK:=Prog.fb (cfg:=Kc) (f:=118) (p:=1018) (keep:=sO) (kx:=Gd) (m:=0) (mv:=A3.mv) (Q:=Hu) (g:=Gn) Wn Tryz.func118 (by kernel_rfl) Mz (by kernel_rfl) rfl (by decide) MD
theorem Ws:Prog Tryz.prog (ar gl) Pd:=WE.aj (.of Tryz.func118 (by kernel_rfl) (by kernel_rfl)) (fun x h=>vp x.1 x.2.1 x.2.2.1 x.2.2.2.1)
theorem Wv:Prog Tryz.prog (ar gl) PF:=Ws.aj (.of Tryz.func104 (by kernel_rfl) (by kernel_rfl)) (fun x h=>tQ x.1 x.2.1 x.2.2.1 h)
theorem VR:Prog Tryz.prog (ar gl) Pm:=Wv.aj (.of Tryz.func80 (by kernel_rfl) (by kernel_rfl)) (fun x h=>qB x.1 x.2.1 h)
theorem VE:Prog Tryz.prog (ar gl) PQ:=VR.aj (.of Tryz.func41 (by kernel_rfl) (by kernel_rfl)) (fun x h=>uc x.1 x.2.1 h)
theorem VI:Prog Tryz.prog (ar gl) KD:=VE.Ef (.of Tryz.func77 (by kernel_rfl) (by kernel_rfl)) (fun x h=>oa x.1 x.2.1 x.2.2.1 h)
set_option maxHeartbeats 0 in
theorem MU:∀ls os xs l e s' s,bSt Gt ls os xs=some s→FP ls os xs=some (true,l,e,s')→∃fuel d,eu KD fuel d 39 60 {keep:=tE,m:=2,mv:=AX.mv} Fl JS s=some (bb Prod.mk l e s'):=by
 intro ls os xs l e s' s hb hg
 unfold FP at hg
 split at hg
 ·iterate 11 (replace hg:=ay hg;obtain⟨_,xs,rfl,hg⟩:=hg)
  replace hg:=aL hg
  obtain⟨rfl,hg⟩:=hg
  simp only[WV,Prod.mk.injEq]at hg
  obtain⟨h1,rfl,rfl,rfl⟩:=hg
  rw[QG]at hb
  simp only[WV]at hb
  subst hb
  exact Nz _ _ _ _ _ _ _ _ _ _ _ _ h1
 ·cases hg
set_option maxHeartbeats 0 in
theorem V3:Prog Tryz.prog (ar gl) OB:=Prog.fb (cfg:=KD) (f:=39) (p:=60) (keep:=tE) (kx:=Fl) (m:=2) (mv:=AX.mv) (Q:=Gt) (g:=FP) VI Tryz.func39 (by kernel_rfl) Nf (by kernel_rfl) rfl (by decide) MU
theorem VV:Prog Tryz.prog (ar gl) Qd:=V3.aj (.of Tryz.func39 (by kernel_rfl) (by kernel_rfl)) (fun x h=>qE x.1 x.2.1 x.2.2.1 h)
theorem V4:Prog Tryz.prog (ar gl) Rt:=VV.aj (.of Tryz.func102 (by kernel_rfl) (by kernel_rfl)) (fun x h=>xu x.1 x.2.1 h)
theorem VC:Prog Tryz.prog (ar gl) Ro:=V4.aj (.of Tryz.func73 (by kernel_rfl) (by kernel_rfl)) (fun x h=>qq x.1 x.2.1 x.2.2.1)
theorem WA:Prog Tryz.prog (ar gl) Ql:=VC.aj (.of Tryz.func143 (by kernel_rfl) (by kernel_rfl)) (fun x h=>uE x.1 h)
theorem Wa:Prog Tryz.prog (ar gl) Jy:=WA.aj (.of Tryz.func142 (by kernel_rfl) (by kernel_rfl)) (fun x h=>vW x.1)
set_option maxHeartbeats 0 in
theorem MX:∀ls os xs l e s' s,bSt F0 ls os xs=some s→Hq ls os xs=some (true,l,e,s')→∃fuel d,eu Jy fuel d 150 122 {keep:=tj,m:=0,mv:=AZ.mv} GX KF s=some (bb Prod.mk l e s'):=by
 intro ls os xs l e s' s hb hg
 unfold Hq at hg
 split at hg
 ·iterate 3 (replace hg:=ay hg;obtain⟨_,xs,rfl,hg⟩:=hg)
  replace hg:=aL hg
  obtain⟨rfl,hg⟩:=hg
  simp only[WV,Prod.mk.injEq]at hg
  obtain⟨h1,rfl,rfl,rfl⟩:=hg
  rw[NS]at hb
  simp only[WV]at hb
  subst hb
  exact MJ _ _ _ h1
 ·cases hg
set_option maxHeartbeats 0 in
theorem V8:Prog Tryz.prog (ar gl) N9:=Prog.fb (cfg:=Jy) (f:=150) (p:=122) (keep:=tj) (kx:=GX) (m:=0) (mv:=AZ.mv) (Q:=F0) (g:=Hq) Wa Tryz.func150 (by kernel_rfl) NG (by kernel_rfl) rfl (by decide) MX
theorem VU:Prog Tryz.prog (ar gl) Od:=V8.aj (.of Tryz.func150 (by kernel_rfl) (by kernel_rfl)) (fun x h=>qm x.1 h)
theorem Wu:Prog Tryz.prog (ar gl) Ow:=VU.aj (.of Tryz.func140 (by kernel_rfl) (by kernel_rfl)) (fun x h=>rv x.1 h)
theorem Wj:Prog Tryz.prog (ar gl) QF:=Wu.aj (.of Tryz.func151 (by kernel_rfl) (by kernel_rfl)) (fun x h=>vC x.1 x.2.1 h)
theorem VY:Prog Tryz.prog (ar gl) OE:=Wj.aj (.of Tryz.func141 (by kernel_rfl) (by kernel_rfl)) (fun x h=>rK x.1 h)
theorem V7:Prog Tryz.prog (ar gl) PC:=VY.aj (.of Tryz.func124 (by kernel_rfl) (by kernel_rfl)) (fun x h=>pk x.1 h)
theorem WC:Prog Tryz.prog (ar gl) QQ:=V7.aj (.of Tryz.func126 (by kernel_rfl) (by kernel_rfl)) (fun x h=>wc x.1 h)
theorem Wp:Prog Tryz.prog (ar gl) Oi:=WC.aj (.of Tryz.func125 (by kernel_rfl) (by kernel_rfl)) (fun x h=>ug x.1 x.2.1)
theorem Vx:Prog Tryz.prog (ar gl) RD:=Wp.aj (.of Tryz.func116 (by kernel_rfl) (by kernel_rfl)) (fun x h=>qP)
theorem VL:Prog Tryz.prog (ar gl) Ku:=Vx.aj (.of Tryz.func117 (by kernel_rfl) (by kernel_rfl)) (fun x h=>uf)
set_option maxHeartbeats 0 in
theorem Mb:∀ls os xs l e s' s,bSt Fe ls os xs=some s→G4 ls os xs=some (true,l,e,s')→∃fuel d,eu Ku fuel d 123 60 {keep:=tC,m:=0,mv:=A9.mv} Fs Jn s=some (bb Prod.mk l e s'):=by
 intro ls os xs l e s' s hb hg
 unfold G4 at hg
 split at hg
 ·iterate 3 (replace hg:=ay hg;obtain⟨_,xs,rfl,hg⟩:=hg)
  replace hg:=aL hg
  obtain⟨rfl,hg⟩:=hg
  simp only[WV,Prod.mk.injEq]at hg
  obtain⟨h1,rfl,rfl,rfl⟩:=hg
  rw[PY]at hb
  simp only[WV]at hb
  subst hb
  exact Nk _ _ _ h1
 ·cases hg
set_option maxHeartbeats 0 in
theorem V6:Prog Tryz.prog (ar gl) OA:=Prog.fb (cfg:=Ku) (f:=123) (p:=60) (keep:=tC) (kx:=Fs) (m:=0) (mv:=A9.mv) (Q:=Fe) (g:=G4) VL Tryz.func123 (by kernel_rfl) Na (by kernel_rfl) rfl (by decide) Mb
theorem VT:Prog Tryz.prog (ar gl) Km:=V6.aj (.of Tryz.func123 (by kernel_rfl) (by kernel_rfl)) (fun x h=>tV x.1 h)
set_option maxHeartbeats 0 in
theorem M4:∀ls os xs l e s' s,bSt Fv ls os xs=some s→Hj ls os xs=some (true,l,e,s')→∃fuel d,eu Km fuel d 115 124 {keep:=tf,m:=1,mv:=AU.mv} Hm JI s=some (bb Prod.mk l e s'):=by
 intro ls os xs l e s' s hb hg
 unfold Hj at hg
 split at hg
 ·iterate 6 (replace hg:=ay hg;obtain⟨_,xs,rfl,hg⟩:=hg)
  replace hg:=aL hg
  obtain⟨rfl,hg⟩:=hg
  simp only[WV,Prod.mk.injEq]at hg
  obtain⟨h1,rfl,rfl,rfl⟩:=hg
  rw[N7]at hb
  simp only[WV]at hb
  subst hb
  exact MV _ _ _ _ _ _ h1
 ·cases hg
set_option maxHeartbeats 0 in
theorem Wm:Prog Tryz.prog (ar gl) PX:=Prog.fb (cfg:=Km) (f:=115) (p:=124) (keep:=tf) (kx:=Hm) (m:=1) (mv:=AU.mv) (Q:=Fv) (g:=Hj) VT Tryz.func115 (by kernel_rfl) NC (by kernel_rfl) rfl (by decide) M4
theorem V1:Prog Tryz.prog (ar gl) RH:=Wm.aj (.of Tryz.func115 (by kernel_rfl) (by kernel_rfl)) (fun x h=>xq x.1 h)
theorem Wi:Prog Tryz.prog (ar gl) OR:=V1.aj (.of Tryz.func122 (by kernel_rfl) (by kernel_rfl)) (fun x h=>qk x.1 x.2.1)
theorem WD:Prog Tryz.prog (ar gl) Qr:=Wi.aj (.of Tryz.func114 (by kernel_rfl) (by kernel_rfl)) (fun x h=>x3 x.1 x.2.1)
theorem Wt:Prog Tryz.prog (ar gl) P4:=WD.aj (.of Tryz.func101 (by kernel_rfl) (by kernel_rfl)) (fun x h=>vP x.1)
theorem Wo:Prog Tryz.prog (ar gl) Qq:=Wt.aj (.of Tryz.func100 (by kernel_rfl) (by kernel_rfl)) (fun x h=>uF x.1 x.2.1)
theorem Wg:Prog Tryz.prog (ar gl) KC:=Wo.aj (.of Tryz.func71 (by kernel_rfl) (by kernel_rfl)) (fun x h=>uz x.1 x.2.1)
set_option maxHeartbeats 0 in
theorem JC:∀ls os xs l e s' s,bSt BF ls os xs=some s→A4 ls os xs=some (true,l,e,s')→∃fuel d,eu KC fuel d 72 124 {keep:=oA,m:=1,mv:=xD.mv} CY Hy s=some (bb Prod.mk l e s'):=by
 intro ls os xs l e s' s hb hg
 unfold A4 at hg
 split at hg
 ·iterate 2 (replace hg:=ay hg;obtain⟨_,xs,rfl,hg⟩:=hg)
  replace hg:=bK hg
  obtain⟨_,xs,rfl,hg⟩:=hg
  iterate 2 (replace hg:=ay hg;obtain⟨_,xs,rfl,hg⟩:=hg)
  replace hg:=bK hg
  obtain⟨_,xs,rfl,hg⟩:=hg
  replace hg:=aL hg
  obtain⟨rfl,hg⟩:=hg
  simp only[WV,Prod.mk.injEq]at hg
  obtain⟨h1,rfl,rfl,rfl⟩:=hg
  rw[M5]at hb
  simp only[WV]at hb
  subst hb
  exact Kw _ _ _ _ _ _ h1
 ·cases hg
set_option maxHeartbeats 0 in
theorem Wb:Prog Tryz.prog (ar gl) JY:=Prog.fb (cfg:=KC) (f:=72) (p:=124) (keep:=oA) (kx:=CY) (m:=1) (mv:=xD.mv) (Q:=BF) (g:=A4) Wg Tryz.func72 (by kernel_rfl) Jq (by kernel_rfl) rfl (by decide) JC
set_option maxHeartbeats 0 in
theorem H0:∀ls os xs l e s' s,bSt wS ls os xs=some s→xn ls os xs=some (true,l,e,s')→∃fuel d,eu JY fuel d 72 508 {keep:=mh,m:=1,mv:=tG.mv} yV BO s=some (bb Prod.mk l e s'):=by
 intro ls os xs l e s' s hb hg
 unfold xn at hg
 split at hg
 ·iterate 2 (replace hg:=ay hg;obtain⟨_,xs,rfl,hg⟩:=hg)
  replace hg:=bK hg
  obtain⟨_,xs,rfl,hg⟩:=hg
  iterate 2 (replace hg:=ay hg;obtain⟨_,xs,rfl,hg⟩:=hg)
  replace hg:=bK hg
  obtain⟨_,xs,rfl,hg⟩:=hg
  replace hg:=aL hg
  obtain⟨rfl,hg⟩:=hg
  simp only[WV,Prod.mk.injEq]at hg
  obtain⟨h1,rfl,rfl,rfl⟩:=hg
  rw[KE]at hb
  simp only[WV]at hb
  subst hb
  exact I3 _ _ _ _ _ _ h1
 ·cases hg
set_option maxHeartbeats 0 in
theorem VP:Prog Tryz.prog (ar gl) Pz:=Prog.fb (cfg:=JY) (f:=72) (p:=508) (keep:=mh) (kx:=yV) (m:=1) (mv:=tG.mv) (Q:=wS) (g:=xn) Wb Tryz.func72 (by kernel_rfl) H4 (by kernel_rfl) rfl (by decide) H0
theorem Wc:Prog Tryz.prog (ar gl) Pu:=VP.aj (.of Tryz.func72 (by kernel_rfl) (by kernel_rfl)) (fun x h=>vf x.1 x.2.1 h)
theorem VA:Prog Tryz.prog (ar gl) NV:=Wc.aj (.of Tryz.func70 (by kernel_rfl) (by kernel_rfl)) (fun x h=>qI x.1 x.2.1 x.2.2.1 h)
theorem V5:Prog Tryz.prog (ar gl) Kz:=VA.aj (.of Tryz.func36 (by kernel_rfl) (by kernel_rfl)) (fun x h=>yy x.1 x.2.1 x.2.2.1 h)
set_option maxHeartbeats 0 in
theorem N6:∀ls os xs l e s' s,bSt Lo ls os xs=some s→Lj ls os xs=some (true,l,e,s')→∃fuel d,eu Kz fuel d 42 26 {keep:=wJ,m:=2,mv:=Fo.mv} JF QH s=some (bb Prod.mk l e s'):=by
 intro ls os xs l e s' s hb hg
 unfold Lj at hg
 split at hg
 ·iterate 6 (replace hg:=ay hg;obtain⟨_,xs,rfl,hg⟩:=hg)
  replace hg:=aL hg
  obtain⟨rfl,hg⟩:=hg
  simp only[WV,Prod.mk.injEq]at hg
  obtain⟨h1,rfl,rfl,rfl⟩:=hg
  rw[R7]at hb
  simp only[WV]at hb
  subst hb
  exact OY _ _ _ _ _ _ _ h1
 ·cases hg
set_option maxHeartbeats 0 in
theorem Ww:Prog Tryz.prog (ar gl) ON:=Prog.fb (cfg:=Kz) (f:=42) (p:=26) (keep:=wJ) (kx:=JF) (m:=2) (mv:=Fo.mv) (Q:=Lo) (g:=Lj) V5 Tryz.func42 (by kernel_rfl) Ov (by kernel_rfl) rfl (by decide) N6
theorem V2:Prog Tryz.prog (ar gl) Qo:=Ww.aj (.of Tryz.func42 (by kernel_rfl) (by kernel_rfl)) (fun x h=>yp x.1 x.2.1 h)
theorem VG:Prog Tryz.prog (ar gl) JA:=V2.aj (.of Tryz.func103 (by kernel_rfl) (by kernel_rfl)) (fun x h=>ur x.1 x.2.1)
set_option maxHeartbeats 0 in
theorem Ta:∀ls os xs l e s' s,bSt RT ls os xs=some s→SL ls os xs=some (true,l,e,s')→∃fuel d,eu JA fuel d 76 58 {keep:=Bg,m:=1,mv:=Lc.mv} NY Un s=some (bb Prod.mk l e s'):=by
 intro ls os xs l e s' s hb hg
 unfold SL at hg
 split at hg
 ·iterate 3 (replace hg:=ay hg;obtain⟨_,xs,rfl,hg⟩:=hg)
  replace hg:=aL hg
  obtain⟨rfl,hg⟩:=hg
  simp only[WV,Prod.mk.injEq]at hg
  obtain⟨h1,rfl,rfl,rfl⟩:=hg
  rw[Uq]at hb
  simp only[WV]at hb
  subst hb
  exact S3 _ _ _ _ h1
 ·cases hg
set_option maxHeartbeats 0 in
theorem VX:Prog Tryz.prog (ar gl) OK:=Prog.fb (cfg:=JA) (f:=76) (p:=58) (keep:=Bg) (kx:=NY) (m:=1) (mv:=Lc.mv) (Q:=RT) (g:=SL) VG Tryz.func76 (by kernel_rfl) Ti (by kernel_rfl) rfl (by decide) Ta
theorem VK:Prog Tryz.prog (ar gl) Kl:=VX.aj (.of Tryz.func76 (by kernel_rfl) (by kernel_rfl)) (fun x h=>ma x.1 x.2.1 h)
set_option maxHeartbeats 0 in
theorem Rv:∀ls os xs l e s' s,bSt LG ls os xs=some s→Ls ls os xs=some (true,l,e,s')→∃fuel d,eu Kl fuel d 75 122 {keep:=wV,m:=1,mv:=Gc.mv} Ko Rm s=some (bb Prod.mk l e s'):=by
 intro ls os xs l e s' s hb hg
 unfold Ls at hg
 split at hg
 ·iterate 2 (replace hg:=ay hg;obtain⟨_,xs,rfl,hg⟩:=hg)
  replace hg:=bK hg
  obtain⟨_,xs,rfl,hg⟩:=hg
  replace hg:=ay hg
  obtain⟨_,xs,rfl,hg⟩:=hg
  replace hg:=aL hg
  obtain⟨rfl,hg⟩:=hg
  simp only[WV,Prod.mk.injEq]at hg
  obtain⟨h1,rfl,rfl,rfl⟩:=hg
  rw[RR]at hb
  simp only[WV]at hb
  subst hb
  exact N0 _ _ _ _ _ h1
 ·cases hg
set_option maxHeartbeats 0 in
theorem Wy:Prog Tryz.prog (ar gl) Pa:=Prog.fb (cfg:=Kl) (f:=75) (p:=122) (keep:=wV) (kx:=Ko) (m:=1) (mv:=Gc.mv) (Q:=LG) (g:=Ls) VK Tryz.func75 (by kernel_rfl) RB (by kernel_rfl) rfl (by decide) Rv
theorem Wl:Prog Tryz.prog (ar gl) KN:=Wy.aj (.of Tryz.func75 (by kernel_rfl) (by kernel_rfl)) (fun x h=>uA x.1 x.2.1 h)
set_option maxHeartbeats 0 in
theorem Qt:∀ls os xs l e s' s,bSt LM ls os xs=some s→Lm ls os xs=some (true,l,e,s')→∃fuel d,eu KN fuel d 74 58 {keep:=yf,m:=1,mv:=FX.mv} Jw Oy s=some (bb Prod.mk l e s'):=by
 intro ls os xs l e s' s hb hg
 unfold Lm at hg
 split at hg
 ·iterate 2 (replace hg:=ay hg;obtain⟨_,xs,rfl,hg⟩:=hg)
  replace hg:=aL hg
  obtain⟨rfl,hg⟩:=hg
  simp only[WV,Prod.mk.injEq]at hg
  obtain⟨h1,rfl,rfl,rfl⟩:=hg
  rw[Sa]at hb
  simp only[WV]at hb
  subst hb
  exact QP _ _ _ h1
 ·cases hg
set_option maxHeartbeats 0 in
theorem VF:Prog Tryz.prog (ar gl) OL:=Prog.fb (cfg:=KN) (f:=74) (p:=58) (keep:=yf) (kx:=Jw) (m:=1) (mv:=FX.mv) (Q:=LM) (g:=Lm) Wl Tryz.func74 (by kernel_rfl) PT (by kernel_rfl) rfl (by decide) Qt
theorem Wf:Prog Tryz.prog (ar gl) JH:=VF.aj (.of Tryz.func74 (by kernel_rfl) (by kernel_rfl)) (fun x h=>sw x.1 h)
set_option maxHeartbeats 0 in
theorem MB:∀ls os xs l e s' s,bSt Gi ls os xs=some s→F1 ls os xs=some (true,l,e,s')→∃fuel d,eu JH fuel d 37 252 {keep:=tA,m:=1,mv:=Bv.mv} Hb KO s=some (bb Prod.mk l e s'):=by
 intro ls os xs l e s' s hb hg
 unfold F1 at hg
 split at hg
 ·iterate 2 (replace hg:=ay hg;obtain⟨_,xs,rfl,hg⟩:=hg)
  replace hg:=bK hg
  obtain⟨_,xs,rfl,hg⟩:=hg
  replace hg:=aL hg
  obtain⟨rfl,hg⟩:=hg
  simp only[WV,Prod.mk.injEq]at hg
  obtain⟨h1,rfl,rfl,rfl⟩:=hg
  rw[N8]at hb
  simp only[WV]at hb
  subst hb
  exact Me _ _ _ _ _ h1
 ·cases hg
set_option maxHeartbeats 0 in
theorem Vz:Prog Tryz.prog (ar gl) P6:=Prog.fb (cfg:=JH) (f:=37) (p:=252) (keep:=tA) (kx:=Hb) (m:=1) (mv:=Bv.mv) (Q:=Gi) (g:=F1) Wf Tryz.func37 (by kernel_rfl) NB (by kernel_rfl) rfl (by decide) MB
theorem VW:Prog Tryz.prog (ar gl) K6:=Vz.Ef (.of Tryz.func37 (by kernel_rfl) (by kernel_rfl)) (fun x h=>oZ x.1 h)
set_option maxHeartbeats 0 in
theorem NL:∀ls os xs l e s' s,bSt Hd ls os xs=some s→FK ls os xs=some (true,l,e,s')→∃fuel d,eu K6 fuel d 17 3730 {keep:=sY,m:=4,mv:=Bw.mv} Hs K4 s=some (bb Prod.mk l e s'):=by
 intro ls os xs l e s' s hb hg
 unfold FK at hg
 split at hg
 ·iterate 34 (replace hg:=ay hg;obtain⟨_,xs,rfl,hg⟩:=hg)
  replace hg:=bK hg
  obtain⟨_,xs,rfl,hg⟩:=hg
  iterate 3 (replace hg:=ay hg;obtain⟨_,xs,rfl,hg⟩:=hg)
  replace hg:=aL hg
  obtain⟨rfl,hg⟩:=hg
  simp only[WV,Prod.mk.injEq]at hg
  obtain⟨h1,rfl,rfl,rfl⟩:=hg
  rw[PM]at hb
  simp only[WV]at hb
  subst hb
  exact Nj _ _ _ _ _ _ _ _ _ _ _ _ _ _ _ _ _ _ _ _ _ _ _ _ _ _ _ _ _ _ _ _ _ _ _ _ _ _ _ _ _ h1
 ·cases hg
set_option maxHeartbeats 0 in
theorem VJ:Prog Tryz.prog (ar gl) JJ:=Prog.fb (cfg:=K6) (f:=17) (p:=3730) (keep:=sY) (kx:=Hs) (m:=4) (mv:=Bw.mv) (Q:=Hd) (g:=FK) VW Tryz.func17 (by kernel_rfl) Nw (by kernel_rfl) rfl (by decide) NL
set_option maxHeartbeats 0 in
theorem NN:∀ls os xs l e s' s,bSt GD ls os xs=some s→GC ls os xs=some (true,l,e,s')→∃fuel d,eu JJ fuel d 17 58 {keep:=sP,m:=3,mv:=Bp.mv} He Jx s=some (bb Prod.mk l e s'):=by
 intro ls os xs l e s' s hb hg
 unfold GC at hg
 split at hg
 ·iterate 34 (replace hg:=ay hg;obtain⟨_,xs,rfl,hg⟩:=hg)
  replace hg:=bK hg
  obtain⟨_,xs,rfl,hg⟩:=hg
  iterate 2 (replace hg:=ay hg;obtain⟨_,xs,rfl,hg⟩:=hg)
  replace hg:=aL hg
  obtain⟨rfl,hg⟩:=hg
  simp only[WV,Prod.mk.injEq]at hg
  obtain⟨h1,rfl,rfl,rfl⟩:=hg
  rw[OS]at hb
  simp only[WV]at hb
  subst hb
  exact MQ _ _ _ _ _ _ _ _ _ _ _ _ _ _ _ _ _ _ _ _ _ _ _ _ _ _ _ _ _ _ _ _ _ _ _ _ _ _ _ _ h1
 ·cases hg
set_option maxHeartbeats 0 in
theorem Vy:Prog Tryz.prog (ar gl) Rp:=Prog.fb (cfg:=JJ) (f:=17) (p:=58) (keep:=sP) (kx:=He) (m:=3) (mv:=Bp.mv) (Q:=GD) (g:=GC) VJ Tryz.func17 (by kernel_rfl) Nh (by kernel_rfl) rfl (by decide) NN
theorem VO:Prog Tryz.prog (ar gl) QE:=Vy.Ef (.of Tryz.func17 (by kernel_rfl) (by kernel_rfl)) (fun x h=>sy x.1 x.2.1 x.2.2.1 h)
theorem VH:Prog Tryz.prog (ar gl) Ss:=VO.aj (.of Tryz.func20 (by kernel_rfl) (by kernel_rfl)) (fun x h=>ue x.1 x.2.1 h)
theorem l8:∀x,b8.wf x→∃fuel d,run Ss fuel d 4 Tryz.f4 b8 x=some (.bool true):=fun x hx=>lZ x.1 x.2.1
end Go.Proofs.YtfhepbbkggdlcaaGreatDoor.Px.PxT
