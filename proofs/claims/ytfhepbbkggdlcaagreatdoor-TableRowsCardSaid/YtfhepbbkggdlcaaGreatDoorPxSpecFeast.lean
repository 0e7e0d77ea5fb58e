/- The feasts of a year. -/
import Derived.Test.YtfhepbbkggdlcaaGreatDoorPxSpecGreg
import Derived.KernelRfl
import Derived.Test.YtfhepbbkggdlcaaGreatDoorPxLaw
set_option linter.unusedVariables false
set_option linter.unusedSimpArgs false
namespace Go.Proofs.YtfhepbbkggdlcaaGreatDoor.Px
open Go
def Pu:List (Int×Int×Int×Bool):=[(1,1,1,false),(1,2,1,false),(1,10,2,false),(1,15,3,false),(1,16,3,true),(1,22,4,false),(1,23,4,true),(8,15,5,false),(8,16,5,true),(8,21,6,false),(8,22,6,true),(10,6,7,false),(10,7,7,true)]
def cN (j:Nat):Int×Int×Int×Bool:=Pu.getD j (0,0,0,false)
def hit (m d:Int) (j:Nat):Bool:=m==(cN j).1&&d==(cN j).2.1
def eZ (m d:Int):Int×Bool:=match(List.range 13).find? (hit m d)with
 |some j=>(cN j).2.2
 |none=>(0,false)
def kO (m d:Int) (ab:Bool):Int:=cond (ab|| !(eZ m d).2) (eZ m d).1 0
def H0 {X:bQ}:FK (X:=X):=fun args _=>match args with
 | [.agg [.int k1 _, .int k2 m, .int k3 d], .bool ab]=>cond (kEq k1 .i64&&(kEq k2 .i64&&kEq k3 .i64)) (some (true, .int .i64 (kO m d ab))) none
 |_=>none
end Go.Proofs.YtfhepbbkggdlcaaGreatDoor.Px


namespace Go.Proofs.YtfhepbbkggdlcaaGreatDoor.Px
open Go
def bO (h:Int):Bool:=decide (1≤h)&&decide (h≤100000)
def kv (h:Int):Bool:=decide (1≤h)&&decide (h≤99999)
def bg (h:Int):Int:=(235*h-234)/19
def aL (h:Int):Int:=5604+765433*bg h
def nV (h:Int):Int×Int:=(-1373427+aL h/25920,aL h%25920)
def dd (h:Int):Bool:=decide ((7*(h%19)+1)%19<7)
def EF (h:Int):Bool:=decide ((nV h).2≥19440)||(((nV h).1%7==2&&(decide ((nV h).2≥9924)&& !dd h))||((nV h).1%7==1&&(decide ((nV h).2≥16789)&&dd (h-1))))
def Kt (w n:Int):Int:=cond ((w+n)%7==0||((w+n)%7==3||(w+n)%7==5)) (n+1) n
def fv (h:Int):Int:=Kt ((nV h).1%7) (cond (EF h) 1 0)
def aP (h:Int):Int:=(nV h).1+fv h
def bu (h:Int):Int:=aP (h+1)-aP h
def fM (h:Int):Bool:=inB h 3762 9999
def db (h:Int):Int×Int:=cond (fM h) (aP h,0) (0,30)
def AY (h:Int):Int×Int:=cond (fM h) (bu h,0) (0,30)
def Dc (h m:Int):Bool:=(m==2&&(bu h).tmod 10==5)||((m==3&&(bu h).tmod 10 != 3)||(m==1||(m==5||(m==6||(m==8||(m==10||m==12))))))
def dI (h m:Int):Int:=cond (fM h&&(decide (1≤m)&&decide (m≤13))) (cond (m==6&& !dd h) 0 (cond (Dc h m) 30 29)) 0
def Fj (i:Nat):Bool:=(decide (bu (3762+i)=353)||(decide (bu (3762+i)=354)||(decide (bu (3762+i)=355)||(decide (bu (3762+i)=383)||(decide (bu (3762+i)=384)||decide (bu (3762+i)=385))))))&&(dd (3762+i)==decide (bu (3762+i)≥383))
def eX (f:Nat→Bool):Nat→Bool
 |0=>true
 |n+1=>cond (f n) (eX f n) false
end Go.Proofs.YtfhepbbkggdlcaaGreatDoor.Px


namespace Go.Proofs.YtfhepbbkggdlcaaGreatDoor.Px
open Go
theorem bX {f:Nat→Bool}:∀{n:Nat},eX f n=true→∀i,i<n→f i=true
 |0,_,i,h=>absurd h (Nat.not_lt_zero i)
 |n+1,h,i,hi=>by
  simp only[eX]at h
  cases hn:f n with
  |false=>rw[hn]at h;cases h
  |true=>
   rw[hn,XU]at h
   by_cases e:i=n
   ·rw[e,hn]
   ·exact bX h i (by omega)
theorem Nw:eX Fj 6238=true:=by kernel_rfl
def lens:List Int:=[353,354,355,383,384,385]
theorem ua {h:Int} (hr:fM h=true):bu h∈lens∧dd h=decide (383≤bu h):=by
 simp only[fM,inB,XR,XT]at hr
 have hf:=bX Nw (h-3762).toNat (by omega)
 have e:(3762:Int)+((h-3762).toNat:Int)=h:=by omega
 simp only[Fj,e,XR,Bool.or_eq_true,XT,beq_iff_eq]at hf
 exact⟨by simp only[lens,List.mem_cons,List.not_mem_nil,or_false];exact hf.1,hf.2⟩
theorem tF {h:Int} (hr:fM h=true):353≤bu h∧bu h≤385:=by
 have:=(ua hr).1
 simp only[lens,List.mem_cons,List.not_mem_nil,or_false]at this
 omega
end Go.Proofs.YtfhepbbkggdlcaaGreatDoor.Px


namespace Go.Proofs.YtfhepbbkggdlcaaGreatDoor.Px
open Go
theorem ff (h:Int):aP (h+1)=aP h+bu h:=by unfold bu;omega
theorem jD:aP 3762=249:=by kernel_rfl
theorem ly:aP 10000=2278651:=by kernel_rfl
theorem cu (h:Int):fM h=true↔3762≤h∧h≤9999:=by
 simp only[fM,inB,XR,XT]
theorem Ik {h:Int} (h1:3762≤h):∀k:Nat,h+k≤10000→aP h+353*(k:Int)≤aP (h+k)∧aP (h+k)≤aP h+385*(k:Int)
 |0,_=>by simp
 |k+1,hk=>by
  have hp:=Ik h1 k (by omega)
  have hl:=tF (h:=h+k) ((cu _).2 (by omega))
  have e:h+((k+1:Nat):Int)=h+k+1:=by omega
  rw[e,ff]
  omega
theorem gV {a b:Int} (h1:3762≤a) (h2:a≤b) (h3:b≤10000):aP a+353*(b-a)≤aP b∧aP b≤aP a+385*(b-a):=by
 have:=Ik h1 (b-a).toNat (by omega)
 have e:a+((b-a).toNat:Int)=b:=by omega
 rw[e]at this
 omega
def cT (n:Int):Nat→Int→Int
 |0,h=>h
 |k+1,h=>cond (decide (n<aP (h+1))) h (cT n k (h+1))
def fa (n:Int):Nat→Int→Bool
 |0,_=>false
 |k+1,h=>fM h&&(decide (n<aP (h+1))||fa n k (h+1))
def inH (n:Int):Bool:=decide (249≤n)&&decide (n<2278651)
def od (n:Int):Int:=3762+(n-249).tdiv 386
def aZ (n:Int):Int:=cT n 600 (od n)
theorem Mp {n y:Int} (hy:fM y=true) (y1:aP y≤n) (y2:n<aP (y+1)):∀(k:Nat) (h:Int),3762≤h→h≤y→y-h<k→cT n k h=y∧fa n k h=true
 |0,h,_,h2,h3=>by omega
 |k+1,h,h1,h2,h3=>by
  have hr:=(cu y).1 hy
  have hh:fM h=true:=(cu h).2 (by omega)
  unfold cT fa
  rw[hh]
  by_cases e:h=y
  ·subst e
   rw[decide_eq_true y2]
   exact⟨rfl,rfl⟩
  ·have hm:=gV (a:=h+1) (b:=y) (by omega) (by omega) (by omega)
   rw[decide_eq_false (by omega:¬n<aP (h+1))]
   exact Mp hy y1 y2 k (h+1) (by omega) (by omega) (by omega)
theorem IG (f:Int→Int) {n a:Int} (h1:f a≤n):∀k:Nat,n<f (a+(k:Int))→∃i:Nat,i<k∧f (a+(i:Int))≤n∧n<f (a+(i:Int)+1)
 |0,h=>by rw[show a+((0:Nat):Int)=a by omega]at h;omega
 |k+1,h=>by
  by_cases hb:f (a+(k:Int))≤n
  ·refine⟨k,by omega,hb,?_⟩
   rw[show a+(k:Int)+1=a+((k+1:Nat):Int) by omega]
   exact h
  ·obtain⟨i,i1,i2⟩:=IG f h1 k (by omega)
   exact⟨i,by omega,i2⟩
theorem Ph {n:Int} (h1:249≤n) (h2:n<2278651):∃y,fM y=true∧aP y≤n∧n<aP (y+1):=by
 obtain⟨i,i1,i2⟩:=IG aP (a:=3762) (n:=n) (by rw[jD];exact h1) 6238 (by rw[show(3762:Int)+((6238:Nat):Int)=10000 by omega,ly];exact h2)
 exact⟨3762+(i:Int),(cu _).2 (by omega),i2⟩
theorem jv {n:Int} (hn:inH n=true):fM (aZ n)=true∧aP (aZ n)≤n∧n<aP (aZ n+1)∧fa n 600 (od n)=true∧od n=3762+(n-249)/386∧3762≤od n∧od n≤aZ n:=by
 simp only[inH,XR,XT]at hn
 obtain⟨y,y0,y1,y2⟩:=Ph hn.1 hn.2
 have e:od n=3762+(n-249)/386:=by unfold od;rw[Int.tdiv_eq_ediv_of_nonneg (by omega)]
 have hr:=(cu y).1 y0
 have hm:=gV (a:=3762) (b:=y+1) (by omega) (by omega) (by omega)
 have hm2:=gV (a:=3762) (b:=y) (by omega) (by omega) (by omega)
 rw[jD]at hm hm2
 have hf:3762≤od n∧od n≤y∧y-od n<600:=by rw[e];omega
 obtain⟨g1,g2⟩:=Mp y0 y1 y2 600 (od n) hf.1 hf.2.1 (by omega)
 unfold aZ
 rw[g1]
 exact⟨y0,y1,y2,g2,e,hf.1,hf.2.1⟩
theorem pJ {n y:Int} (hy:fM y=true) (y1:aP y≤n) (y2:n<aP (y+1)):aZ n=y:=by
 have hr:=(cu y).1 hy
 have hi:inH n=true:=by
  have a:=gV (a:=3762) (b:=y) (by omega) (by omega) (by omega)
  have b:=gV (a:=y+1) (b:=10000) (by omega) (by omega) (by omega)
  rw[jD]at a
  rw[ly]at b
  simp only[inH,XR,XT]
  omega
 obtain⟨h0,h1,h2,_⟩:=jv hi
 have hq:=(cu _).1 h0
 rcases Int.lt_trichotomy (aZ n) y with h|h|h
 ·have:=gV (a:=aZ n+1) (b:=y) (by omega) (by omega) (by omega);omega
 ·exact h
 ·have:=gV (a:=y+1) (b:=aZ n) (by omega) (by omega) (by omega);omega
end Go.Proofs.YtfhepbbkggdlcaaGreatDoor.Px


namespace Go.Proofs.YtfhepbbkggdlcaaGreatDoor.Px
open Go
def ef (n h:Int):Nat→Int→Int→Int→Int→Bool×Int×Int×Int
 |0,_,f,mo,da=>(false,mo,da,f)
 |k+1,m,f,mo,da=>cond (decide (n<f)) (true,mo,da,f) (cond (decide (dI h m>0)) (ef n h k (m+1) (f+dI h m) m (n-f+1)) (ef n h k (m+1) (f+dI h m) mo da))
def EU (n h h' m f:Int):Bool:=h==h'&&(inH n&&(decide (1≤m)&&(decide (m≤14)&&(decide (0≤f)&&decide (f≤3000000+30*m)))))
def Vf:n9:=⟨0,0,0⟩
def ez (n:Int):n9:=⟨aZ n,(ef n (aZ n) 13 1 (aP (aZ n)) 0 0).2.1,(ef n (aZ n) 13 1 (aP (aZ n)) 0 0).2.2.1⟩
def A6 (n:Int):n9×Int:=cond (inH n) (ez n,0) (Vf,41)
def lv (n:Int) (ab:Bool):Int:=kO (ez n).month (ez n).day ab
def e9 (n:Int) (ab:Bool):Int:=cond (inH n) (lv n ab) 0
def bb (n:Int) (ab:Bool):Bool:=inH n&&(n%7==6||lv n ab != 0)
def bJ (b:Int) (ab:Bool):Nat→Int→Int
 |0,n=>n
 |k+1,n=>cond (bb (n+b) ab) (bJ b ab k (n+b)) n
def cr (b:Int) (ab:Bool):Nat→Int→Bool
 |0,_=>false
 |k+1,n=> !bb (n+b) ab||cr b ab k (n+b)
def kY (b:Int) (ab:Bool) (n:Int):Bool:=(b==1||b== -1)&&(inH n&&cr b ab 10 n)
def NF (n:Int) (ab:Bool):Int×Int×Int:=cond (bb n ab) (bJ (-1) ab 10 n,bJ 1 ab 10 n,0) (0,0,51)
def nO (d:Date) (s:Sun):Int:=cP (gH s) (d.month-1).toNat+(cP (gH s) (d.month%12).toNat-cP (gH s) (d.month-1).toNat)*(d.day-1)/ai d.year d.month
def AB (s:Sun) (n:Int):Int×Int:=cond (ax s != 0) (0,ax s) (cond (dt n) (nO (ofG n).1 s,0) (0,72))
def iM (z:bc) (s:Sun) (n:Int):Int×Int:=cond (ao z != 0) (0,ao z) (cond (ax s != 0) (0,ax s) (cond (inB n 401 3651998) (n*1440+nO (ofG n).1 s-z.base,0) (0,72)))
def cI (_:Unit) (c:Config) (w:ag) (d:Int):Bool:=af c==0&&(ak w==0&&dw d)
def tZ (_:Unit) (c:Config) (w:ag) (d:Int):Int×Int×Bool:=vM c w d (w.arg==d)
def x5 (_:Unit) (c:Config) (w:ag) (d:Int):Int×Int×Bool:=vM c w d (e9 (d-w.shift) c.bt==w.arg)
def a6 (_:Unit) (c:Config) (w:ag) (d:Int):Int×Int×Bool:=cond (bb (d+1) c.bt&& !bb d c.bt)
 ((iM c.aK c.sun d).1-w.minute,(iM c.aK c.sun (bJ 1 c.bt 10 (d+1))).1+w.len,true) (0,0,false)
def PQ (w:ag):Bool:=w.kind==2
def RT (w:ag):Bool:=w.kind==3
def RD (w:ag):Bool:= !(w.kind==1||(w.kind==2||w.kind==3))
def opens (c:Config) (w:ag) (d:Int):Int×Int×Bool:=cond (w.kind==1) (yx () c w d) (cond (w.kind==2) (tZ () c w d) (cond (w.kind==3) (x5 () c w d) (a6 () c w d)))
def C7:Span:=⟨0,0,0,0⟩
def lh (c:Config) (w:ag) (d:Int):Int:=orE (af c) (orE (ak w) (dF (dw d) 140))
def bw (c:Config) (w:ag) (d:Int):Span×Bool×Int:=cond (lh c w d != 0) (C7,false,lh c w d)
 (cond (opens c w d).2.2 (⟨(opens c w d).1,(opens c w d).2.1,w.mode,w.prio⟩,true,0) (C7,false,0))
def Dn (c:Config) (_:ag) (_:Int):Bool:=aX c
def eAt {X:bQ} (c:Cfg (X:=X)) (n:Nat):FK (X:=X):=match look c.E n with
 |some e=>e
 |none=>fun _ _=>none
theorem F2 {X:bQ} {P:Program} {G:World→Prop} {c:Cfg (X:=X)} {n:Nat} (hp:Prog P G c) (h:∃e,look c.E n=some e):nM P G n (eAt c n):=by
 obtain⟨e,he⟩:=h
 unfold eAt
 rw[he]
 exact hp.calls n e he
def RX {X:bQ} (c1 c2 c3 c4:FK (X:=X)):FK (X:=X):=fun args s=>match args with
 | [.agg (.int k p::l)]=>match p with
  | .ofNat 1=>c1 [.agg (.int k p::l)] s
  | .ofNat 2=>c2 [.agg (.int k p::l)] s
  | .ofNat 3=>c3 [.agg (.int k p::l)] s
  |_=>c4 [.agg (.int k p::l)] s
 |_=>none
theorem UW {X:bQ} {P:Program} {G:World→Prop} {n:Nat} {c1 c2 c3 c4:FK (X:=X)} (h1:nM P G n c1) (h2:nM P G n c2) (h3:nM P G n c3) (h4:nM P G n c4):nM P G n (RX c1 c2 c3 c4):=by
 refine⟨h1.1,fun args hp ok v hc=>?_⟩
 unfold RX at hc
 split at hc
 ·split at hc
  ·exact h1.2 _ _ _ _ hc
  ·exact h2.2 _ _ _ _ hc
  ·exact h3.2 _ _ _ _ hc
  ·exact h4.2 _ _ _ _ hc
 ·cases hc
end Go.Proofs.YtfhepbbkggdlcaaGreatDoor.Px


namespace Go.Proofs.YtfhepbbkggdlcaaGreatDoor.Px
open Go
def Uu (L m:Int):Bool:=(m==2&&L.tmod 10==5)||((m==3&&L.tmod 10 != 3)||(m==1||(m==5||(m==6||(m==8||(m==10||m==12))))))
def lV (L m:Int):Int:=cond (decide (1≤m)&&decide (m≤13)) (cond (m==6&& !decide (383≤L)) 0 (cond (Uu L m) 30 29)) 0
def Dv (L:Int):Nat→Int→Int→Int→Int→Int×Int
 |0,_,_,mo,da=>(mo,da)
 |k+1,m,o,mo,da=>cond (decide (o<0)) (mo,da) (cond (decide (lV L m>0)) (Dv L k (m+1) (o-lV L m) m (o+1)) (Dv L k (m+1) (o-lV L m) mo da))
theorem rC {h:Int} (hr:fM h=true) (m:Int):dI h m=lV (bu h) m:=by
 unfold dI lV Dc Uu
 rw[hr,(ua hr).2,Bool.true_and]
theorem MH {h:Int} (hr:fM h=true) (n:Int):∀(k:Nat) (m f mo da:Int),(ef n h k m f mo da).2.1=(Dv (bu h) k m (n-f) mo da).1∧(ef n h k m f mo da).2.2.1=(Dv (bu h) k m (n-f) mo da).2:=by
 intro k
 induction k with
 |zero=>intro m f mo da;exact⟨rfl,rfl⟩
 |succ k ih=>
  intro m f mo da
  unfold ef Dv
  rw[←rC hr,show decide (n-f<0)=decide (n<f) by rw[Bool.eq_iff_iff];simp;omega]
  have e:n-f-dI h m=n-(f+dI h m):=by omega
  rw[e]
  cases decide (n<f)
  ·cases decide (dI h m>0)
   ·exact ih _ _ _ _
   ·exact ih _ _ _ _
  ·exact⟨rfl,rfl⟩
def feL (L:Int) (o:Nat):Bool:=kO (Dv L 13 1 (o:Int) 0 0).1 (Dv L 13 1 (o:Int) 0 0).2 true != 0
def feN (L:Int) (o:Nat):Bool:=cond (decide ((o:Int)<L)) (feL L o) (decide ((o:Int)<L+2))
def IW (L:Int) (o:Nat):Bool:= !((feN L o&&(feN L (o+1)&&feN L (o+2)))||((feN L o&&(feN L (o+1)&&feN L (o+3)))||((feN L o&&(feN L (o+2)&&feN L (o+3)))||(feN L (o+1)&&(feN L (o+2)&&feN L (o+3))))))
theorem TU:eX (IW 353) 353=true:=by kernel_rfl
theorem T0:eX (IW 354) 354=true:=by kernel_rfl
theorem T4:eX (IW 355) 355=true:=by kernel_rfl
theorem TQ:eX (IW 383) 383=true:=by kernel_rfl
theorem SN:eX (IW 384) 384=true:=by kernel_rfl
theorem Uc:eX (IW 385) 385=true:=by kernel_rfl
theorem Tl:feL 353 2=false∧feL 354 2=false∧feL 355 2=false∧feL 383 2=false∧feL 384 2=false∧feL 385 2=false:=⟨by kernel_rfl,by kernel_rfl,by kernel_rfl,by kernel_rfl,by kernel_rfl,by kernel_rfl⟩
theorem Um {L:Int} (h:L∈lens) {o:Nat} (ho:(o:Int)<L):IW L o=true:=by
 simp only[lens,List.mem_cons,List.not_mem_nil,or_false]at h
 rcases h with rfl|rfl|rfl|rfl|rfl|rfl
 ·exact bX TU o (by omega)
 ·exact bX T0 o (by omega)
 ·exact bX T4 o (by omega)
 ·exact bX TQ o (by omega)
 ·exact bX SN o (by omega)
 ·exact bX Uc o (by omega)
theorem Tn {L:Int} (h:L∈lens):feL L 2=false:=by
 simp only[lens,List.mem_cons,List.not_mem_nil,or_false]at h
 obtain⟨a,b,c,d,e,f⟩:=Tl
 rcases h with rfl|rfl|rfl|rfl|rfl|rfl<;>assumption
theorem JJ (m d:Int) (ab:Bool) (h:kO m d ab≠0):kO m d true≠0:=by
 unfold kO at h⊢
 cases ab with
 |true=>exact h
 |false=>
  cases hb:(eZ m d).2 with
  |true=>rw[hb]at h;exact absurd rfl h
  |false=>rw[hb]at h;exact h
theorem Rk {n:Int} {ab:Bool} (hi:inH n=true) (h:lv n ab≠0):feL (bu (aZ n)) (n-aP (aZ n)).toNat=true:=by
 obtain⟨y0,y1,y2,_⟩:=jv hi
 have hd:=MH y0 n 13 1 (aP (aZ n)) 0 0
 have h':=JJ _ _ _ h
 unfold ez at h'
 dsimp only at h'
 rw[hd.1,hd.2]at h'
 unfold feL
 rw[show(((n-aP (aZ n)).toNat:Nat):Int)=n-aP (aZ n) by omega]
 exact bne_iff_ne.2 h'
theorem Li {n:Int} {ab:Bool} {y:Int} (hy:fM y=true) (h1:aP y≤n) (h2:n≤aP (y+1)+2) (hi:inH n=true) (h:lv n ab≠0):feN (bu y) (n-aP y).toNat=true:=by
 have hf:=Rk hi h
 have hr:=(cu y).1 hy
 have hn:=ff y
 unfold feN
 have e:(((n-aP y).toNat:Nat):Int)=n-aP y:=by omega
 rw[e]
 by_cases hc:n<aP (y+1)
 ·rw[pJ hy h1 hc]at hf
  rw[decide_eq_true (by omega),hf]
  rfl
 ·rw[decide_eq_false (by omega),XV]
  have hb:n<2278651:=by
   simp only[inH,XR,XT]at hi
   exact hi.2
  have hl:y+1≤9999:=by
   by_cases hq:y+1≤9999
   ·exact hq
   ·have:y+1=10000:=by omega
    rw[this,ly]at hc
    omega
  have hy1:fM (y+1)=true:=(cu _).2 (by omega)
  have hlen:=tF hy1
  have hn2:=ff (y+1)
  have he:aZ n=y+1:=pJ hy1 (by omega) (by omega)
  rw[he]at hf
  rcases(show n=aP (y+1)+2∨n-aP y<bu y+2 by omega)with h3|h3
  ·rw[h3,show(aP (y+1)+2-aP (y+1)).toNat=2 by omega,Tn (ua hy1).1]at hf
   cases hf
  ·exact decide_eq_true h3
theorem n8 (n:Int) (ab:Bool):bb n ab=true↔inH n=true∧(n%7=6∨lv n ab≠0):=by
 simp only[bb,XR,Bool.or_eq_true,beq_iff_eq,bne_iff_ne]
theorem QV {n:Int} {ab:Bool} (h0:bb n ab=true) (h1:bb (n+1) ab=true) (h2:bb (n+2) ab=true) (h3:bb (n+3) ab=true):False:=by
 rw[n8]at h0 h1 h2 h3
 obtain⟨y0,y1,y2,_⟩:=jv h0.1
 generalize aZ n=y at*
 have hn:=ff y
 have hw:=Um (ua y0).1 (o:=(n-aP y).toNat) (by omega)
 have f:∀j:Nat,j≤3→inH (n+(j:Int))=true→lv (n+(j:Int)) ab≠0→feN (bu y) ((n-aP y).toNat+j)=true:=by
  intro j hj hi hf
  have:=Li y0 (by omega) (by omega) hi hf
  rw[show(n+(j:Int)-aP y).toNat=(n-aP y).toNat+j by omega]at this
  exact this
 have f0:=f 0 (by omega)
 have f1:=f 1 (by omega)
 have f2:=f 2 (by omega)
 have f3:=f 3 (by omega)
 simp only[Int.natCast_zero,Int.add_zero,Nat.add_zero]at f0
 have e0:=f0 h0.1
 have e1:=f1 h1.1
 have e2:=f2 h2.1
 have e3:=f3 h3.1
 unfold IW at hw
 have g0:n%7=6∨feN (bu y) (n-aP y).toNat=true:=h0.2.imp id e0
 have g1:(n+1)%7=6∨feN (bu y) ((n-aP y).toNat+1)=true:=h1.2.imp id e1
 have g2:(n+2)%7=6∨feN (bu y) ((n-aP y).toNat+2)=true:=h2.2.imp id e2
 have g3:(n+3)%7=6∨feN (bu y) ((n-aP y).toNat+3)=true:=h3.2.imp id e3
 clear f f0 f1 f2 f3 e0 e1 e2 e3 h0 h1 h2 h3 hn
 generalize feN (bu y) (n-aP y).toNat=b0 at*
 generalize feN (bu y) ((n-aP y).toNat+1)=b1 at*
 generalize feN (bu y) ((n-aP y).toNat+2)=b2 at*
 generalize feN (bu y) ((n-aP y).toNat+3)=b3 at*
 cases b0<;>cases b1<;>cases b2<;>cases b3<;>simp at hw g0 g1 g2 g3<;>omega
theorem ET {n:Int} {ab:Bool} (h:bb n ab=true):cr 1 ab 10 n=true∧cr (-1) ab 10 n=true:=by
 constructor
 ·cases h1:bb (n+1) ab
  ·simp[cr,h1]
  ·cases h2:bb (n+1+1) ab
   ·simp[cr,h1,h2]
   ·cases h3:bb (n+1+1+1) ab
    ·simp[cr,h1,h2,h3]
    ·exact(QV h h1 (by rw[show n+2=n+1+1 by omega];exact h2) (by rw[show n+3=n+1+1+1 by omega];exact h3)).elim
 ·cases h1:bb (n+ -1) ab
  ·simp[cr,h1]
  ·cases h2:bb (n+ -1+ -1) ab
   ·simp[cr,h1,h2]
   ·cases h3:bb (n+ -1+ -1+ -1) ab
    ·simp[cr,h1,h2,h3]
    ·exact(QV (n:=n-3) (by rw[show n-3=n+ -1+ -1+ -1 by omega];exact h3) (by rw[show n-3+1=n+ -1+ -1 by omega];exact h2) (by rw[show n-3+2=n+ -1 by omega];exact h1) (by rw[show n-3+3=n by omega];exact h)).elim
theorem QF {n:Int} {ab:Bool} (h:bb n ab=true):kY 1 ab n=true∧kY (-1) ab n=true:=by
 have hi:=((n8 n ab).1 h).1
 have hr:=ET h
 unfold kY
 rw[hi,hr.1,hr.2]
 exact⟨rfl,rfl⟩
theorem MB {ab:Bool}:∀(k:Nat) (n:Int),cr 1 ab k n=true→∃j:Nat,bJ 1 ab k n=n+(j:Int)∧(∀i:Nat,1≤i→i≤j→bb (n+(i:Int)) ab=true)∧bb (n+(j:Int)+1) ab=false
 |0,n,h=>by cases h
 |k+1,n,h=>by
  simp only[cr,Bool.or_eq_true,Bool.not_eq_true']at h
  unfold bJ
  cases hr:bb (n+1) ab with
  |false=>exact⟨0,by simp,fun i h1 h2=>by omega,by simpa using hr⟩
  |true=>
   rw[hr]at h
   obtain⟨j,j1,j2,j3⟩:=MB k (n+1) (h.resolve_left (by simp))
   refine⟨j+1,by rw[XU,j1];omega,fun i h1 h2=>?_,by rw[show n+((j+1:Nat):Int)+1=n+1+(j:Int)+1 by omega];exact j3⟩
   by_cases hi:i=1
   ·subst hi;exact hr
   ·have:=j2 (i-1) (by omega) (by omega)
    rw[show n+1+((i-1:Nat):Int)=n+(i:Int) by omega]at this
    exact this
theorem CJ {n:Int} {ab:Bool} (h:bb n ab=true):n≤bJ 1 ab 10 n∧bJ 1 ab 10 n≤n+2∧bb (bJ 1 ab 10 n+1) ab=false∧∀m,n≤m→m≤bJ 1 ab 10 n→bb m ab=true:=by
 obtain⟨j,j1,j2,j3⟩:=MB 10 n (ET h).1
 have hj:j≤2:=by
  by_cases hj:j≤2
  ·exact hj
  ·exact(QV h (j2 1 (by omega) (by omega)) (j2 2 (by omega) (by omega)) (j2 3 (by omega) (by omega))).elim
 rw[j1]
 refine⟨by omega,by omega,j3,fun m h1 h2=>?_⟩
 by_cases hm:m=n
 ·rw[hm];exact h
 ·have:=j2 (m-n).toNat (by omega) (by omega)
  rw[show n+(((m-n).toNat:Nat):Int)=m by omega]at this
  exact this
end Go.Proofs.YtfhepbbkggdlcaaGreatDoor.Px


namespace Go.Proofs.YtfhepbbkggdlcaaGreatDoor.Px
open Go
theorem QB {y left:Int}:∀(k m:Nat),1≤m→m+k=12→aE y (m-1)≤left→left<aE y 12→m≤oC y left m k∧oC y left m k≤12∧aE y (oC y left m k-1)≤left∧left<aE y (oC y left m k)
 |0,m,h1,h2,h3,h4=>by
  have:m=12:=by omega
  subst this
  exact⟨Nat.le_refl _,Nat.le_refl _,h3,h4⟩
 |k+1,m,h1,h2,h3,h4=>by
  unfold oC
  by_cases hc:left<aE y m
  ·rw[decide_eq_true hc]
   exact⟨Nat.le_refl _,by rw[XU];omega,h3,hc⟩
  ·rw[decide_eq_false hc,XV]
   obtain⟨a,b,c,d⟩:=QB k (m+1) (by omega) (by omega) (by rw[Nat.add_sub_cancel];omega) h4
   exact⟨by omega,b,c,d⟩
theorem BK {n:Int} (h:dt n=true):(1≤(ofG n).1.month∧(ofG n).1.month≤12)∧(1≤(ofG n).1.day∧(ofG n).1.day≤ai (ofG n).1.year (ofG n).1.month)∧(ofG n).2=0∧ai (ofG n).1.year (ofG n).1.month≤31:=by
 obtain⟨h1,h2⟩:=c8.1 h
 obtain⟨y1,y2,l1,l2,e1,e2⟩:=nn h1 h2
 have hs:=IE y1 y2
 have hl:=j0 y1
 obtain⟨a,b,c,d⟩:=QB (y:=yrG n) (left:=lfG n) 11 1 (by omega) (by omega) (by simp only[Nat.sub_self,aE];omega) (by rw[hs];omega)
 have hc:(decide (n<1)||decide (n>3652059))=false:=by simp;omega
 have e:ofG n=(⟨yrG n,((oG n:Nat):Int),lfG n-aE (yrG n) (oG n-1)+1⟩,0):=by
  unfold ofG
  rw[hc]
  rfl
 rw[e]
 dsimp only
 have hm:oC (yrG n) (lfG n) 1 11=oG n:=rfl
 rw[hm]at a b c d
 have hsum:aE (yrG n) (oG n)=aE (yrG n) (oG n-1)+ai (yrG n) ((oG n:Nat):Int):=by
  obtain⟨j,hj⟩:∃j,oG n=j+1:=⟨oG n-1,by omega⟩
  rw[hj]
  simp only[aE,Nat.add_sub_cancel]
  rfl
 have hd:=dm (yrG n) ((oG n:Nat):Int)
 exact⟨⟨by omega,by omega⟩,⟨by omega,by omega⟩,rfl,hd.2.1⟩
theorem MC {p:Int→Bool}:∀{l:List Int} {k:Nat},l.all p=true→k<l.length→p (cP l k)=true
 |x::l,0,h,_=>by simp only[List.all_cons,XR]at h;exact h.1
 |x::l,k+1,h,hk=>by
  simp only[List.all_cons,XR]at h
  exact MC (l:=l) h.2 (by simpa using hk)
theorem gT {s:Sun} (h:ax s=0) {k:Nat} (hk:k<12):900≤cP (gH s) k∧cP (gH s) k≤1320:=by
 have ha:((gH s).all fun n=>inB n 900 1320)=true:=by
  unfold ax at h
  cases ha:((gH s).all fun n=>inB n 900 1320)with
  |true=>rfl
  |false=>rw[ha,XV]at h;cases h
 exact bG.1 (MC ha hk)
theorem rB {a b x d:Int} (hd:0<d) (h1:0≤x) (h2:x<d):(0≤b-a→0≤(b-a)*x/d∧(b-a)*x/d≤b-a)∧(b-a≤0→b-a≤(b-a)*x/d∧(b-a)*x/d≤0):=by
 generalize b-a=q
 refine⟨fun hq=>?_,fun hq=>?_⟩
 ·refine⟨Int.ediv_nonneg (Int.mul_nonneg hq h1) (by omega),?_⟩
  exact Int.ediv_le_of_le_mul hd (Int.mul_le_mul_of_nonneg_left (by omega) hq)
 ·constructor
  ·apply Int.le_ediv_of_mul_le hd
   exact Int.mul_le_mul_of_nonpos_left hq (by omega)
  ·have h0:q*x≤0:=Int.mul_nonpos_of_nonpos_of_nonneg hq h1
   have:=Int.ediv_le_ediv hd h0
   rw[Int.zero_ediv]at this
   exact this
theorem nZ {s:Sun} {n:Int} (hs:ax s=0) (hn:dt n=true):900≤nO (ofG n).1 s∧nO (ofG n).1 s≤1320:=by
 obtain⟨⟨m1,m2⟩,⟨d1,d2⟩,_,_⟩:=BK hn
 unfold nO
 have ha:=gT hs (k:=((ofG n).1.month-1).toNat) (by omega)
 have hb:=gT hs (k:=((ofG n).1.month%12).toNat) (by omega)
 have hv:=rB (a:=cP (gH s) ((ofG n).1.month-1).toNat) (b:=cP (gH s) ((ofG n).1.month%12).toNat) (x:=(ofG n).1.day-1) (d:=ai (ofG n).1.year (ofG n).1.month) (by omega) (by omega) (by omega)
 generalize (cP (gH s) ((ofG n).1.month%12).toNat-cP (gH s) ((ofG n).1.month-1).toNat)*((ofG n).1.day-1)/ai (ofG n).1.year (ofG n).1.month=v at*
 omega
theorem fc {w:ag} (h:ak w=0):(w.kind=1∨w.kind=2∨w.kind=3∨w.kind=4)∧(w.kind=4→(0≤w.minute∧w.minute≤180)∧(0≤w.len∧w.len≤180))∧(w.kind≠4→(0≤w.minute∧w.minute≤1439)∧(1≤w.len∧w.len≤10080))∧(-7≤w.shift∧w.shift≤7):=by
 have hb:bl w=true:=by
  unfold ak dF at h
  cases hb:bl w with
  |true=>rfl
  |false=>rw[hb]at h;cases h
 unfold bl kC at hb
 simp only[XR]at hb
 obtain⟨_,hb⟩:=hb
 cases k1:w.kind==1 with
 |true=>
  have:=beq_iff_eq.1 k1
  rw[k1,XU]at hb
  simp only[XR,bG,beq_iff_eq]at hb
  exact⟨.inl this,fun e=>by omega,fun _=>hb.1.1,by omega⟩
 |false=>
  rw[k1,XV]at hb
  cases k2:w.kind==2 with
  |true=>
   have:=beq_iff_eq.1 k2
   rw[k2,XU]at hb
   simp only[XR,bG,beq_iff_eq]at hb
   exact⟨.inr (.inl this),fun e=>by omega,fun _=>hb.1.1,by omega⟩
  |false=>
   rw[k2,XV]at hb
   cases k3:w.kind==3 with
   |true=>
    have:=beq_iff_eq.1 k3
    rw[k3,XU]at hb
    simp only[XR,bG,beq_iff_eq]at hb
    exact⟨.inr (.inr (.inl this)),fun e=>by omega,fun _=>hb.1.1,by omega⟩
   |false=>
    rw[k3,XV]at hb
    simp only[XR,bG,beq_iff_eq]at hb
    exact⟨.inr (.inr (.inr hb.1.1.1.1)),fun _=>⟨hb.1.2,hb.2⟩,fun e=>absurd hb.1.1.1.1 e,by omega⟩
theorem iR (d:Int):dw d=true↔402≤d∧d≤3651990:=by
 unfold dw
 cases h:decide (402≤d)with
 |true=>rw[XU,XT];simp at h;omega
 |false=>simp at h;simp;omega
theorem cW {c:Config} (h:af c=0):ao c.aK=0∧ax c.sun=0:=by
 unfold af orE at h
 cases h1:cF c==0
 ·rw[h1]at h;simp only[XV]at h;rw[h]at h1;cases h1
 rw[h1,XU]at h
 cases h2:cA c==0
 ·rw[h2]at h;simp only[XV]at h;rw[h]at h2;cases h2
 rw[h2,XU]at h
 cases h3:bZ c==0
 ·rw[h3]at h;simp only[XV]at h;rw[h]at h3;cases h3
 rw[h3,XU]at h
 cases h4:ao c.aK==0
 ·rw[h4]at h;simp only[XV]at h;rw[h]at h4;cases h4
 rw[h4,XU]at h
 cases h5:ax c.sun==0
 ·rw[h5]at h;simp only[XV]at h;rw[h]at h5;cases h5
 exact⟨beq_iff_eq.1 h4,beq_iff_eq.1 h5⟩
theorem Vs {z:bc} {d m:Int} (hz:ao z=0) (hd:dw d=true) (hm:0≤m∧m≤1439):(cM z d m).2=0∧500000≤(cM z d m).1∧(cM z d m).1≤6000000000:=by
 have ho:gW d m=true:=by unfold gW;rw[hd];simp;omega
 have ht:=B0 ho
 have hr:=FV hz ht
 have hw:=kf (gq z) 200 (d*1440+m)
 have hf:=sd hr
 have hd':=(iR d).1 hd
 obtain⟨z1,z2,_⟩:=bR hz
 have hrow:=(ry (t:=br (gq z) 200 (d*1440+m)) hz (by omega) (by omega)).2
 have e:cM z d m=(pK (gq z) 200 (d*1440+m),0):=by
  unfold cM
  rw[hz,ho]
  rfl
 rw[e]
 refine⟨rfl,?_⟩
 dsimp only
 unfold pK
 generalize br (gq z) 200 (d*1440+m)=t at*
 rw[hrow]at hf⊢
 cases h1:(decide (z.shift>0)&&decide (bK z (t-z.base-z.shift)>0))<;>cases h2:bK z (t-z.base)==0<;>rw[h1,h2]at hf<;>simp at hf⊢ <;>omega
theorem ud {z:bc} {s:Sun} {n:Int} (hz:ao z=0) (hs:ax s=0) (h1:401≤n) (h2:n≤3651998):∃m:Int,iM z s n=(n*1440+m-z.base,0)∧900≤m∧m≤1320:=by
 refine⟨nO (ofG n).1 s,?_,nZ hs (c8.2 (by omega))⟩
 unfold iM
 rw[hz,hs,yk h1 h2]
 rfl
theorem Df (c:Config) (w:ag) (d:Int):(lh c w d≠0∧bw c w d=(C7,false,lh c w d))∨((af c=0∧ak w=0∧dw d=true)∧bw c w d=cond (opens c w d).2.2 (⟨(opens c w d).1,(opens c w d).2.1,w.mode,w.prio⟩,true,0) (C7,false,0)):=by
 unfold bw
 cases he:lh c w d != 0 with
 |true=>exact .inl ⟨by simpa using he,rfl⟩
 |false=>
  refine .inr ⟨?_,rfl⟩
  have h:lh c w d=0:=by simpa using he
  unfold lh orE at h
  cases h1:af c==0
  ·rw[h1]at h;simp only[XV]at h;rw[h]at h1;cases h1
  rw[h1,XU]at h
  cases h2:ak w==0
  ·rw[h2]at h;simp only[XV]at h;rw[h]at h2;cases h2
  rw[h2,XU]at h
  refine⟨beq_iff_eq.1 h1,beq_iff_eq.1 h2,?_⟩
  cases h3:dw d with
  |true=>rfl
  |false=>rw[h3]at h;cases h
theorem Nv {c:Config} {w:ag} {d:Int} (hk:w.kind=4) (hc:af c=0) (hw:ak w=0) (hd:dw d=true):
  (opens c w d).2.2=(bb (d+1) c.bt&& !bb d c.bt)∧((opens c w d).2.2=true→∃L m n:Int,L=bJ 1 c.bt 10 (d+1)∧(d+1≤L∧L≤d+3)∧(900≤m∧m≤1320)∧(900≤n∧n≤1320)∧(0≤w.minute∧w.minute≤180)∧(0≤w.len∧w.len≤180)∧
   (opens c w d).1=d*1440+m-c.aK.base-w.minute∧(opens c w d).2.1=L*1440+n-c.aK.base+w.len):=by
 obtain⟨hz,hs⟩:=cW hc
 obtain⟨_,hf,_⟩:=fc hw
 obtain⟨f1,f2⟩:=hf hk
 have hd':=(iR d).1 hd
 have eo:opens c w d=a6 () c w d:=by
  unfold opens
  rw[hk]
  rfl
 rw[eo]
 unfold a6
 cases hb:(bb (d+1) c.bt&& !bb d c.bt)with
 |false=>exact⟨rfl,fun h=>by cases h⟩
 |true=>
  refine⟨rfl,fun _=>?_⟩
  simp only[XR,Bool.not_eq_true']at hb
  obtain⟨l1,l2,_,_⟩:=CJ hb.1
  obtain⟨m,m1,m2⟩:=ud (n:=d) hz hs (by omega) (by omega)
  obtain⟨n,n1,n2⟩:=ud (n:=bJ 1 c.bt 10 (d+1)) hz hs (by omega) (by omega)
  refine⟨_,m,n,rfl,⟨l1,by omega⟩,m2,n2,f1,f2,?_,?_⟩
  ·rw[m1];rfl
  ·rw[n1];rfl
theorem Ci {c:Config} {w:ag} {d:Int} (hk:w.kind≠4) (hc:af c=0) (hw:ak w=0) (hd:dw d=true):
  (cM c.aK d w.minute).2=0∧(500000≤(cM c.aK d w.minute).1∧(cM c.aK d w.minute).1≤6000000000)∧(1≤w.len∧w.len≤10080)∧(opens c w d).1=(cM c.aK d w.minute).1∧(opens c w d).2.1=(cM c.aK d w.minute).1+w.len:=by
 obtain⟨hz,hs⟩:=cW hc
 obtain⟨hkk,_,hf,_⟩:=fc hw
 obtain⟨f1,f2⟩:=hf hk
 obtain⟨m1,m2,m3⟩:=Vs hz hd f1
 refine⟨m1,⟨m2,m3⟩,f2,?_⟩
 have e:∀b,vM c w d b=((cM c.aK d w.minute).1,(cM c.aK d w.minute).1+w.len,b):=by
  intro b
  unfold vM
  rw[wrI (by omega)]
 unfold opens yx tZ x5
 rw[e,e,e]
 rcases hkk with h|h|h|h
 ·rw[h];exact⟨rfl,rfl⟩
 ·rw[h];exact⟨rfl,rfl⟩
 ·rw[h];exact⟨rfl,rfl⟩
 ·exact absurd h hk
end Go.Proofs.YtfhepbbkggdlcaaGreatDoor.Px
