/- The feasts of a year. -/
import Derived.Test.YtfhepbbkggdlcaaGreatDoorPxSpecGreg
import Derived.KernelRfl
import Derived.Test.YtfhepbbkggdlcaaGreatDoorPxLaw
set_option linter.unusedVariables false
set_option linter.unusedSimpArgs false
namespace Go.Proofs.YtfhepbbkggdlcaaGreatDoor.Px
open Go
def QS:List (Int×Int×Int×Bool):=[(1,1,1,false),(1,2,1,false),(1,10,2,false),(1,15,3,false),(1,16,3,true),(1,22,4,false),(1,23,4,true),(8,15,5,false),(8,16,5,true),(8,21,6,false),(8,22,6,true),(10,6,7,false),(10,7,7,true)]
def cJ (j:Nat):Int×Int×Int×Bool:=QS.getD j (0,0,0,false)
def hit (m d:Int) (j:Nat):Bool:=m==(cJ j).1&&d==(cJ j).2.1
def eZ (m d:Int):Int×Bool:=match(List.range 13).find? (hit m d)with
 |some j=>(cJ j).2.2
 |none=>(0,false)
def ky (m d:Int) (ab:Bool):Int:=cond (ab|| !(eZ m d).2) (eZ m d).1 0
def FU {X:bP}:Gg (X:=X):=fun args _=>match args with
 | [.agg [.int k1 _, .int k2 m, .int k3 d], .bool ab]=>cond (kEq k1 .i64&&(kEq k2 .i64&&kEq k3 .i64)) (some (true, .int .i64 (ky m d ab))) none
 |_=>none
end Go.Proofs.YtfhepbbkggdlcaaGreatDoor.Px


namespace Go.Proofs.YtfhepbbkggdlcaaGreatDoor.Px
open Go
def bO (h:Int):Bool:=decide (1≤h)&&decide (h≤100000)
def kg (h:Int):Bool:=decide (1≤h)&&decide (h≤99999)
def bf (h:Int):Int:=(235*h-234)/19
def aK (h:Int):Int:=5604+765433*bf h
def nL (h:Int):Int×Int:=(-1373427+aK h/25920,aK h%25920)
def db (h:Int):Bool:=decide ((7*(h%19)+1)%19<7)
def Ea (h:Int):Bool:=decide ((nL h).2≥19440)||(((nL h).1%7==2&&(decide ((nL h).2≥9924)&& !db h))||((nL h).1%7==1&&(decide ((nL h).2≥16789)&&db (h-1))))
def J4 (w n:Int):Int:=cond ((w+n)%7==0||((w+n)%7==3||(w+n)%7==5)) (n+1) n
def fB (h:Int):Int:=J4 ((nL h).1%7) (cond (Ea h) 1 0)
def aP (h:Int):Int:=(nL h).1+fB h
def bt (h:Int):Int:=aP (h+1)-aP h
def fw (h:Int):Bool:=inB h 3762 9999
def c9 (h:Int):Int×Int:=cond (fw h) (aP h,0) (0,30)
def Aq (h:Int):Int×Int:=cond (fw h) (bt h,0) (0,30)
def Cz (h m:Int):Bool:=(m==2&&(bt h).tmod 10==5)||((m==3&&(bt h).tmod 10 != 3)||(m==1||(m==5||(m==6||(m==8||(m==10||m==12))))))
def dH (h m:Int):Int:=cond (fw h&&(decide (1≤m)&&decide (m≤13))) (cond (m==6&& !db h) 0 (cond (Cz h m) 30 29)) 0
def EW (i:Nat):Bool:=(decide (bt (3762+i)=353)||(decide (bt (3762+i)=354)||(decide (bt (3762+i)=355)||(decide (bt (3762+i)=383)||(decide (bt (3762+i)=384)||decide (bt (3762+i)=385))))))&&(db (3762+i)==decide (bt (3762+i)≥383))
def eA (f:Nat→Bool):Nat→Bool
 |0=>true
 |n+1=>cond (f n) (eA f n) false
end Go.Proofs.YtfhepbbkggdlcaaGreatDoor.Px


namespace Go.Proofs.YtfhepbbkggdlcaaGreatDoor.Px
open Go
theorem bT {f:Nat→Bool}:∀{n:Nat},eA f n=true→∀i,i<n→f i=true
 |0,_,i,h=>absurd h (Nat.not_lt_zero i)
 |n+1,h,i,hi=>by
  simp only[eA]at h
  cases hn:f n with
  |false=>rw[hn]at h;cases h
  |true=>
   rw[hn,WZ]at h
   by_cases e:i=n
   ·rw[e,hn]
   ·exact bT h i (by omega)
theorem NJ:eA EW 6238=true:=by kernel_rfl
def lens:List Int:=[353,354,355,383,384,385]
theorem tF {h:Int} (hr:fw h=true):bt h∈lens∧db h=decide (383≤bt h):=by
 simp only[fw,inB,WW,WY]at hr
 have hf:=bT NJ (h-3762).toNat (by omega)
 have e:(3762:Int)+((h-3762).toNat:Int)=h:=by omega
 simp only[EW,e,WW,Bool.or_eq_true,WY,beq_iff_eq]at hf
 exact⟨by simp only[lens,List.mem_cons,List.not_mem_nil,or_false];exact hf.1,hf.2⟩
theorem sT {h:Int} (hr:fw h=true):353≤bt h∧bt h≤385:=by
 have:=(tF hr).1
 simp only[lens,List.mem_cons,List.not_mem_nil,or_false]at this
 omega
end Go.Proofs.YtfhepbbkggdlcaaGreatDoor.Px


namespace Go.Proofs.YtfhepbbkggdlcaaGreatDoor.Px
open Go
theorem eU (h:Int):aP (h+1)=aP h+bt h:=by unfold bt;omega
theorem ja:aP 3762=249:=by kernel_rfl
theorem lh:aP 10000=2278651:=by kernel_rfl
theorem cr (h:Int):fw h=true↔3762≤h∧h≤9999:=by
 simp only[fw,inB,WW,WY]
theorem Io {h:Int} (h1:3762≤h):∀k:Nat,h+k≤10000→aP h+353*(k:Int)≤aP (h+k)∧aP (h+k)≤aP h+385*(k:Int)
 |0,_=>by simp
 |k+1,hk=>by
  have hp:=Io h1 k (by omega)
  have hl:=sT (h:=h+k) ((cr _).2 (by omega))
  have e:h+((k+1:Nat):Int)=h+k+1:=by omega
  rw[e,eU]
  omega
theorem gQ {a b:Int} (h1:3762≤a) (h2:a≤b) (h3:b≤10000):aP a+353*(b-a)≤aP b∧aP b≤aP a+385*(b-a):=by
 have:=Io h1 (b-a).toNat (by omega)
 have e:a+((b-a).toNat:Int)=b:=by omega
 rw[e]at this
 omega
def cO (n:Int):Nat→Int→Int
 |0,h=>h
 |k+1,h=>cond (decide (n<aP (h+1))) h (cO n k (h+1))
def eY (n:Int):Nat→Int→Bool
 |0,_=>false
 |k+1,h=>fw h&&(decide (n<aP (h+1))||eY n k (h+1))
def inH (n:Int):Bool:=decide (249≤n)&&decide (n<2278651)
def nI (n:Int):Int:=3762+(n-249).tdiv 386
def aW (n:Int):Int:=cO n 600 (nI n)
theorem LQ {n y:Int} (hy:fw y=true) (y1:aP y≤n) (y2:n<aP (y+1)):∀(k:Nat) (h:Int),3762≤h→h≤y→y-h<k→cO n k h=y∧eY n k h=true
 |0,h,_,h2,h3=>by omega
 |k+1,h,h1,h2,h3=>by
  have hr:=(cr y).1 hy
  have hh:fw h=true:=(cr h).2 (by omega)
  unfold cO eY
  rw[hh]
  by_cases e:h=y
  ·subst e
   rw[decide_eq_true y2]
   exact⟨rfl,rfl⟩
  ·have hm:=gQ (a:=h+1) (b:=y) (by omega) (by omega) (by omega)
   rw[decide_eq_false (by omega:¬n<aP (h+1))]
   exact LQ hy y1 y2 k (h+1) (by omega) (by omega) (by omega)
theorem IQ (f:Int→Int) {n a:Int} (h1:f a≤n):∀k:Nat,n<f (a+(k:Int))→∃i:Nat,i<k∧f (a+(i:Int))≤n∧n<f (a+(i:Int)+1)
 |0,h=>by rw[show a+((0:Nat):Int)=a by omega]at h;omega
 |k+1,h=>by
  by_cases hb:f (a+(k:Int))≤n
  ·refine⟨k,by omega,hb,?_⟩
   rw[show a+(k:Int)+1=a+((k+1:Nat):Int) by omega]
   exact h
  ·obtain⟨i,i1,i2⟩:=IQ f h1 k (by omega)
   exact⟨i,by omega,i2⟩
theorem Qx {n:Int} (h1:249≤n) (h2:n<2278651):∃y,fw y=true∧aP y≤n∧n<aP (y+1):=by
 obtain⟨i,i1,i2⟩:=IQ aP (a:=3762) (n:=n) (by rw[ja];exact h1) 6238 (by rw[show(3762:Int)+((6238:Nat):Int)=10000 by omega,lh];exact h2)
 exact⟨3762+(i:Int),(cr _).2 (by omega),i2⟩
theorem jo {n:Int} (hn:inH n=true):fw (aW n)=true∧aP (aW n)≤n∧n<aP (aW n+1)∧eY n 600 (nI n)=true∧nI n=3762+(n-249)/386∧3762≤nI n∧nI n≤aW n:=by
 simp only[inH,WW,WY]at hn
 obtain⟨y,y0,y1,y2⟩:=Qx hn.1 hn.2
 have e:nI n=3762+(n-249)/386:=by unfold nI;rw[Int.tdiv_eq_ediv_of_nonneg (by omega)]
 have hr:=(cr y).1 y0
 have hm:=gQ (a:=3762) (b:=y+1) (by omega) (by omega) (by omega)
 have hm2:=gQ (a:=3762) (b:=y) (by omega) (by omega) (by omega)
 rw[ja]at hm hm2
 have hf:3762≤nI n∧nI n≤y∧y-nI n<600:=by rw[e];omega
 obtain⟨g1,g2⟩:=LQ y0 y1 y2 600 (nI n) hf.1 hf.2.1 (by omega)
 unfold aW
 rw[g1]
 exact⟨y0,y1,y2,g2,e,hf.1,hf.2.1⟩
theorem pg {n y:Int} (hy:fw y=true) (y1:aP y≤n) (y2:n<aP (y+1)):aW n=y:=by
 have hr:=(cr y).1 hy
 have hi:inH n=true:=by
  have a:=gQ (a:=3762) (b:=y) (by omega) (by omega) (by omega)
  have b:=gQ (a:=y+1) (b:=10000) (by omega) (by omega) (by omega)
  rw[ja]at a
  rw[lh]at b
  simp only[inH,WW,WY]
  omega
 obtain⟨h0,h1,h2,_⟩:=jo hi
 have hq:=(cr _).1 h0
 rcases Int.lt_trichotomy (aW n) y with h|h|h
 ·have:=gQ (a:=aW n+1) (b:=y) (by omega) (by omega) (by omega);omega
 ·exact h
 ·have:=gQ (a:=y+1) (b:=aW n) (by omega) (by omega) (by omega);omega
end Go.Proofs.YtfhepbbkggdlcaaGreatDoor.Px


namespace Go.Proofs.YtfhepbbkggdlcaaGreatDoor.Px
open Go
def dW (n h:Int):Nat→Int→Int→Int→Int→Bool×Int×Int×Int
 |0,_,f,mo,da=>(false,mo,da,f)
 |k+1,m,f,mo,da=>cond (decide (n<f)) (true,mo,da,f) (cond (decide (dH h m>0)) (dW n h k (m+1) (f+dH h m) m (n-f+1)) (dW n h k (m+1) (f+dH h m) mo da))
def En (n h h' m f:Int):Bool:=h==h'&&(inH n&&(decide (1≤m)&&(decide (m≤14)&&(decide (0≤f)&&decide (f≤3000000+30*m)))))
def UC:ob:=⟨0,0,0⟩
def eg (n:Int):ob:=⟨aW n,(dW n (aW n) 13 1 (aP (aW n)) 0 0).2.1,(dW n (aW n) 13 1 (aP (aW n)) 0 0).2.2.1⟩
def Ay (n:Int):ob×Int:=cond (inH n) (eg n,0) (UC,41)
def kT (n:Int) (ab:Bool):Int:=ky (eg n).month (eg n).day ab
def eS (n:Int) (ab:Bool):Int:=cond (inH n) (kT n ab) 0
def a7 (n:Int) (ab:Bool):Bool:=inH n&&(n%7==6||kT n ab != 0)
def bH (b:Int) (ab:Bool):Nat→Int→Int
 |0,n=>n
 |k+1,n=>cond (a7 (n+b) ab) (bH b ab k (n+b)) n
def cp (b:Int) (ab:Bool):Nat→Int→Bool
 |0,_=>false
 |k+1,n=> !a7 (n+b) ab||cp b ab k (n+b)
def kD (b:Int) (ab:Bool) (n:Int):Bool:=(b==1||b== -1)&&(inH n&&cp b ab 10 n)
def Nu (n:Int) (ab:Bool):Int×Int×Int:=cond (a7 n ab) (bH (-1) ab 10 n,bH 1 ab 10 n,0) (0,0,51)
def nv (d:Date) (s:Sun):Int:=cT (gH s) (d.month-1).toNat+(cT (gH s) (d.month%12).toNat-cT (gH s) (d.month-1).toNat)*(d.day-1)/ai d.year d.month
def zV (s:Sun) (n:Int):Int×Int:=cond (ax s != 0) (0,ax s) (cond (dj n) (nv (ofG n).1 s,0) (0,72))
def hU (z:a8) (s:Sun) (n:Int):Int×Int:=cond (ao z != 0) (0,ao z) (cond (ax s != 0) (0,ax s) (cond (inB n 401 3651998) (n*1440+nv (ofG n).1 s-z.base,0) (0,72)))
def cI (_:Unit) (c:Config) (w:ag) (d:Int):Bool:=af c==0&&(ak w==0&&du d)
def tD (_:Unit) (c:Config) (w:ag) (d:Int):Int×Int×Bool:=vF c w d (w.arg==d)
def yi (_:Unit) (c:Config) (w:ag) (d:Int):Int×Int×Bool:=vF c w d (eS (d-w.shift) c.bq==w.arg)
def aZ (_:Unit) (c:Config) (w:ag) (d:Int):Int×Int×Bool:=cond (a7 (d+1) c.bq&& !a7 d c.bq)
 ((hU c.aE c.sun d).1-w.minute,(hU c.aE c.sun (bH 1 c.bq 10 (d+1))).1+w.len,true) (0,0,false)
def Rk (w:ag):Bool:=w.kind==2
def Oj (w:ag):Bool:=w.kind==3
def N5 (w:ag):Bool:= !(w.kind==1||(w.kind==2||w.kind==3))
def opens (c:Config) (w:ag) (d:Int):Int×Int×Bool:=cond (w.kind==1) (yo () c w d) (cond (w.kind==2) (tD () c w d) (cond (w.kind==3) (yi () c w d) (aZ () c w d)))
def BV:Span:=⟨0,0,0,0⟩
def kR (c:Config) (w:ag) (d:Int):Int:=orE (af c) (orE (ak w) (dD (du d) 140))
def bw (c:Config) (w:ag) (d:Int):Span×Bool×Int:=cond (kR c w d != 0) (BV,false,kR c w d)
 (cond (opens c w d).2.2 (⟨(opens c w d).1,(opens c w d).2.1,w.mode,w.prio⟩,true,0) (BV,false,0))
def BU (c:Config) (_:ag) (_:Int):Bool:=aY c
def eAt {X:bP} (c:Cfg (X:=X)) (n:Nat):Gg (X:=X):=match look c.E n with
 |some e=>e
 |none=>fun _ _=>none
theorem Gp {X:bP} {P:Program} {G:World→Prop} {c:Cfg (X:=X)} {n:Nat} (hp:Prog P G c) (h:∃e,look c.E n=some e):nq P G n (eAt c n):=by
 obtain⟨e,he⟩:=h
 unfold eAt
 rw[he]
 exact hp.calls n e he
def Pw {X:bP} (c1 c2 c3 c4:Gg (X:=X)):Gg (X:=X):=fun args s=>match args with
 | [.agg (.int k p::l)]=>match p with
  | .ofNat 1=>c1 [.agg (.int k p::l)] s
  | .ofNat 2=>c2 [.agg (.int k p::l)] s
  | .ofNat 3=>c3 [.agg (.int k p::l)] s
  |_=>c4 [.agg (.int k p::l)] s
 |_=>none
theorem T8 {X:bP} {P:Program} {G:World→Prop} {n:Nat} {c1 c2 c3 c4:Gg (X:=X)} (h1:nq P G n c1) (h2:nq P G n c2) (h3:nq P G n c3) (h4:nq P G n c4):nq P G n (Pw c1 c2 c3 c4):=by
 refine⟨h1.1,fun args hp ok v hc=>?_⟩
 unfold Pw at hc
 split at hc
 ·split at hc
  ·exact h1.2 _ _ _ _ hc
  ·exact h2.2 _ _ _ _ hc
  ·exact h3.2 _ _ _ _ hc
  ·exact h4.2 _ _ _ _ hc
 ·cases hc
end Go.Proofs.YtfhepbbkggdlcaaGreatDoor.Px


namespace Go.Proofs.YtfhepbbkggdlcaaGreatDoor.Px
open Go
def TN (L m:Int):Bool:=(m==2&&L.tmod 10==5)||((m==3&&L.tmod 10 != 3)||(m==1||(m==5||(m==6||(m==8||(m==10||m==12))))))
def lQ (L m:Int):Int:=cond (decide (1≤m)&&decide (m≤13)) (cond (m==6&& !decide (383≤L)) 0 (cond (TN L m) 30 29)) 0
def De (L:Int):Nat→Int→Int→Int→Int→Int×Int
 |0,_,_,mo,da=>(mo,da)
 |k+1,m,o,mo,da=>cond (decide (o<0)) (mo,da) (cond (decide (lQ L m>0)) (De L k (m+1) (o-lQ L m) m (o+1)) (De L k (m+1) (o-lQ L m) mo da))
theorem rr {h:Int} (hr:fw h=true) (m:Int):dH h m=lQ (bt h) m:=by
 unfold dH lQ Cz TN
 rw[hr,(tF hr).2,Bool.true_and]
theorem LB {h:Int} (hr:fw h=true) (n:Int):∀(k:Nat) (m f mo da:Int),(dW n h k m f mo da).2.1=(De (bt h) k m (n-f) mo da).1∧(dW n h k m f mo da).2.2.1=(De (bt h) k m (n-f) mo da).2:=by
 intro k
 induction k with
 |zero=>intro m f mo da;exact⟨rfl,rfl⟩
 |succ k ih=>
  intro m f mo da
  unfold dW De
  rw[←rr hr,show decide (n-f<0)=decide (n<f) by rw[Bool.eq_iff_iff];simp;omega]
  have e:n-f-dH h m=n-(f+dH h m):=by omega
  rw[e]
  cases decide (n<f)
  ·cases decide (dH h m>0)
   ·exact ih _ _ _ _
   ·exact ih _ _ _ _
  ·exact⟨rfl,rfl⟩
def feL (L:Int) (o:Nat):Bool:=ky (De L 13 1 (o:Int) 0 0).1 (De L 13 1 (o:Int) 0 0).2 true != 0
def feN (L:Int) (o:Nat):Bool:=cond (decide ((o:Int)<L)) (feL L o) (decide ((o:Int)<L+2))
def Im (L:Int) (o:Nat):Bool:= !((feN L o&&(feN L (o+1)&&feN L (o+2)))||((feN L o&&(feN L (o+1)&&feN L (o+3)))||((feN L o&&(feN L (o+2)&&feN L (o+3)))||(feN L (o+1)&&(feN L (o+2)&&feN L (o+3))))))
theorem Sm:eA (Im 353) 353=true:=by kernel_rfl
theorem RO:eA (Im 354) 354=true:=by kernel_rfl
theorem SX:eA (Im 355) 355=true:=by kernel_rfl
theorem Tg:eA (Im 383) 383=true:=by kernel_rfl
theorem RK:eA (Im 384) 384=true:=by kernel_rfl
theorem RW:eA (Im 385) 385=true:=by kernel_rfl
theorem Tp:feL 353 2=false∧feL 354 2=false∧feL 355 2=false∧feL 383 2=false∧feL 384 2=false∧feL 385 2=false:=⟨by kernel_rfl,by kernel_rfl,by kernel_rfl,by kernel_rfl,by kernel_rfl,by kernel_rfl⟩
theorem R5 {L:Int} (h:L∈lens) {o:Nat} (ho:(o:Int)<L):Im L o=true:=by
 simp only[lens,List.mem_cons,List.not_mem_nil,or_false]at h
 rcases h with rfl|rfl|rfl|rfl|rfl|rfl
 ·exact bT Sm o (by omega)
 ·exact bT RO o (by omega)
 ·exact bT SX o (by omega)
 ·exact bT Tg o (by omega)
 ·exact bT RK o (by omega)
 ·exact bT RW o (by omega)
theorem SZ {L:Int} (h:L∈lens):feL L 2=false:=by
 simp only[lens,List.mem_cons,List.not_mem_nil,or_false]at h
 obtain⟨a,b,c,d,e,f⟩:=Tp
 rcases h with rfl|rfl|rfl|rfl|rfl|rfl<;>assumption
theorem Iu (m d:Int) (ab:Bool) (h:ky m d ab≠0):ky m d true≠0:=by
 unfold ky at h⊢
 cases ab with
 |true=>exact h
 |false=>
  cases hb:(eZ m d).2 with
  |true=>rw[hb]at h;exact absurd rfl h
  |false=>rw[hb]at h;exact h
theorem N3 {n:Int} {ab:Bool} (hi:inH n=true) (h:kT n ab≠0):feL (bt (aW n)) (n-aP (aW n)).toNat=true:=by
 obtain⟨y0,y1,y2,_⟩:=jo hi
 have hd:=LB y0 n 13 1 (aP (aW n)) 0 0
 have h':=Iu _ _ _ h
 unfold eg at h'
 dsimp only at h'
 rw[hd.1,hd.2]at h'
 unfold feL
 rw[show(((n-aP (aW n)).toNat:Nat):Int)=n-aP (aW n) by omega]
 exact bne_iff_ne.2 h'
theorem JD {n:Int} {ab:Bool} {y:Int} (hy:fw y=true) (h1:aP y≤n) (h2:n≤aP (y+1)+2) (hi:inH n=true) (h:kT n ab≠0):feN (bt y) (n-aP y).toNat=true:=by
 have hf:=N3 hi h
 have hr:=(cr y).1 hy
 have hn:=eU y
 unfold feN
 have e:(((n-aP y).toNat:Nat):Int)=n-aP y:=by omega
 rw[e]
 by_cases hc:n<aP (y+1)
 ·rw[pg hy h1 hc]at hf
  rw[decide_eq_true (by omega),hf]
  rfl
 ·rw[decide_eq_false (by omega),W2]
  have hb:n<2278651:=by
   simp only[inH,WW,WY]at hi
   exact hi.2
  have hl:y+1≤9999:=by
   by_cases hq:y+1≤9999
   ·exact hq
   ·have:y+1=10000:=by omega
    rw[this,lh]at hc
    omega
  have hy1:fw (y+1)=true:=(cr _).2 (by omega)
  have hlen:=sT hy1
  have hn2:=eU (y+1)
  have he:aW n=y+1:=pg hy1 (by omega) (by omega)
  rw[he]at hf
  rcases(show n=aP (y+1)+2∨n-aP y<bt y+2 by omega)with h3|h3
  ·rw[h3,show(aP (y+1)+2-aP (y+1)).toNat=2 by omega,SZ (tF hy1).1]at hf
   cases hf
  ·exact decide_eq_true h3
theorem n7 (n:Int) (ab:Bool):a7 n ab=true↔inH n=true∧(n%7=6∨kT n ab≠0):=by
 simp only[a7,WW,Bool.or_eq_true,beq_iff_eq,bne_iff_ne]
theorem NT {n:Int} {ab:Bool} (h0:a7 n ab=true) (h1:a7 (n+1) ab=true) (h2:a7 (n+2) ab=true) (h3:a7 (n+3) ab=true):False:=by
 rw[n7]at h0 h1 h2 h3
 obtain⟨y0,y1,y2,_⟩:=jo h0.1
 generalize aW n=y at*
 have hn:=eU y
 have hw:=R5 (tF y0).1 (o:=(n-aP y).toNat) (by omega)
 have f:∀j:Nat,j≤3→inH (n+(j:Int))=true→kT (n+(j:Int)) ab≠0→feN (bt y) ((n-aP y).toNat+j)=true:=by
  intro j hj hi hf
  have:=JD y0 (by omega) (by omega) hi hf
  rw[show(n+(j:Int)-aP y).toNat=(n-aP y).toNat+j by omega]at this
  exact this
 have f0:=f 0 (by omega)
 have f1:=f 1 (by omega)
 have f2:=f 2 (by omega)
 have f3:=f 3 (by omega)
 simp only[Int.natCast_zero,Int.add_zero,Nat.add_zero]at f0
 have e0:=f0 h0.1
 have e1:=f1 h1.1
 have e2:=f2 h2.1
 have e3:=f3 h3.1
 unfold Im at hw
 have g0:n%7=6∨feN (bt y) (n-aP y).toNat=true:=h0.2.imp id e0
 have g1:(n+1)%7=6∨feN (bt y) ((n-aP y).toNat+1)=true:=h1.2.imp id e1
 have g2:(n+2)%7=6∨feN (bt y) ((n-aP y).toNat+2)=true:=h2.2.imp id e2
 have g3:(n+3)%7=6∨feN (bt y) ((n-aP y).toNat+3)=true:=h3.2.imp id e3
 clear f f0 f1 f2 f3 e0 e1 e2 e3 h0 h1 h2 h3 hn
 generalize feN (bt y) (n-aP y).toNat=b0 at*
 generalize feN (bt y) ((n-aP y).toNat+1)=b1 at*
 generalize feN (bt y) ((n-aP y).toNat+2)=b2 at*
 generalize feN (bt y) ((n-aP y).toNat+3)=b3 at*
 cases b0<;>cases b1<;>cases b2<;>cases b3<;>simp at hw g0 g1 g2 g3<;>omega
theorem Er {n:Int} {ab:Bool} (h:a7 n ab=true):cp 1 ab 10 n=true∧cp (-1) ab 10 n=true:=by
 constructor
 ·cases h1:a7 (n+1) ab
  ·simp[cp,h1]
  ·cases h2:a7 (n+1+1) ab
   ·simp[cp,h1,h2]
   ·cases h3:a7 (n+1+1+1) ab
    ·simp[cp,h1,h2,h3]
    ·exact(NT h h1 (by rw[show n+2=n+1+1 by omega];exact h2) (by rw[show n+3=n+1+1+1 by omega];exact h3)).elim
 ·cases h1:a7 (n+ -1) ab
  ·simp[cp,h1]
  ·cases h2:a7 (n+ -1+ -1) ab
   ·simp[cp,h1,h2]
   ·cases h3:a7 (n+ -1+ -1+ -1) ab
    ·simp[cp,h1,h2,h3]
    ·exact(NT (n:=n-3) (by rw[show n-3=n+ -1+ -1+ -1 by omega];exact h3) (by rw[show n-3+1=n+ -1+ -1 by omega];exact h2) (by rw[show n-3+2=n+ -1 by omega];exact h1) (by rw[show n-3+3=n by omega];exact h)).elim
theorem Ry {n:Int} {ab:Bool} (h:a7 n ab=true):kD 1 ab n=true∧kD (-1) ab n=true:=by
 have hi:=((n7 n ab).1 h).1
 have hr:=Er h
 unfold kD
 rw[hi,hr.1,hr.2]
 exact⟨rfl,rfl⟩
theorem Ly {ab:Bool}:∀(k:Nat) (n:Int),cp 1 ab k n=true→∃j:Nat,bH 1 ab k n=n+(j:Int)∧(∀i:Nat,1≤i→i≤j→a7 (n+(i:Int)) ab=true)∧a7 (n+(j:Int)+1) ab=false
 |0,n,h=>by cases h
 |k+1,n,h=>by
  simp only[cp,Bool.or_eq_true,Bool.not_eq_true']at h
  unfold bH
  cases hr:a7 (n+1) ab with
  |false=>exact⟨0,by simp,fun i h1 h2=>by omega,by simpa using hr⟩
  |true=>
   rw[hr]at h
   obtain⟨j,j1,j2,j3⟩:=Ly k (n+1) (h.resolve_left (by simp))
   refine⟨j+1,by rw[WZ,j1];omega,fun i h1 h2=>?_,by rw[show n+((j+1:Nat):Int)+1=n+1+(j:Int)+1 by omega];exact j3⟩
   by_cases hi:i=1
   ·subst hi;exact hr
   ·have:=j2 (i-1) (by omega) (by omega)
    rw[show n+1+((i-1:Nat):Int)=n+(i:Int) by omega]at this
    exact this
theorem Dy {n:Int} {ab:Bool} (h:a7 n ab=true):n≤bH 1 ab 10 n∧bH 1 ab 10 n≤n+2∧a7 (bH 1 ab 10 n+1) ab=false∧∀m,n≤m→m≤bH 1 ab 10 n→a7 m ab=true:=by
 obtain⟨j,j1,j2,j3⟩:=Ly 10 n (Er h).1
 have hj:j≤2:=by
  by_cases hj:j≤2
  ·exact hj
  ·exact(NT h (j2 1 (by omega) (by omega)) (j2 2 (by omega) (by omega)) (j2 3 (by omega) (by omega))).elim
 rw[j1]
 refine⟨by omega,by omega,j3,fun m h1 h2=>?_⟩
 by_cases hm:m=n
 ·rw[hm];exact h
 ·have:=j2 (m-n).toNat (by omega) (by omega)
  rw[show n+(((m-n).toNat:Nat):Int)=m by omega]at this
  exact this
end Go.Proofs.YtfhepbbkggdlcaaGreatDoor.Px


namespace Go.Proofs.YtfhepbbkggdlcaaGreatDoor.Px
open Go
theorem Ph {y left:Int}:∀(k m:Nat),1≤m→m+k=12→aF y (m-1)≤left→left<aF y 12→m≤nN y left m k∧nN y left m k≤12∧aF y (nN y left m k-1)≤left∧left<aF y (nN y left m k)
 |0,m,h1,h2,h3,h4=>by
  have:m=12:=by omega
  subst this
  exact⟨Nat.le_refl _,Nat.le_refl _,h3,h4⟩
 |k+1,m,h1,h2,h3,h4=>by
  unfold nN
  by_cases hc:left<aF y m
  ·rw[decide_eq_true hc]
   exact⟨Nat.le_refl _,by rw[WZ];omega,h3,hc⟩
  ·rw[decide_eq_false hc,W2]
   obtain⟨a,b,c,d⟩:=Ph k (m+1) (by omega) (by omega) (by rw[Nat.add_sub_cancel];omega) h4
   exact⟨by omega,b,c,d⟩
theorem Bk {n:Int} (h:dj n=true):(1≤(ofG n).1.month∧(ofG n).1.month≤12)∧(1≤(ofG n).1.day∧(ofG n).1.day≤ai (ofG n).1.year (ofG n).1.month)∧(ofG n).2=0∧ai (ofG n).1.year (ofG n).1.month≤31:=by
 obtain⟨h1,h2⟩:=cF.1 h
 obtain⟨y1,y2,l1,l2,e1,e2⟩:=mA h1 h2
 have hs:=Ip y1 y2
 have hl:=jL y1
 obtain⟨a,b,c,d⟩:=Ph (y:=yrG n) (left:=lfG n) 11 1 (by omega) (by omega) (by simp only[Nat.sub_self,aF];omega) (by rw[hs];omega)
 have hc:(decide (n<1)||decide (n>3652059))=false:=by simp;omega
 have e:ofG n=(⟨yrG n,((oo n:Nat):Int),lfG n-aF (yrG n) (oo n-1)+1⟩,0):=by
  unfold ofG
  rw[hc]
  rfl
 rw[e]
 dsimp only
 have hm:nN (yrG n) (lfG n) 1 11=oo n:=rfl
 rw[hm]at a b c d
 have hsum:aF (yrG n) (oo n)=aF (yrG n) (oo n-1)+ai (yrG n) ((oo n:Nat):Int):=by
  obtain⟨j,hj⟩:∃j,oo n=j+1:=⟨oo n-1,by omega⟩
  rw[hj]
  simp only[aF,Nat.add_sub_cancel]
  rfl
 have hd:=dr (yrG n) ((oo n:Nat):Int)
 exact⟨⟨by omega,by omega⟩,⟨by omega,by omega⟩,rfl,hd.2.1⟩
theorem Lg {p:Int→Bool}:∀{l:List Int} {k:Nat},l.all p=true→k<l.length→p (cT l k)=true
 |x::l,0,h,_=>by simp only[List.all_cons,WW]at h;exact h.1
 |x::l,k+1,h,hk=>by
  simp only[List.all_cons,WW]at h
  exact Lg (l:=l) h.2 (by simpa using hk)
theorem gO {s:Sun} (h:ax s=0) {k:Nat} (hk:k<12):900≤cT (gH s) k∧cT (gH s) k≤1320:=by
 have ha:((gH s).all fun n=>inB n 900 1320)=true:=by
  unfold ax at h
  cases ha:((gH s).all fun n=>inB n 900 1320)with
  |true=>rfl
  |false=>rw[ha,W2]at h;cases h
 exact bF.1 (Lg ha hk)
theorem rR {a b x d:Int} (hd:0<d) (h1:0≤x) (h2:x<d):(0≤b-a→0≤(b-a)*x/d∧(b-a)*x/d≤b-a)∧(b-a≤0→b-a≤(b-a)*x/d∧(b-a)*x/d≤0):=by
 generalize b-a=q
 refine⟨fun hq=>?_,fun hq=>?_⟩
 ·refine⟨Int.ediv_nonneg (Int.mul_nonneg hq h1) (by omega),?_⟩
  exact Int.ediv_le_of_le_mul hd (Int.mul_le_mul_of_nonneg_left (by omega) hq)
 ·constructor
  ·apply Int.le_ediv_of_mul_le hd
   exact Int.mul_le_mul_of_nonpos_left hq (by omega)
  ·have h0:q*x≤0:=Int.mul_nonpos_of_nonpos_of_nonneg hq h1
   have:=Int.ediv_le_ediv hd h0
   rw[Int.zero_ediv]at this
   exact this
theorem n5 {s:Sun} {n:Int} (hs:ax s=0) (hn:dj n=true):900≤nv (ofG n).1 s∧nv (ofG n).1 s≤1320:=by
 obtain⟨⟨m1,m2⟩,⟨d1,d2⟩,_,_⟩:=Bk hn
 unfold nv
 have ha:=gO hs (k:=((ofG n).1.month-1).toNat) (by omega)
 have hb:=gO hs (k:=((ofG n).1.month%12).toNat) (by omega)
 have hv:=rR (a:=cT (gH s) ((ofG n).1.month-1).toNat) (b:=cT (gH s) ((ofG n).1.month%12).toNat) (x:=(ofG n).1.day-1) (d:=ai (ofG n).1.year (ofG n).1.month) (by omega) (by omega) (by omega)
 generalize (cT (gH s) ((ofG n).1.month%12).toNat-cT (gH s) ((ofG n).1.month-1).toNat)*((ofG n).1.day-1)/ai (ofG n).1.year (ofG n).1.month=v at*
 omega
theorem eX {w:ag} (h:ak w=0):(w.kind=1∨w.kind=2∨w.kind=3∨w.kind=4)∧(w.kind=4→(0≤w.minute∧w.minute≤180)∧(0≤w.len∧w.len≤180))∧(w.kind≠4→(0≤w.minute∧w.minute≤1439)∧(1≤w.len∧w.len≤10080))∧(-7≤w.shift∧w.shift≤7):=by
 have hb:bj w=true:=by
  unfold ak dD at h
  cases hb:bj w with
  |true=>rfl
  |false=>rw[hb]at h;cases h
 unfold bj jX at hb
 simp only[WW]at hb
 obtain⟨_,hb⟩:=hb
 cases k1:w.kind==1 with
 |true=>
  have:=beq_iff_eq.1 k1
  rw[k1,WZ]at hb
  simp only[WW,bF,beq_iff_eq]at hb
  exact⟨.inl this,fun e=>by omega,fun _=>hb.1.1,by omega⟩
 |false=>
  rw[k1,W2]at hb
  cases k2:w.kind==2 with
  |true=>
   have:=beq_iff_eq.1 k2
   rw[k2,WZ]at hb
   simp only[WW,bF,beq_iff_eq]at hb
   exact⟨.inr (.inl this),fun e=>by omega,fun _=>hb.1.1,by omega⟩
  |false=>
   rw[k2,W2]at hb
   cases k3:w.kind==3 with
   |true=>
    have:=beq_iff_eq.1 k3
    rw[k3,WZ]at hb
    simp only[WW,bF,beq_iff_eq]at hb
    exact⟨.inr (.inr (.inl this)),fun e=>by omega,fun _=>hb.1.1,by omega⟩
   |false=>
    rw[k3,W2]at hb
    simp only[WW,bF,beq_iff_eq]at hb
    exact⟨.inr (.inr (.inr hb.1.1.1.1)),fun _=>⟨hb.1.2,hb.2⟩,fun e=>absurd hb.1.1.1.1 e,by omega⟩
theorem kO (d:Int):du d=true↔402≤d∧d≤3651990:=by
 unfold du
 cases h:decide (402≤d)with
 |true=>rw[WZ,WY];simp at h;omega
 |false=>simp at h;simp;omega
theorem dn {c:Config} (h:af c=0):ao c.aE=0∧ax c.sun=0:=by
 unfold af orE at h
 cases h1:cC c==0
 ·rw[h1]at h;simp only[W2]at h;rw[h]at h1;cases h1
 rw[h1,WZ]at h
 cases h2:cA c==0
 ·rw[h2]at h;simp only[W2]at h;rw[h]at h2;cases h2
 rw[h2,WZ]at h
 cases h3:bW c==0
 ·rw[h3]at h;simp only[W2]at h;rw[h]at h3;cases h3
 rw[h3,WZ]at h
 cases h4:ao c.aE==0
 ·rw[h4]at h;simp only[W2]at h;rw[h]at h4;cases h4
 rw[h4,WZ]at h
 cases h5:ax c.sun==0
 ·rw[h5]at h;simp only[W2]at h;rw[h]at h5;cases h5
 exact⟨beq_iff_eq.1 h4,beq_iff_eq.1 h5⟩
theorem UN {z:a8} {d m:Int} (hz:ao z=0) (hd:du d=true) (hm:0≤m∧m≤1439):(cL z d m).2=0∧500000≤(cL z d m).1∧(cL z d m).1≤6000000000:=by
 have ho:mg d m=true:=by unfold mg;rw[hd];simp;omega
 have ht:=A6 ho
 have hr:=G3 hz ht
 have hw:=jI (gy z) 200 (d*1440+m)
 have hf:=qX hr
 have hd':=(kO d).1 hd
 obtain⟨z1,z2,_⟩:=bx hz
 have hrow:=(sj (t:=bp (gy z) 200 (d*1440+m)) hz (by omega) (by omega)).2
 have e:cL z d m=(pD (gy z) 200 (d*1440+m),0):=by
  unfold cL
  rw[hz,ho]
  rfl
 rw[e]
 refine⟨rfl,?_⟩
 dsimp only
 unfold pD
 generalize bp (gy z) 200 (d*1440+m)=t at*
 rw[hrow]at hf⊢
 cases h1:(decide (z.shift>0)&&decide (bD z (t-z.base-z.shift)>0))<;>cases h2:bD z (t-z.base)==0<;>rw[h1,h2]at hf<;>simp at hf⊢ <;>omega
theorem sQ {z:a8} {s:Sun} {n:Int} (hz:ao z=0) (hs:ax s=0) (h1:401≤n) (h2:n≤3651998):∃m:Int,hU z s n=(n*1440+m-z.base,0)∧900≤m∧m≤1320:=by
 refine⟨nv (ofG n).1 s,?_,n5 hs (cF.2 (by omega))⟩
 unfold hU
 rw[hz,hs,xW h1 h2]
 rfl
theorem CK (c:Config) (w:ag) (d:Int):(kR c w d≠0∧bw c w d=(BV,false,kR c w d))∨((af c=0∧ak w=0∧du d=true)∧bw c w d=cond (opens c w d).2.2 (⟨(opens c w d).1,(opens c w d).2.1,w.mode,w.prio⟩,true,0) (BV,false,0)):=by
 unfold bw
 cases he:kR c w d != 0 with
 |true=>exact .inl ⟨by simpa using he,rfl⟩
 |false=>
  refine .inr ⟨?_,rfl⟩
  have h:kR c w d=0:=by simpa using he
  unfold kR orE at h
  cases h1:af c==0
  ·rw[h1]at h;simp only[W2]at h;rw[h]at h1;cases h1
  rw[h1,WZ]at h
  cases h2:ak w==0
  ·rw[h2]at h;simp only[W2]at h;rw[h]at h2;cases h2
  rw[h2,WZ]at h
  refine⟨beq_iff_eq.1 h1,beq_iff_eq.1 h2,?_⟩
  cases h3:du d with
  |true=>rfl
  |false=>rw[h3]at h;cases h
theorem M8 {c:Config} {w:ag} {d:Int} (hk:w.kind=4) (hc:af c=0) (hw:ak w=0) (hd:du d=true):
  (opens c w d).2.2=(a7 (d+1) c.bq&& !a7 d c.bq)∧((opens c w d).2.2=true→∃L m n:Int,L=bH 1 c.bq 10 (d+1)∧(d+1≤L∧L≤d+3)∧(900≤m∧m≤1320)∧(900≤n∧n≤1320)∧(0≤w.minute∧w.minute≤180)∧(0≤w.len∧w.len≤180)∧
   (opens c w d).1=d*1440+m-c.aE.base-w.minute∧(opens c w d).2.1=L*1440+n-c.aE.base+w.len):=by
 obtain⟨hz,hs⟩:=dn hc
 obtain⟨_,hf,_⟩:=eX hw
 obtain⟨f1,f2⟩:=hf hk
 have hd':=(kO d).1 hd
 have eo:opens c w d=aZ () c w d:=by
  unfold opens
  rw[hk]
  rfl
 rw[eo]
 unfold aZ
 cases hb:(a7 (d+1) c.bq&& !a7 d c.bq)with
 |false=>exact⟨rfl,fun h=>by cases h⟩
 |true=>
  refine⟨rfl,fun _=>?_⟩
  simp only[WW,Bool.not_eq_true']at hb
  obtain⟨l1,l2,_,_⟩:=Dy hb.1
  obtain⟨m,m1,m2⟩:=sQ (n:=d) hz hs (by omega) (by omega)
  obtain⟨n,n1,n2⟩:=sQ (n:=bH 1 c.bq 10 (d+1)) hz hs (by omega) (by omega)
  refine⟨_,m,n,rfl,⟨l1,by omega⟩,m2,n2,f1,f2,?_,?_⟩
  ·rw[m1];rfl
  ·rw[n1];rfl
theorem C3 {c:Config} {w:ag} {d:Int} (hk:w.kind≠4) (hc:af c=0) (hw:ak w=0) (hd:du d=true):
  (cL c.aE d w.minute).2=0∧(500000≤(cL c.aE d w.minute).1∧(cL c.aE d w.minute).1≤6000000000)∧(1≤w.len∧w.len≤10080)∧(opens c w d).1=(cL c.aE d w.minute).1∧(opens c w d).2.1=(cL c.aE d w.minute).1+w.len:=by
 obtain⟨hz,hs⟩:=dn hc
 obtain⟨hkk,_,hf,_⟩:=eX hw
 obtain⟨f1,f2⟩:=hf hk
 obtain⟨m1,m2,m3⟩:=UN hz hd f1
 refine⟨m1,⟨m2,m3⟩,f2,?_⟩
 have e:∀b,vF c w d b=((cL c.aE d w.minute).1,(cL c.aE d w.minute).1+w.len,b):=by
  intro b
  unfold vF
  rw[wrI (by omega)]
 unfold opens yo tD yi
 rw[e,e,e]
 rcases hkk with h|h|h|h
 ·rw[h];exact⟨rfl,rfl⟩
 ·rw[h];exact⟨rfl,rfl⟩
 ·rw[h];exact⟨rfl,rfl⟩
 ·exact absurd h hk
end Go.Proofs.YtfhepbbkggdlcaaGreatDoor.Px
