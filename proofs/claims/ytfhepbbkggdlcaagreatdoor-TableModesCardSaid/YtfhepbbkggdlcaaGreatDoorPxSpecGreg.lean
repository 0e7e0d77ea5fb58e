/- Days and dates, as plain functions. -/
import Derived.Test.YtfhepbbkggdlcaaGreatDoorPxApi0
import Derived.Test.YtfhepbbkggdlcaaGreatDoorPxSpecConfig
import Derived.IntWalk
set_option linter.unusedVariables false
set_option linter.unusedSimpArgs false
namespace Go.Proofs.YtfhepbbkggdlcaaGreatDoor.Px
open Go
def big (n:Int):Bool:=decide (-1000000000000≤n)&&decide (n≤1000000000000)
def byB (b:Int):Bool:=decide (1≤b)&&decide (b≤1000000)
def bz (a b:Int):Bool:=big a&&byB b
def LK (a b:Int):Int×Int:=(a/b,0)
def Lz (a b:Int):Int×Int:=(a%b,0)
def yW (a b r:Int):Bool:=bz a b&&(decide (0≤r)&&decide (r<b))
def Ja (a b r:Int):Int×Int:=(a+(r-a%b)%b,0)
def dR (y:Int):Bool:=(y.tmod 4==0&&y.tmod 100 != 0)||y.tmod 400==0
def TJ:List Int:=[31,28,31,30,31,30,31,31,30,31,30,31]
def bk (y m:Int):Bool:=decide (1≤y)&&(decide (y≤9999)&&(decide (1≤m)&&decide (m≤12)))
def ai (y m:Int):Int:=cond (bk y m) (cond (m==2&&dR y) 29 (cT TJ (m-1).toNat)) 0
def pV (y:Int):Bool:=decide (1≤y)&&decide (y≤10000)
def aG (y:Int):Int:=365*(y-1)+(y-1)/4-(y-1)/100+(y-1)/400
def aF (y:Int):Nat→Int
 |0=>0
 |k+1=>aF y k+ai y ((k:Int)+1)
def Rg (y:Int):U4:=⟨0,aF y 1,aF y 2,aF y 3,aF y 4,aF y 5,aF y 6,aF y 7,aF y 8,aF y 9,aF y 10,aF y 11,aF y 12⟩
def tU (d:Date):Int×Int:=cond (decide (d.day<1)||decide (d.day>ai d.year d.month)) (0,20) (aG d.year+aF d.year (d.month-1).toNat+d.day,0)
def U1:Date:=⟨0,0,0⟩
def wr (n:Int):Int:=IntKind.wrap IntKind.i64 n
def ofC (n:Int):Int:=Int.tmod (wr (n-1)) 146097
def ofQ (n:Int):Int:=bif decide (3<wr ((ofC n).tdiv 36524))then 3 else wr ((ofC n).tdiv 36524)
def ofD (n:Int):Int:=wr (ofC n-wr (ofQ n*36524))
def ofE (n:Int):Int:=Int.tmod (ofD n) 1461
def ofO (n:Int):Int:=bif decide (3<wr ((ofE n).tdiv 365))then 3 else wr ((ofE n).tdiv 365)
def lfG (n:Int):Int:=wr (ofE n-wr (ofO n*365))
def yrG (n:Int):Int:=wr (wr (wr (1+wr (400*wr ((wr (n-1)).tdiv 146097)))+wr (wr (100*ofQ n)+wr (4*wr ((ofD n).tdiv 1461))))+ofO n)
def nN (y left:Int) (m:Nat):Nat→Nat
 |0=>m
 |k+1=>cond (decide (left<aF y m)) m (nN y left (m+1) k)
def oo (n:Int):Nat:=nN (yrG n) (lfG n) 1 11
def ofG (n:Int):Date×Int:=cond (decide (n<1)||decide (n>3652059)) (U1,21) (⟨yrG n,((oo n:Nat):Int),lfG n-aF (yrG n) (oo n-1)+1⟩,0)
def aM (y m:Int):Int:=aG y+aF y (m-1).toNat+1
def cw (y m w:Int):Int:=aM y m+(w-aM y m%7)%7
def dI (w k:Int):Bool:=decide (w<0)||decide (w>6)||(k != -1&&(decide (k<1)||decide (k>5)))
def kd (y m w k:Int):Int×Int:=cond (ai y m==0) (0,20) (cond (dI w k) (0,22)
 (cond (k== -1) (cw y m w+(aM y m+ai y m-1-cw y m w)/7*7,0)
  (cond (decide (cw y m w+7*(k-1)≥aM y m+ai y m)) (0,22) (cw y m w+7*(k-1),0))))
theorem wrI {n:Int} (h: -9223372036854775808≤n∧n≤9223372036854775807):IntKind.wrap IntKind.i64 n=n:=IntWalk.i64_in _ (by omega)
theorem yu {a b:Int} (hb:1≤b):(a.tmod b<0→a/b=a.tdiv b-1∧a%b=a.tmod b+b)∧(0≤a.tmod b→a/b=a.tdiv b∧a%b=a.tmod b)∧ -b<a.tmod b∧a.tmod b<b:=by
 have h1:a=b*a.tdiv b+a.tmod b:=(Int.mul_tdiv_add_tmod a b).symm
 have h2:a.tmod b<b:=Int.tmod_lt_of_pos a (by omega)
 have h3: -b<a.tmod b:=by
  have:=Int.tmod_lt_of_pos (-a) (show 0<b by omega)
  rw[Int.neg_tmod]at this
  omega
 have e1:a=b*(a/b)+a%b:=(Int.mul_ediv_add_emod a b).symm
 have e2:=Int.emod_nonneg a (show b≠0 by omega)
 have e3:=Int.emod_lt_of_pos a (show 0<b by omega)
 have key:∀q r:Int,a=b*q+r→0≤r→r<b→a/b=q∧a%b=r:=by
  intro q r h hr0 hrb
  have:=(Int.ediv_emod_unique (a:=a) (b:=b) (r:=r) (q:=q) (by omega)).2 ⟨by omega,hr0,hrb⟩
  exact this
 refine⟨fun h=>key _ _ ?_ (by omega) (by omega),fun h=>key _ _ h1 h h2,h3,h2⟩
 rw[Int.mul_sub]
 omega
theorem dr (y m:Int):0≤ai y m∧ai y m≤31∧(ai y m≠0→1≤y∧y≤9999∧1≤m∧m≤12):=by
 unfold ai
 cases h:bk y m with
 |false=>simp
 |true=>
  simp only[bk,WW,WY]at h
  have hm:m=1∨m=2∨m=3∨m=4∨m=5∨m=6∨m=7∨m=8∨m=9∨m=10∨m=11∨m=12:=by omega
  refine⟨?_,?_,fun _=>h⟩<;>rcases hm with rfl|rfl|rfl|rfl|rfl|rfl|rfl|rfl|rfl|rfl|rfl|rfl<;>cases dR y<;>decide
theorem dL (y:Int):∀k:Nat,0≤aF y k∧aF y k≤31*(k:Int)
 |0=>by simp[aF]
 |k+1=>by
  have h1:=dL y k
  have h2:=dr y ((k:Int)+1)
  simp only[aF]
  omega
theorem cW {y:Int} (h1:1≤y) (h2:y≤10000):0≤aG y∧aG y≤3700000:=by
 unfold aG
 omega
end Go.Proofs.YtfhepbbkggdlcaaGreatDoor.Px
namespace Go.Proofs.YtfhepbbkggdlcaaGreatDoor.Px
open Go
def lit (n:Int):Bool:=decide (-100000≤n)&&decide (n≤100000)
def mid (n:Int):Bool:=decide (-100000000000≤n)&&decide (n≤100000000000)
def dX (z:a8) (x:oi) (_:Int):Bool:=lit z.base&&lit x.minute
def bU (z:a8) (x:oi) (y:Int):Int:=(kd y x.month x.weekday (cond (x.ck==5) (-1) x.ck)).1*1440+x.minute-z.base
def iK (z:a8):Bool:=lit z.base&&(lit z.on.minute&&lit z.off.minute)
def cP (z:a8) (t:Int):Bool:=iK z&&mid t
def cG (z:a8) (t:Int):Int:=(ofG ((t+z.base)/1440)).1.year
def J8 (t a b:Int):Bool:=(decide (a<b)&&(decide (a≤t)&&decide (t<b)))||(decide (b<a)&&(decide (t<b)||decide (a≤t)))
def bD (z:a8) (t:Int):Int:=cond (z.shift==0) 0 (cond (J8 t (bU z z.on (cG z t)) (bU z z.off (cG z t))) z.shift 0)
def qd (z:a8) (d m:Int):List Int×Int:=
 cond (ao z != 0) ([],ao z) (cond (!inB d 401 3651998|| !inB m 0 1439) ([],64)
  ((cond (decide (z.shift>0)&&decide (bD z (d*1440+m-z.base-z.shift)>0)) [d*1440+m-z.base-z.shift] [])++cond (bD z (d*1440+m-z.base)==0) [d*1440+m-z.base] [],0))
end Go.Proofs.YtfhepbbkggdlcaaGreatDoor.Px


namespace Go.Proofs.YtfhepbbkggdlcaaGreatDoor.Px
open Go
theorem OU {n:Int} (h1:1≤n) (h2:n≤3652059):ofC n=(n-1)%146097∧ofQ n=(if 3<ofC n/36524 then 3 else ofC n/36524)∧ofD n=ofC n-ofQ n*36524∧ofE n=ofD n%1461∧ofO n=(if 3<ofE n/365 then 3 else ofE n/365)∧lfG n=ofE n-ofO n*365∧
  yrG n=1+400*((n-1)/146097)+(100*ofQ n+4*(ofD n/1461))+ofO n:=by
 have w0:wr (n-1)=n-1:=wrI (by omega)
 have c1:ofC n=(n-1)%146097:=by unfold ofC;rw[w0];exact Int.tmod_eq_emod_of_nonneg (by omega)
 have c2:ofQ n=(if 3<ofC n/36524 then 3 else ofC n/36524):=by
  unfold ofQ
  rw[Int.tdiv_eq_ediv_of_nonneg (by omega),show wr (ofC n/36524)=ofC n/36524 from wrI (by omega),Bool.cond_decide]
 have q0:0≤ofQ n∧ofQ n≤3:=by rw[c2];split<;>omega
 have c3:ofD n=ofC n-ofQ n*36524:=by
  unfold ofD
  rw[show wr (ofQ n*36524)=ofQ n*36524 from wrI (by omega)]
  exact wrI (by omega)
 have d0:0≤ofD n∧ofD n≤36524:=by rw[c3,c2];split<;>omega
 have c4:ofE n=ofD n%1461:=by unfold ofE;exact Int.tmod_eq_emod_of_nonneg (by omega)
 have c5:ofO n=(if 3<ofE n/365 then 3 else ofE n/365):=by
  unfold ofO
  rw[Int.tdiv_eq_ediv_of_nonneg (by omega),show wr (ofE n/365)=ofE n/365 from wrI (by omega),Bool.cond_decide]
 have o0:0≤ofO n∧ofO n≤3:=by rw[c5];split<;>omega
 refine⟨c1,c2,c3,c4,c5,?_,?_⟩
 ·unfold lfG
  rw[show wr (ofO n*365)=ofO n*365 from wrI (by omega)]
  exact wrI (by omega)
 ·unfold yrG
  rw[w0,Int.tdiv_eq_ediv_of_nonneg (show 0≤n-1 by omega),Int.tdiv_eq_ediv_of_nonneg d0.1]
  rw[show wr ((n-1)/146097)=(n-1)/146097 from wrI (by omega),show wr (ofD n/1461)=ofD n/1461 from wrI (by omega),show wr (400*((n-1)/146097))=400*((n-1)/146097) from wrI (by omega),
   show wr (100*ofQ n)=100*ofQ n from wrI (by omega),show wr (4*(ofD n/1461))=4*(ofD n/1461) from wrI (by omega),show wr (1+400*((n-1)/146097))=1+400*((n-1)/146097) from wrI (by omega),
   show wr (100*ofQ n+4*(ofD n/1461))=100*ofQ n+4*(ofD n/1461) from wrI (by omega),show wr (1+400*((n-1)/146097)+(100*ofQ n+4*(ofD n/1461)))=1+400*((n-1)/146097)+(100*ofQ n+4*(ofD n/1461)) from wrI (by omega)]
  exact wrI (by omega)
theorem GL {a c b d:Int} (hc:0≤c∧c≤3) (hb:0≤b∧b≤24) (hd:0≤d∧d≤3):aG (1+400*a+(100*c+4*b)+d)=146097*a+36524*c+1461*b+365*d:=by
 unfold aG
 have e:1+400*a+(100*c+4*b)+d-1=400*a+100*c+4*b+d:=by omega
 rw[e]
 have h4:(400*a+100*c+4*b+d)/4=100*a+25*c+b:=by omega
 have h100:(400*a+100*c+4*b+d)/100=4*a+c:=by omega
 have h400:(400*a+100*c+4*b+d)/400=a:=by omega
 rw[h4,h100,h400]
 omega
theorem Ix {a c b d:Int} (hc:0≤c∧c≤3) (hb:0≤b∧b≤24) (hd:0≤d∧d≤3):aG (1+400*a+(100*c+4*b)+d+1)=146097*a+36524*c+1461*b+365*d+365+(if d=3∧(b<24∨c=3)then 1 else 0):=by
 unfold aG
 have e:1+400*a+(100*c+4*b)+d+1-1=400*a+100*c+4*b+d+1:=by omega
 rw[e]
 have h4:(400*a+100*c+4*b+d+1)/4=100*a+25*c+b+(if d=3 then 1 else 0):=by split<;>omega
 have h100:(400*a+100*c+4*b+d+1)/100=4*a+c+(if d=3∧b=24 then 1 else 0):=by split<;>omega
 have h400:(400*a+100*c+4*b+d+1)/400=a+(if d=3∧b=24∧c=3 then 1 else 0):=by split<;>omega
 rw[h4,h100,h400]
 by_cases h1:d=3<;>by_cases h2:b=24<;>by_cases h3:c=3<;>simp only[h1,h2,h3,true_and,and_true,false_and,and_false,if_true,if_false,or_true,or_false]<;>(repeat' split)<;>omega
theorem mA {n:Int} (h1:1≤n) (h2:n≤3652059):1≤yrG n∧yrG n≤9999∧0≤lfG n∧lfG n≤365∧n=aG (yrG n)+lfG n+1∧n≤aG (yrG n+1):=by
 obtain⟨c1,c2,c3,c4,c5,c6,c7⟩:=OU h1 h2
 have q0:0≤ofQ n∧ofQ n≤3:=by rw[c2];split<;>omega
 have d0:0≤ofD n∧ofD n≤36524∧(ofD n=36524→ofQ n=3):=by rw[c3,c2];split<;>omega
 have b0:0≤ofD n/1461∧ofD n/1461≤24:=by omega
 have o0:0≤ofO n∧ofO n≤3:=by rw[c5];split<;>omega
 have l0:0≤lfG n∧lfG n≤365∧(lfG n=365→ofO n=3∧ofE n=1460):=by rw[c6,c5];split<;>omega
 have hb:=GL (a:=(n-1)/146097) q0 b0 o0
 have hn:=Ix (a:=(n-1)/146097) q0 b0 o0
 rw[←c7]at hb hn
 have s1:n-1=146097*((n-1)/146097)+ofC n:=by rw[c1];exact(Int.mul_ediv_add_emod _ _).symm
 have s2:ofC n=36524*ofQ n+ofD n:=by clear hb hn s1 c1 c2 c4 c5 c6 c7;omega
 have s3:ofD n=1461*(ofD n/1461)+ofE n:=by rw[c4];exact(Int.mul_ediv_add_emod _ _).symm
 have s4:ofE n=365*ofO n+lfG n:=by clear hb hn s1 s2 s3 c1 c2 c3 c4 c5 c7;omega
 have hA:(n-1)/146097≤24:=by clear hb hn s1 s2 s3 s4 c1 c2 c3 c4 c5 c6 c7 q0 d0 b0 o0 l0;omega
 have hE:ofE n=1460→ofD n/1461=24→ofQ n=3:=by
  intro e1 e2
  apply d0.2.2
  clear hb hn s1 s2 s4 c1 c2 c3 c4 c5 c6 c7 q0 d0 b0 o0 l0
  omega
 have hy1:1≤yrG n∧yrG n≤10000:=by
  rw[c7]
  clear hb hn s1 s2 s3 s4 c1 c2 c3 c4 c5 c6 c7 d0 l0 hE
  have:0≤(n-1)/146097:=by omega
  omega
 clear c1 c2 c3 c4 c5 c6 c7 d0
 generalize (n-1)/146097=A at*
 generalize ofD n/1461=B at*
 generalize ofC n=C at*
 generalize ofQ n=Q at*
 generalize ofD n=D at*
 generalize ofE n=E at*
 generalize ofO n=O at*
 generalize lfG n=L at*
 have e:n=aG (yrG n)+L+1:=by rw[hb];omega
 have hlt:n≤aG (yrG n+1):=by
  rw[hn]
  by_cases hl:L=365
  ·obtain⟨l1,l2⟩:=l0.2.2 hl
   have hq:=hE l2
   by_cases hB:B=24
   ·have:=hq hB
    rw[if_pos ⟨l1, .inr this⟩]
    omega
   ·rw[if_pos ⟨l1, .inl (by omega)⟩]
    omega
  ·split<;>omega
 refine⟨hy1.1,?_,l0.1,l0.2.1,e,hlt⟩
 by_cases hy:yrG n=10000
 ·have:aG 10000=3652059:=by decide
  rw[hy,this]at e
  omega
 ·omega
theorem q7 {y m:Int} (h:ai y m≠0):28≤ai y m:=by
 obtain⟨_,_,r3⟩:=dr y m
 obtain⟨y1,y2,m1,m2⟩:=r3 h
 have hb:bk y m=true:=by simp only[bk,WW,WY];omega
 unfold ai
 rw[hb,WZ]
 have hm:m=1∨m=2∨m=3∨m=4∨m=5∨m=6∨m=7∨m=8∨m=9∨m=10∨m=11∨m=12:=by omega
 rcases hm with rfl|rfl|rfl|rfl|rfl|rfl|rfl|rfl|rfl|rfl|rfl|rfl<;>cases dR y<;>decide
theorem jK {y z:Int} (h0:1≤y) (h:y≤z):aG y≤aG z:=by
 unfold aG
 omega
end Go.Proofs.YtfhepbbkggdlcaaGreatDoor.Px


namespace Go.Proofs.YtfhepbbkggdlcaaGreatDoor.Px
open Go
def qK (a b:Int):Int:=a/b
def KB (a b:Int):Int:=a%b
def eF (y:Int):Int:=cond (dR y) 366 365
def dj (n:Int):Bool:=decide (1≤n)&&decide (n≤3652059)
def rOf (n:Int):Date:=(ofG n).1
def zl (d:Date):Bool:=bk d.year d.month&&lit d.day
def K7 (d:Date):Int:=d.day+aG d.year+aF d.year (d.month-1).toNat
def cR (n:Int):Bool:=mid n
def av (n:Int):Int:=n%7
def HW (y r:Int):Nat:=nN y (r-1) 1 11
def n6 (y m w:Int):Int:=(aM y m+ai y m-1-cw y m w)/7+1
def GQ (k c:Int):Bool:=k== -1||decide (k>c)
def mY (z:a8) (t:Int):Bool:=cond (z.shift==0) false (cond (decide (bU z z.on (cG z t)<bU z z.off (cG z t)))
 (decide (bU z z.on (cG z t)≤t)&&decide (t<bU z z.off (cG z t))) (!(decide (bU z z.off (cG z t)≤t)&&decide (t<bU z z.on (cG z t)))))
def cE (z:a8) (t:Int):Bool:=cP z t&&(lit z.shift&&dj ((t+z.base)/1440))
def bM (z:a8) (t:Int):Int:=cond (mY z t) (t+z.base+z.shift) (t+z.base)
def kU (z:a8) (d m:Int):Bool:=iK z&&(decide (-720≤z.base)&&(decide (z.base≤840)&&(decide (0≤z.shift)&&(decide (z.shift≤120)&&(decide (401≤d)&&(decide (d≤3651998)&&(decide (0≤m)&&decide (m≤1439))))))))
def kr (z:a8) (d m:Int):List Int:=
 (cond (decide (z.shift>0)&&(bM z (d*1440+m-z.base-z.shift)==d*1440+m)) [d*1440+m-z.base-z.shift] [])++cond (bM z (d*1440+m-z.base)==d*1440+m) [d*1440+m-z.base] []
def du (d:Int):Bool:=cond (decide (402≤d)) (decide (d≤3651990)) false
def bp (f:Int→List Int):Nat→Int→Int
 |0,t=>t
 |k+1,t=>cond (f t).isEmpty (bp f k (t+1)) t
def pD (f:Int→List Int) (k:Nat) (t:Int):Int:=(f (bp f k t)).getD 0 0
def bX (f:Int→List Int):Nat→Int→Bool
 |0,t=> !(f t).isEmpty
 |k+1,t=> !(f t).isEmpty||bX f k (t+1)
def gy (z:a8) (t:Int):List Int:=(qd z (t/1440) (t%1440)).1
def dG (z:a8) (t:Int):List Int:=kr z (t/1440) (t%1440)
def fp (t:Int):Bool:=decide (578880≤t)&&decide (t≤5258867040)
def mg (d m:Int):Bool:=du d&&(decide (0≤m)&&decide (m<1440))
def cL (z:a8) (d m:Int):Int×Int:=cond (ao z != 0) (0,ao z) (cond (mg d m) (pD (gy z) 200 (d*1440+m),0) (0,140))
def HK (z:a8) (d m:Int):Int:=pD (dG z) 200 (d*1440+m)
def zy (z:a8) (d m:Int):Bool:=ao z==0&&mg d m
def TW (w:ag):Bool:=w.kind==1
def Jg (a b:List Int):Bool:=decide (a=b)
def zN (_:ag):Unit:=()
def Cel.void:Cel Unit where
 kinds:=[]
 enc _:=[]
 dec l:=some ((),l)
 uv:=()
 back l x r h:=by
  simp only[WV,Prod.mk.injEq,true_and]at h
  rw[h,List.nil_append]
 ok _:=rfl
 total ks l h:=⟨(),l,rfl,h⟩
abbrev Dat.void {X:bP}:Dat (X:=X) Unit:=Dat.ah Cel.void
def vF (c:Config) (w:ag) (d:Int) (b:Bool):Int×Int×Bool:=((cL c.aE d w.minute).1,IntKind.i64.wrap ((cL c.aE d w.minute).1+w.len),b)
def Fx (_:Unit) (_:Config) (_:ag) (d:Int):Bool:=cR d
def yo (_:Unit) (c:Config) (w:ag) (d:Int):Int×Int×Bool:=vF c w d (bits .and .i64 (w.arg.fdiv (2^(min (d%7).toNat 64))) 1==1)
end Go.Proofs.YtfhepbbkggdlcaaGreatDoor.Px


namespace Go.Proofs.YtfhepbbkggdlcaaGreatDoor.Px
open Go
theorem Pt {y:Int} (h:1≤y):dR y=true↔(y%4=0∧y%100≠0)∨y%400=0:=by
 unfold dR
 rw[Int.tmod_eq_emod_of_nonneg (by omega),Int.tmod_eq_emod_of_nonneg (by omega),Int.tmod_eq_emod_of_nonneg (by omega)]
 simp only[Bool.or_eq_true,WW,beq_iff_eq,bne_iff_ne,ne_eq]
theorem jL {y:Int} (h:1≤y):aG (y+1)=aG y+eF y:=by
 unfold aG eF
 rw[show y+1-1=y by omega]
 have hi:=Pt h
 have h4:y/4=(y-1)/4+(if y%4=0 then 1 else 0):=by split<;>omega
 have h100:y/100=(y-1)/100+(if y%100=0 then 1 else 0):=by split<;>omega
 have h400:y/400=(y-1)/400+(if y%400=0 then 1 else 0):=by split<;>omega
 have d4:y%100=0→y%4=0:=by omega
 have d1:y%400=0→y%100=0:=by omega
 rw[h4,h100,h400]
 cases hl:dR y with
 |true=>
  have hn:=hi.1 hl
  rw[WZ]
  clear hi h4 h100 h400
  (repeat' split)<;>omega
 |false=>
  have hn:=mt hi.2 (by rw[hl];decide)
  rw[W2]
  clear hi h4 h100 h400
  (repeat' split)<;>omega
theorem Ip {y:Int} (h1:1≤y) (h2:y≤9999):aF y 12=eF y:=by
 have hb:∀m:Int,1≤m→m≤12→bk y m=true:=fun m a b=>by simp only[bk,WW,WY];omega
 have e:∀m:Nat,m<12→ai y ((m:Int)+1)=cond (((m:Int)+1)==2&&dR y) 29 (cT TJ ((m:Int)+1-1).toNat):=fun m hm=>by
  unfold ai
  rw[hb _ (by omega) (by omega),WZ]
 simp only[aF,eF]
 rw[e 0 (by omega),e 1 (by omega),e 2 (by omega),e 3 (by omega),e 4 (by omega),e 5 (by omega),e 6 (by omega),e 7 (by omega),e 8 (by omega),e 9 (by omega),e 10 (by omega),e 11 (by omega)]
 cases dR y<;>rfl
theorem sA {y m:Int} (h:bk y m=true):1≤aM y m∧aM y m≤3700400:=by
 simp only[bk,WW,WY]at h
 have h1:=cW (y:=y) (by omega) (by omega)
 have h2:=dL y (m-1).toNat
 unfold aM
 omega
theorem Oo (y:Int):∀{i j:Nat},i≤j→aF y i≤aF y j:=by
 intro i j h
 induction j with
 |zero=>rw[show i=0 by omega];exact Int.le_refl _
 |succ j ih=>
  by_cases e:i=j+1
  ·rw[e];exact Int.le_refl _
  ·have:=ih (by omega)
   have:=dr y ((j:Int)+1)
   simp only[aF]
   omega
theorem Dl {y m:Int} (h:bk y m=true):aM y (m+1)=aM y m+ai y m:=by
 simp only[bk,WW,WY]at h
 unfold aM
 have e:(m+1-1).toNat=(m-1).toNat+1:=by omega
 rw[e]
 simp only[aF]
 rw[show(((m-1).toNat:Nat):Int)+1=m by omega]
 omega
theorem jr {y m:Int} (h:bk y m=true):28≤ai y m∧ai y m≤31:=by
 refine⟨q7 ?_,(dr y m).2.1⟩
 simp only[bk,WW,WY]at h
 have hb:bk y m=true:=by simp only[bk,WW,WY];omega
 unfold ai
 rw[hb,WZ]
 have hm:m=1∨m=2∨m=3∨m=4∨m=5∨m=6∨m=7∨m=8∨m=9∨m=10∨m=11∨m=12:=by omega
 rcases hm with rfl|rfl|rfl|rfl|rfl|rfl|rfl|rfl|rfl|rfl|rfl|rfl<;>cases dR y<;>decide
theorem ER {y m n:Int} (hm:bk y m=true) (hn:bk y n=true) (h:m+2≤n):aM y m+ai y m+28≤aM y n:=by
 have hm':=hm
 have hn':=hn
 simp only[bk,WW,WY]at hm' hn'
 have hk:bk y (m+1)=true:=by simp only[bk,WW,WY];omega
 have e1:=Dl hm
 have e2:=Dl hk
 have e3:=jr hk
 have:aM y (m+1+1)≤aM y n:=by
  unfold aM
  have:=Oo y (i:=(m+1+1-1).toNat) (j:=(n-1).toNat) (by omega)
  omega
 omega
theorem On {y m w k:Int} (hm:bk y m=true) (hw:0≤w∧w≤6) (hk:1≤k∧k≤5):
  aM y m≤(kd y m w (cond (k==5) (-1) k)).1∧(kd y m w (cond (k==5) (-1) k)).1<aM y m+ai y m:=by
 have hd:=jr hm
 have hf:aM y m≤cw y m w∧cw y m w≤aM y m+6:=by unfold cw;omega
 unfold kd
 rw[show(ai y m==0)=false by rw[beq_eq_false_iff_ne];omega,W2]
 by_cases h5:k=5
 ·subst h5
  rw[show((5:Int)==5)=true from rfl,WZ]
  have hb:dI w (-1)=false:=by
   unfold dI
   rw[show decide (w<0)=false by simp;omega,show decide (w>6)=false by simp;omega]
   rfl
  rw[hb,W2,show((-1:Int)== -1)=true from rfl,WZ]
  simp only
  omega
 ·rw[show(k==5)=false by rw[beq_eq_false_iff_ne];omega,W2]
  have hb:dI w k=false:=by
   unfold dI
   rw[show decide (w<0)=false by simp;omega,show decide (w>6)=false by simp;omega,show decide (k<1)=false by simp;omega,show decide (k>5)=false by simp;omega]
   simp
  rw[hb,W2,show(k== -1)=false by rw[beq_eq_false_iff_ne];omega,W2,show decide (cw y m w+7*(k-1)≥aM y m+ai y m)=false by simp;omega,W2]
  simp only
  omega
theorem CV {x:oi} (h:gL x=true):(1≤x.month∧x.month≤12)∧(1≤x.ck∧x.ck≤5)∧(0≤x.weekday∧x.weekday≤6)∧(0≤x.minute∧x.minute≤1439):=by
 simp only[gL,WW,bF]at h
 exact⟨h.1.1.1,h.1.1.2,h.1.2,h.2⟩
theorem zJ {z:a8} (h:ka z=true):gL z.on=true∧gL z.off=true∧(z.on.month+2≤z.off.month∨z.off.month+2≤z.on.month):=by
 simp only[ka,WW,bF]at h
 refine⟨h.1.1,h.1.2,?_⟩
 have:=h.2
 unfold apart at this
 split at this<;>omega
theorem JE {z:a8} {y:Int} (h:ka z=true) (h1:1≤y) (h2:y≤9999):(z.on.month+2≤z.off.month→bU z z.on y+20000≤bU z z.off y)∧(z.off.month+2≤z.on.month→bU z z.off y+20000≤bU z z.on y):=by
 obtain⟨a,b,_⟩:=zJ h
 obtain⟨a1,a2,a3,a4⟩:=CV a
 obtain⟨b1,b2,b3,b4⟩:=CV b
 have ha:bk y z.on.month=true:=by simp only[bk,WW,WY];omega
 have hb:bk y z.off.month=true:=by simp only[bk,WW,WY];omega
 have na:=On ha a3 a2
 have nb:=On hb b3 b2
 unfold bU
 refine⟨fun h=>?_,fun h=>?_⟩
 ·have:=ER ha hb h
  omega
 ·have:=ER hb ha h
  omega
theorem bx {z:a8} (h:ao z=0):(-720≤z.base∧z.base≤840)∧(0≤z.shift∧z.shift≤120)∧iK z=true∧(z.shift≠0→ka z=true):=by
 unfold ao at h
 cases h1:inB z.base (-720) 840 with
 |false=>rw[h1]at h;simp at h
 |true=>
  rw[h1,WZ]at h
  cases h2:inB z.shift 0 120 with
  |false=>rw[h2]at h;simp at h
  |true=>
   rw[h2,WZ]at h
   rw[bF]at h1 h2
   by_cases h3:z.shift=0
   ·rw[h3]at h
    simp only[beq_self_eq_true,WZ]at h
    cases h4:(decide (z.on=mD)&&decide (z.off=mD))with
    |false=>rw[h4]at h;simp at h
    |true=>
     simp only[WW,WY]at h4
     refine⟨h1,h2,?_,fun hne=>absurd h3 hne⟩
     simp only[iK,lit,h4.1,h4.2,mD,WW,WY]
     omega
   ·have e:(z.shift==0)=false:=by rw[beq_eq_false_iff_ne];exact h3
    rw[e,W2]at h
    cases h4:ka z with
    |false=>rw[h4]at h;simp at h
    |true=>
     refine⟨h1,h2,?_,fun _=>rfl⟩
     simp only[ka,gL,WW,bF]at h4
     simp only[iK,lit,WW,WY]
     omega
theorem cF {n:Int}:dj n=true↔1≤n∧n≤3652059:=by simp[dj]
theorem Sd {z:a8} {t:Int} (h:dj ((t+z.base)/1440)=true):cG z t=yrG ((t+z.base)/1440)∧1≤cG z t∧cG z t≤9999:=by
 have h':=cF.1 h
 obtain⟨y1,y2,_⟩:=mA h'.1 h'.2
 have e:cG z t=yrG ((t+z.base)/1440):=by
  unfold cG ofG
  rw[show(decide ((t+z.base)/1440<1)||decide ((t+z.base)/1440>3652059))=false by simp;omega,W2]
 rw[e]
 exact⟨rfl,y1,y2⟩
theorem kH {z:a8} {t:Int} (hz:ao z=0) (hd:dj ((t+z.base)/1440)=true):mY z t=decide (bD z t>0)∧(bD z t=0∨bD z t=z.shift):=by
 obtain⟨_,hs,_,hb⟩:=bx hz
 obtain⟨_,y1,y2⟩:=Sd hd
 unfold mY bD
 by_cases h0:z.shift=0
 ·rw[h0]
  exact⟨rfl, .inl rfl⟩
 ·have e:(z.shift==0)=false:=by rw[beq_eq_false_iff_ne];exact h0
  rw[e,W2,W2]
  have hw:=JE (hb h0) y1 y2
  have ht:=(zJ (hb h0)).2.2
  generalize bU z z.on (cG z t)=a at*
  generalize bU z z.off (cG z t)=b at*
  have hab:a<b∨b<a:=by rcases ht with h|h<;>omega
  clear hw ht hb e hd y1 y2 hz
  refine⟨?_,?_⟩
  ·unfold J8
   rcases hab with h|h
   ·rw[show decide (a<b)=true by simpa using h,show decide (b<a)=false by simp;omega]
    simp only[WZ,Bool.true_and,Bool.false_and,Bool.or_false]
    cases (decide (a≤t)&&decide (t<b))
    ·rfl
    ·simp only[WZ]
     symm;simp;omega
   ·rw[show decide (a<b)=false by simp;omega,show decide (b<a)=true by simpa using h]
    simp only[W2,Bool.true_and,Bool.false_and,Bool.false_or]
    rw[show(!(decide (b≤t)&&decide (t<a)))=(decide (t<b)||decide (a≤t)) by rw[Bool.eq_iff_iff];simp;try omega]
    cases (decide (t<b)||decide (a≤t))
    ·rfl
    ·simp only[WZ]
     symm;simp;omega
  ·cases J8 t a b
   ·exact .inl rfl
   ·exact .inr rfl
theorem xW {n a b:Int} (h1:a≤n) (h2:n≤b):inB n a b=true:=bF.2 ⟨h1,h2⟩
theorem K5 {z:a8} {t x:Int} (hz:ao z=0) (h1:578880≤t) (h2:t≤5258868000) (h3:t-2000≤x) (h4:x≤t+2000):dj ((x+z.base)/1440)=true:=by
 obtain⟨hb,_⟩:=bx hz
 rw[cF]
 omega
theorem sj {z:a8} {t:Int} (hz:ao z=0) (h1:578880≤t) (h2:t≤5258868000):dG z t=gy z t∧gy z t=(cond (decide (z.shift>0)&&decide (bD z (t-z.base-z.shift)>0)) [t-z.base-z.shift] [])++cond (bD z (t-z.base)==0) [t-z.base] []:=by
 obtain⟨hb,hs,_⟩:=bx hz
 have et:t/1440*1440+t%1440=t:=by omega
 have d1:=K5 (x:=t-z.base-z.shift) hz h1 h2 (by omega) (by omega)
 have d2:=K5 (x:=t-z.base) hz h1 h2 (by omega) (by omega)
 obtain⟨s1,o1⟩:=kH hz d1
 obtain⟨s2,o2⟩:=kH hz d2
 have eG:gy z t=(cond (decide (z.shift>0)&&decide (bD z (t-z.base-z.shift)>0)) [t-z.base-z.shift] [])++cond (bD z (t-z.base)==0) [t-z.base] []:=by
  unfold gy qd
  rw[hz,show((0:Int) != 0)=false from rfl,W2,xW (n:=t/1440) (by omega) (by omega),xW (n:=t%1440) (by omega) (by omega),et]
  rfl
 refine⟨?_,eG⟩
 rw[eG]
 unfold dG kr
 rw[et]
 have k1:(decide (z.shift>0)&&(bM z (t-z.base-z.shift)==t))=(decide (z.shift>0)&&decide (bD z (t-z.base-z.shift)>0)):=by
  by_cases h0:z.shift>0
  ·rw[show decide (z.shift>0)=true by simpa using h0,Bool.true_and,Bool.true_and]
   unfold bM
   rw[s1]
   cases decide (bD z (t-z.base-z.shift)>0)
   ·rw[W2,beq_eq_false_iff_ne];omega
   ·rw[WZ,beq_iff_eq];omega
  ·rw[show decide (z.shift>0)=false by simpa using h0,Bool.false_and,Bool.false_and]
 have k2:(bM z (t-z.base)==t)=(bD z (t-z.base)==0):=by
  unfold bM
  rw[s2]
  rcases o2 with e|e
  ·rw[e]
   simp
  ·rw[e]
   by_cases h0:z.shift>0
   ·rw[show decide (z.shift>0)=true by simpa using h0,WZ]
    rw[Bool.eq_iff_iff,beq_iff_eq,beq_iff_eq];omega
   ·rw[show z.shift=0 by omega];simp
 rw[k1,k2]
theorem BT {f:Int→List Int}:∀{k j:Nat} {t:Int},j≤k→(f (t+j)).isEmpty=false→bX f k t=true
 |0,j,t,hj,h=>by
  rw[show j=0 by omega,show t+((0:Nat):Int)=t by omega]at h
  simp only[bX,h,Bool.not_false]
 |k+1,j,t,hj,h=>by
  simp only[bX]
  cases j with
  |zero=>
   rw[show t+((0:Nat):Int)=t by omega]at h
   rw[h]
   rfl
  |succ j=>rw[BT (k:=k) (j:=j) (by omega) (by rw[show t+1+(j:Int)=t+((j+1:Nat):Int) by omega];exact h),Bool.or_true]
theorem G3 {z:a8} {t:Int} (hz:ao z=0) (h:fp t=true):bX (gy z) 200 t=true:=by
 simp only[fp,WW,WY]at h
 obtain⟨hb,hs,_⟩:=bx hz
 have e1:=(sj hz h.1 (by omega)).2
 cases he:(gy z t).isEmpty with
 |false=>exact BT (j:=0) (by omega) (by rw[show t+((0:Nat):Int)=t by omega];exact he)
 |true=>
  have d2:=K5 (x:=t-z.base) hz h.1 (by omega) (by omega) (by omega)
  obtain⟨s2,o2⟩:=kH hz d2
  have hne:bD z (t-z.base)≠0:=by
   intro e0
   rw[e1,e0]at he
   simp at he
  have e0:bD z (t-z.base)=z.shift:=by rcases o2 with e|e;exact absurd e hne;exact e
  refine BT (j:=z.shift.toNat) (by omega) ?_
  rw[show t+(z.shift.toNat:Int)=t+z.shift by omega,(sj hz (t:=t+z.shift) (by omega) (by omega)).2]
  rw[show t+z.shift-z.base-z.shift=t-z.base by omega,show decide (z.shift>0)=true by simp;omega,show decide (bD z (t-z.base)>0)=true by simp;omega]
  rfl
theorem zW {f g:Int→List Int}:∀{k:Nat} {t:Int},(∀j:Nat,j≤k→f (t+j)=g (t+j))→bX f k t=bX g k t∧bp f k t=bp g k t
 |0,t,h=>by
  have:=h 0 (by omega)
  rw[show t+((0:Nat):Int)=t by omega]at this
  simp only[bX,bp,this,and_self]
 |k+1,t,h=>by
  have h0:=h 0 (by omega)
  rw[show t+((0:Nat):Int)=t by omega]at h0
  obtain⟨a,b⟩:=zW (f:=f) (g:=g) (k:=k) (t:=t+1) (fun j hj=>by
   have:=h (j+1) (by omega)
   rw[show t+((j+1:Nat):Int)=t+1+(j:Int) by omega]at this
   exact this)
  simp only[bX,bp,h0,a,b,and_self]
theorem jI (f:Int→List Int):∀(k:Nat) (t:Int),t≤bp f k t∧bp f k t≤t+k
 |0,t=>by simp[bp]
 |k+1,t=>by
  have:=jI f k (t+1)
  simp only[bp]
  cases (f t).isEmpty<;>simp only[WZ,W2]<;>omega
theorem qX {f:Int→List Int}:∀{k:Nat} {t:Int},bX f k t=true→(f (bp f k t)).isEmpty=false
 |0,t,h=>by simpa[bX,bp]using h
 |k+1,t,h=>by
  simp only[bX,Bool.or_eq_true,Bool.not_eq_true']at h
  simp only[bp]
  cases he:(f t).isEmpty with
  |false=>exact he
  |true=>
   rw[he]at h
   rcases h with h|h
   ·cases h
   ·exact qX h
theorem Ou {z:a8} {t:Int} (hz:ao z=0) (h:fp t=true):bX (dG z) 200 t=true∧bp (dG z) 200 t=bp (gy z) 200 t∧pD (dG z) 200 t=pD (gy z) 200 t:=by
 have h':=h
 simp only[fp,WW,WY]at h'
 obtain⟨a,b⟩:=zW (f:=dG z) (g:=gy z) (k:=200) (t:=t) (fun j hj=>(sj hz (by omega) (by omega)).1)
 refine⟨by rw[a];exact G3 hz h,b,?_⟩
 have:=jI (gy z) 200 t
 unfold pD
 rw[b,(sj hz (by omega) (by omega)).1]
theorem A6 {d m:Int} (h:mg d m=true):fp (d*1440+m)=true:=by
 simp only[mg,du,WW,WY]at h
 have h1:402≤d:=by
  cases hd:decide (402≤d)
  ·rw[hd]at h;simp at h
  ·simpa using hd
 rw[decide_eq_true h1,WZ,WY]at h
 simp only[fp,WW,WY]
 omega
theorem QL {z:a8} {d m:Int} (hz:ao z=0) (h:mg d m=true):cL z d m=(HK z d m,0):=by
 unfold cL HK
 rw[hz,show((0:Int) != 0)=false from rfl,W2,h,WZ,(Ou hz (A6 h)).2.2]
end Go.Proofs.YtfhepbbkggdlcaaGreatDoor.Px
