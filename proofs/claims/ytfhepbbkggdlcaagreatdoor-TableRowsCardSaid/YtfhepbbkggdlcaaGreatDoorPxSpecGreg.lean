/- Days and dates, as plain functions. -/
import Derived.Test.YtfhepbbkggdlcaaGreatDoorPxApi0
import Derived.Test.YtfhepbbkggdlcaaGreatDoorPxSpecConfig
import Derived.IntWalk
set_option linter.unusedVariables false
set_option linter.unusedSimpArgs false
namespace Go.Proofs.YtfhepbbkggdlcaaGreatDoor.Px
open Go
def big (n:Int):Bool:=decide (-1000000000000≤n)&&decide (n≤1000000000000)
def byB (b:Int):Bool:=decide (1≤b)&&decide (b≤1000000)
def bD (a b:Int):Bool:=big a&&byB b
def Me (a b:Int):Int×Int:=(a/b,0)
def MK (a b:Int):Int×Int:=(a%b,0)
def zD (a b r:Int):Bool:=bD a b&&(decide (0≤r)&&decide (r<b))
def II (a b r:Int):Int×Int:=(a+(r-a%b)%b,0)
def dU (y:Int):Bool:=(y.tmod 4==0&&y.tmod 100 != 0)||y.tmod 400==0
def Uv:List Int:=[31,28,31,30,31,30,31,31,30,31,30,31]
def bm (y m:Int):Bool:=decide (1≤y)&&(decide (y≤9999)&&(decide (1≤m)&&decide (m≤12)))
def ai (y m:Int):Int:=cond (bm y m) (cond (m==2&&dU y) 29 (cP Uv (m-1).toNat)) 0
def qx (y:Int):Bool:=decide (1≤y)&&decide (y≤10000)
def aF (y:Int):Int:=365*(y-1)+(y-1)/4-(y-1)/100+(y-1)/400
def aE (y:Int):Nat→Int
 |0=>0
 |k+1=>aE y k+ai y ((k:Int)+1)
def Pj (y:Int):VW:=⟨0,aE y 1,aE y 2,aE y 3,aE y 4,aE y 5,aE y 6,aE y 7,aE y 8,aE y 9,aE y 10,aE y 11,aE y 12⟩
def uZ (d:Date):Int×Int:=cond (decide (d.day<1)||decide (d.day>ai d.year d.month)) (0,20) (aF d.year+aE d.year (d.month-1).toNat+d.day,0)
def Wa:Date:=⟨0,0,0⟩
def wr (n:Int):Int:=IntKind.wrap IntKind.i64 n
def ofC (n:Int):Int:=Int.tmod (wr (n-1)) 146097
def ofQ (n:Int):Int:=bif decide (3<wr ((ofC n).tdiv 36524))then 3 else wr ((ofC n).tdiv 36524)
def ofD (n:Int):Int:=wr (ofC n-wr (ofQ n*36524))
def ofE (n:Int):Int:=Int.tmod (ofD n) 1461
def ofO (n:Int):Int:=bif decide (3<wr ((ofE n).tdiv 365))then 3 else wr ((ofE n).tdiv 365)
def lfG (n:Int):Int:=wr (ofE n-wr (ofO n*365))
def yrG (n:Int):Int:=wr (wr (wr (1+wr (400*wr ((wr (n-1)).tdiv 146097)))+wr (wr (100*ofQ n)+wr (4*wr ((ofD n).tdiv 1461))))+ofO n)
def oC (y left:Int) (m:Nat):Nat→Nat
 |0=>m
 |k+1=>cond (decide (left<aE y m)) m (oC y left (m+1) k)
def oG (n:Int):Nat:=oC (yrG n) (lfG n) 1 11
def ofG (n:Int):Date×Int:=cond (decide (n<1)||decide (n>3652059)) (Wa,21) (⟨yrG n,((oG n:Nat):Int),lfG n-aE (yrG n) (oG n-1)+1⟩,0)
def aN (y m:Int):Int:=aF y+aE y (m-1).toNat+1
def cz (y m w:Int):Int:=aN y m+(w-aN y m%7)%7
def dO (w k:Int):Bool:=decide (w<0)||decide (w>6)||(k != -1&&(decide (k<1)||decide (k>5)))
def kE (y m w k:Int):Int×Int:=cond (ai y m==0) (0,20) (cond (dO w k) (0,22)
 (cond (k== -1) (cz y m w+(aN y m+ai y m-1-cz y m w)/7*7,0)
  (cond (decide (cz y m w+7*(k-1)≥aN y m+ai y m)) (0,22) (cz y m w+7*(k-1),0))))
theorem wrI {n:Int} (h: -9223372036854775808≤n∧n≤9223372036854775807):IntKind.wrap IntKind.i64 n=n:=IntWalk.i64_in _ (by omega)
theorem yI {a b:Int} (hb:1≤b):(a.tmod b<0→a/b=a.tdiv b-1∧a%b=a.tmod b+b)∧(0≤a.tmod b→a/b=a.tdiv b∧a%b=a.tmod b)∧ -b<a.tmod b∧a.tmod b<b:=by
 have h1:a=b*a.tdiv b+a.tmod b:=(Int.mul_tdiv_add_tmod a b).symm
 have h2:a.tmod b<b:=Int.tmod_lt_of_pos a (by omega)
 have h3: -b<a.tmod b:=by
  have:=Int.tmod_lt_of_pos (-a) (show 0<b by omega)
  rw[Int.neg_tmod]at this
  omega
 have e1:a=b*(a/b)+a%b:=(Int.mul_ediv_add_emod a b).symm
 have e2:=Int.emod_nonneg a (show b≠0 by omega)
 have e3:=Int.emod_lt_of_pos a (show 0<b by omega)
 have key:∀q r:Int,a=b*q+r→0≤r→r<b→a/b=q∧a%b=r:=by
  intro q r h hr0 hrb
  have:=(Int.ediv_emod_unique (a:=a) (b:=b) (r:=r) (q:=q) (by omega)).2 ⟨by omega,hr0,hrb⟩
  exact this
 refine⟨fun h=>key _ _ ?_ (by omega) (by omega),fun h=>key _ _ h1 h h2,h3,h2⟩
 rw[Int.mul_sub]
 omega
theorem dm (y m:Int):0≤ai y m∧ai y m≤31∧(ai y m≠0→1≤y∧y≤9999∧1≤m∧m≤12):=by
 unfold ai
 cases h:bm y m with
 |false=>simp
 |true=>
  simp only[bm,XR,XT]at h
  have hm:m=1∨m=2∨m=3∨m=4∨m=5∨m=6∨m=7∨m=8∨m=9∨m=10∨m=11∨m=12:=by omega
  refine⟨?_,?_,fun _=>h⟩<;>rcases hm with rfl|rfl|rfl|rfl|rfl|rfl|rfl|rfl|rfl|rfl|rfl|rfl<;>cases dU y<;>decide
theorem dQ (y:Int):∀k:Nat,0≤aE y k∧aE y k≤31*(k:Int)
 |0=>by simp[aE]
 |k+1=>by
  have h1:=dQ y k
  have h2:=dm y ((k:Int)+1)
  simp only[aE]
  omega
theorem cV {y:Int} (h1:1≤y) (h2:y≤10000):0≤aF y∧aF y≤3700000:=by
 unfold aF
 omega
end Go.Proofs.YtfhepbbkggdlcaaGreatDoor.Px
namespace Go.Proofs.YtfhepbbkggdlcaaGreatDoor.Px
open Go
def lit (n:Int):Bool:=decide (-100000≤n)&&decide (n≤100000)
def mid (n:Int):Bool:=decide (-100000000000≤n)&&decide (n≤100000000000)
def er (z:bc) (x:nU) (_:Int):Bool:=lit z.base&&lit x.minute
def bW (z:bc) (x:nU) (y:Int):Int:=(kE y x.month x.weekday (cond (x.ck==5) (-1) x.ck)).1*1440+x.minute-z.base
def iI (z:bc):Bool:=lit z.base&&(lit z.on.minute&&lit z.off.minute)
def dj (z:bc) (t:Int):Bool:=iI z&&mid t
def cK (z:bc) (t:Int):Int:=(ofG ((t+z.base)/1440)).1.year
def Ke (t a b:Int):Bool:=(decide (a<b)&&(decide (a≤t)&&decide (t<b)))||(decide (b<a)&&(decide (t<b)||decide (a≤t)))
def bK (z:bc) (t:Int):Int:=cond (z.shift==0) 0 (cond (Ke t (bW z z.on (cK z t)) (bW z z.off (cK z t))) z.shift 0)
def qn (z:bc) (d m:Int):List Int×Int:=
 cond (ao z != 0) ([],ao z) (cond (!inB d 401 3651998|| !inB m 0 1439) ([],64)
  ((cond (decide (z.shift>0)&&decide (bK z (d*1440+m-z.base-z.shift)>0)) [d*1440+m-z.base-z.shift] [])++cond (bK z (d*1440+m-z.base)==0) [d*1440+m-z.base] [],0))
end Go.Proofs.YtfhepbbkggdlcaaGreatDoor.Px


namespace Go.Proofs.YtfhepbbkggdlcaaGreatDoor.Px
open Go
theorem RL {n:Int} (h1:1≤n) (h2:n≤3652059):ofC n=(n-1)%146097∧ofQ n=(if 3<ofC n/36524 then 3 else ofC n/36524)∧ofD n=ofC n-ofQ n*36524∧ofE n=ofD n%1461∧ofO n=(if 3<ofE n/365 then 3 else ofE n/365)∧lfG n=ofE n-ofO n*365∧
  yrG n=1+400*((n-1)/146097)+(100*ofQ n+4*(ofD n/1461))+ofO n:=by
 have w0:wr (n-1)=n-1:=wrI (by omega)
 have c1:ofC n=(n-1)%146097:=by unfold ofC;rw[w0];exact Int.tmod_eq_emod_of_nonneg (by omega)
 have c2:ofQ n=(if 3<ofC n/36524 then 3 else ofC n/36524):=by
  unfold ofQ
  rw[Int.tdiv_eq_ediv_of_nonneg (by omega),show wr (ofC n/36524)=ofC n/36524 from wrI (by omega),Bool.cond_decide]
 have q0:0≤ofQ n∧ofQ n≤3:=by rw[c2];split<;>omega
 have c3:ofD n=ofC n-ofQ n*36524:=by
  unfold ofD
  rw[show wr (ofQ n*36524)=ofQ n*36524 from wrI (by omega)]
  exact wrI (by omega)
 have d0:0≤ofD n∧ofD n≤36524:=by rw[c3,c2];split<;>omega
 have c4:ofE n=ofD n%1461:=by unfold ofE;exact Int.tmod_eq_emod_of_nonneg (by omega)
 have c5:ofO n=(if 3<ofE n/365 then 3 else ofE n/365):=by
  unfold ofO
  rw[Int.tdiv_eq_ediv_of_nonneg (by omega),show wr (ofE n/365)=ofE n/365 from wrI (by omega),Bool.cond_decide]
 have o0:0≤ofO n∧ofO n≤3:=by rw[c5];split<;>omega
 refine⟨c1,c2,c3,c4,c5,?_,?_⟩
 ·unfold lfG
  rw[show wr (ofO n*365)=ofO n*365 from wrI (by omega)]
  exact wrI (by omega)
 ·unfold yrG
  rw[w0,Int.tdiv_eq_ediv_of_nonneg (show 0≤n-1 by omega),Int.tdiv_eq_ediv_of_nonneg d0.1]
  rw[show wr ((n-1)/146097)=(n-1)/146097 from wrI (by omega),show wr (ofD n/1461)=ofD n/1461 from wrI (by omega),show wr (400*((n-1)/146097))=400*((n-1)/146097) from wrI (by omega),
   show wr (100*ofQ n)=100*ofQ n from wrI (by omega),show wr (4*(ofD n/1461))=4*(ofD n/1461) from wrI (by omega),show wr (1+400*((n-1)/146097))=1+400*((n-1)/146097) from wrI (by omega),
   show wr (100*ofQ n+4*(ofD n/1461))=100*ofQ n+4*(ofD n/1461) from wrI (by omega),show wr (1+400*((n-1)/146097)+(100*ofQ n+4*(ofD n/1461)))=1+400*((n-1)/146097)+(100*ofQ n+4*(ofD n/1461)) from wrI (by omega)]
  exact wrI (by omega)
theorem F5 {a c b d:Int} (hc:0≤c∧c≤3) (hb:0≤b∧b≤24) (hd:0≤d∧d≤3):aF (1+400*a+(100*c+4*b)+d)=146097*a+36524*c+1461*b+365*d:=by
 unfold aF
 have e:1+400*a+(100*c+4*b)+d-1=400*a+100*c+4*b+d:=by omega
 rw[e]
 have h4:(400*a+100*c+4*b+d)/4=100*a+25*c+b:=by omega
 have h100:(400*a+100*c+4*b+d)/100=4*a+c:=by omega
 have h400:(400*a+100*c+4*b+d)/400=a:=by omega
 rw[h4,h100,h400]
 omega
theorem JS {a c b d:Int} (hc:0≤c∧c≤3) (hb:0≤b∧b≤24) (hd:0≤d∧d≤3):aF (1+400*a+(100*c+4*b)+d+1)=146097*a+36524*c+1461*b+365*d+365+(if d=3∧(b<24∨c=3)then 1 else 0):=by
 unfold aF
 have e:1+400*a+(100*c+4*b)+d+1-1=400*a+100*c+4*b+d+1:=by omega
 rw[e]
 have h4:(400*a+100*c+4*b+d+1)/4=100*a+25*c+b+(if d=3 then 1 else 0):=by split<;>omega
 have h100:(400*a+100*c+4*b+d+1)/100=4*a+c+(if d=3∧b=24 then 1 else 0):=by split<;>omega
 have h400:(400*a+100*c+4*b+d+1)/400=a+(if d=3∧b=24∧c=3 then 1 else 0):=by split<;>omega
 rw[h4,h100,h400]
 by_cases h1:d=3<;>by_cases h2:b=24<;>by_cases h3:c=3<;>simp only[h1,h2,h3,true_and,and_true,false_and,and_false,if_true,if_false,or_true,or_false]<;>(repeat' split)<;>omega
theorem nn {n:Int} (h1:1≤n) (h2:n≤3652059):1≤yrG n∧yrG n≤9999∧0≤lfG n∧lfG n≤365∧n=aF (yrG n)+lfG n+1∧n≤aF (yrG n+1):=by
 obtain⟨c1,c2,c3,c4,c5,c6,c7⟩:=RL h1 h2
 have q0:0≤ofQ n∧ofQ n≤3:=by rw[c2];split<;>omega
 have d0:0≤ofD n∧ofD n≤36524∧(ofD n=36524→ofQ n=3):=by rw[c3,c2];split<;>omega
 have b0:0≤ofD n/1461∧ofD n/1461≤24:=by omega
 have o0:0≤ofO n∧ofO n≤3:=by rw[c5];split<;>omega
 have l0:0≤lfG n∧lfG n≤365∧(lfG n=365→ofO n=3∧ofE n=1460):=by rw[c6,c5];split<;>omega
 have hb:=F5 (a:=(n-1)/146097) q0 b0 o0
 have hn:=JS (a:=(n-1)/146097) q0 b0 o0
 rw[←c7]at hb hn
 have s1:n-1=146097*((n-1)/146097)+ofC n:=by rw[c1];exact(Int.mul_ediv_add_emod _ _).symm
 have s2:ofC n=36524*ofQ n+ofD n:=by clear hb hn s1 c1 c2 c4 c5 c6 c7;omega
 have s3:ofD n=1461*(ofD n/1461)+ofE n:=by rw[c4];exact(Int.mul_ediv_add_emod _ _).symm
 have s4:ofE n=365*ofO n+lfG n:=by clear hb hn s1 s2 s3 c1 c2 c3 c4 c5 c7;omega
 have hA:(n-1)/146097≤24:=by clear hb hn s1 s2 s3 s4 c1 c2 c3 c4 c5 c6 c7 q0 d0 b0 o0 l0;omega
 have hE:ofE n=1460→ofD n/1461=24→ofQ n=3:=by
  intro e1 e2
  apply d0.2.2
  clear hb hn s1 s2 s4 c1 c2 c3 c4 c5 c6 c7 q0 d0 b0 o0 l0
  omega
 have hy1:1≤yrG n∧yrG n≤10000:=by
  rw[c7]
  clear hb hn s1 s2 s3 s4 c1 c2 c3 c4 c5 c6 c7 d0 l0 hE
  have:0≤(n-1)/146097:=by omega
  omega
 clear c1 c2 c3 c4 c5 c6 c7 d0
 generalize (n-1)/146097=A at*
 generalize ofD n/1461=B at*
 generalize ofC n=C at*
 generalize ofQ n=Q at*
 generalize ofD n=D at*
 generalize ofE n=E at*
 generalize ofO n=O at*
 generalize lfG n=L at*
 have e:n=aF (yrG n)+L+1:=by rw[hb];omega
 have hlt:n≤aF (yrG n+1):=by
  rw[hn]
  by_cases hl:L=365
  ·obtain⟨l1,l2⟩:=l0.2.2 hl
   have hq:=hE l2
   by_cases hB:B=24
   ·have:=hq hB
    rw[if_pos ⟨l1, .inr this⟩]
    omega
   ·rw[if_pos ⟨l1, .inl (by omega)⟩]
    omega
  ·split<;>omega
 refine⟨hy1.1,?_,l0.1,l0.2.1,e,hlt⟩
 by_cases hy:yrG n=10000
 ·have:aF 10000=3652059:=by decide
  rw[hy,this]at e
  omega
 ·omega
theorem sP {y m:Int} (h:ai y m≠0):28≤ai y m:=by
 obtain⟨_,_,r3⟩:=dm y m
 obtain⟨y1,y2,m1,m2⟩:=r3 h
 have hb:bm y m=true:=by simp only[bm,XR,XT];omega
 unfold ai
 rw[hb,XU]
 have hm:m=1∨m=2∨m=3∨m=4∨m=5∨m=6∨m=7∨m=8∨m=9∨m=10∨m=11∨m=12:=by omega
 rcases hm with rfl|rfl|rfl|rfl|rfl|rfl|rfl|rfl|rfl|rfl|rfl|rfl<;>cases dU y<;>decide
theorem jX {y z:Int} (h0:1≤y) (h:y≤z):aF y≤aF z:=by
 unfold aF
 omega
end Go.Proofs.YtfhepbbkggdlcaaGreatDoor.Px


namespace Go.Proofs.YtfhepbbkggdlcaaGreatDoor.Px
open Go
def qC (a b:Int):Int:=a/b
def Lb (a b:Int):Int:=a%b
def eR (y:Int):Int:=cond (dU y) 366 365
def dt (n:Int):Bool:=decide (1≤n)&&decide (n≤3652059)
def rOf (n:Int):Date:=(ofG n).1
def z7 (d:Date):Bool:=bm d.year d.month&&lit d.day
def J7 (d:Date):Int:=d.day+aF d.year+aE d.year (d.month-1).toNat
def cS (n:Int):Bool:=mid n
def av (n:Int):Int:=n%7
def IC (y r:Int):Nat:=oC y (r-1) 1 11
def n6 (y m w:Int):Int:=(aN y m+ai y m-1-cz y m w)/7+1
def GR (k c:Int):Bool:=k== -1||decide (k>c)
def mA (z:bc) (t:Int):Bool:=cond (z.shift==0) false (cond (decide (bW z z.on (cK z t)<bW z z.off (cK z t)))
 (decide (bW z z.on (cK z t)≤t)&&decide (t<bW z z.off (cK z t))) (!(decide (bW z z.off (cK z t)≤t)&&decide (t<bW z z.on (cK z t)))))
def dq (z:bc) (t:Int):Bool:=dj z t&&(lit z.shift&&dt ((t+z.base)/1440))
def kP (z:bc) (t:Int):Int:=cond (mA z t) (t+z.base+z.shift) (t+z.base)
def ll (z:bc) (d m:Int):Bool:=iI z&&(decide (-720≤z.base)&&(decide (z.base≤840)&&(decide (0≤z.shift)&&(decide (z.shift≤120)&&(decide (401≤d)&&(decide (d≤3651998)&&(decide (0≤m)&&decide (m≤1439))))))))
def kN (z:bc) (d m:Int):List Int:=
 (cond (decide (z.shift>0)&&(kP z (d*1440+m-z.base-z.shift)==d*1440+m)) [d*1440+m-z.base-z.shift] [])++cond (kP z (d*1440+m-z.base)==d*1440+m) [d*1440+m-z.base] []
def dw (d:Int):Bool:=cond (decide (402≤d)) (decide (d≤3651990)) false
def br (f:Int→List Int):Nat→Int→Int
 |0,t=>t
 |k+1,t=>cond (f t).isEmpty (br f k (t+1)) t
def pK (f:Int→List Int) (k:Nat) (t:Int):Int:=(f (br f k t)).getD 0 0
def bY (f:Int→List Int):Nat→Int→Bool
 |0,t=> !(f t).isEmpty
 |k+1,t=> !(f t).isEmpty||bY f k (t+1)
def gq (z:bc) (t:Int):List Int:=(qn z (t/1440) (t%1440)).1
def dG (z:bc) (t:Int):List Int:=kN z (t/1440) (t%1440)
def fJ (t:Int):Bool:=decide (578880≤t)&&decide (t≤5258867040)
def gW (d m:Int):Bool:=dw d&&(decide (0≤m)&&decide (m<1440))
def cM (z:bc) (d m:Int):Int×Int:=cond (ao z != 0) (0,ao z) (cond (gW d m) (pK (gq z) 200 (d*1440+m),0) (0,140))
def oJ (z:bc) (d m:Int):Int:=pK (dG z) 200 (d*1440+m)
def kH (z:bc) (d m:Int):Bool:=ao z==0&&gW d m
def UF (w:ag):Bool:=w.kind==1
def JT (a b:List Int):Bool:=decide (a=b)
def Au (_:ag):Unit:=()
def Cel.void:Cel Unit where
 kinds:=[]
 enc _:=[]
 dec l:=some ((),l)
 uv:=()
 back l x r h:=by
  simp only[XQ,Prod.mk.injEq,true_and]at h
  rw[h,List.nil_append]
 ok _:=rfl
 total ks l h:=⟨(),l,rfl,h⟩
abbrev Dat.void {X:bQ}:Dat (X:=X) Unit:=Dat.ah Cel.void
def vM (c:Config) (w:ag) (d:Int) (b:Bool):Int×Int×Bool:=((cM c.aK d w.minute).1,IntKind.i64.wrap ((cM c.aK d w.minute).1+w.len),b)
def Hl (_:Unit) (_:Config) (_:ag) (d:Int):Bool:=cS d
def yx (_:Unit) (c:Config) (w:ag) (d:Int):Int×Int×Bool:=vM c w d (bits .and .i64 (w.arg.fdiv (2^(min (d%7).toNat 64))) 1==1)
end Go.Proofs.YtfhepbbkggdlcaaGreatDoor.Px


namespace Go.Proofs.YtfhepbbkggdlcaaGreatDoor.Px
open Go
theorem Su {y:Int} (h:1≤y):dU y=true↔(y%4=0∧y%100≠0)∨y%400=0:=by
 unfold dU
 rw[Int.tmod_eq_emod_of_nonneg (by omega),Int.tmod_eq_emod_of_nonneg (by omega),Int.tmod_eq_emod_of_nonneg (by omega)]
 simp only[Bool.or_eq_true,XR,beq_iff_eq,bne_iff_ne,ne_eq]
theorem j0 {y:Int} (h:1≤y):aF (y+1)=aF y+eR y:=by
 unfold aF eR
 rw[show y+1-1=y by omega]
 have hi:=Su h
 have h4:y/4=(y-1)/4+(if y%4=0 then 1 else 0):=by split<;>omega
 have h100:y/100=(y-1)/100+(if y%100=0 then 1 else 0):=by split<;>omega
 have h400:y/400=(y-1)/400+(if y%400=0 then 1 else 0):=by split<;>omega
 have d4:y%100=0→y%4=0:=by omega
 have d1:y%400=0→y%100=0:=by omega
 rw[h4,h100,h400]
 cases hl:dU y with
 |true=>
  have hn:=hi.1 hl
  rw[XU]
  clear hi h4 h100 h400
  (repeat' split)<;>omega
 |false=>
  have hn:=mt hi.2 (by rw[hl];decide)
  rw[XV]
  clear hi h4 h100 h400
  (repeat' split)<;>omega
theorem IE {y:Int} (h1:1≤y) (h2:y≤9999):aE y 12=eR y:=by
 have hb:∀m:Int,1≤m→m≤12→bm y m=true:=fun m a b=>by simp only[bm,XR,XT];omega
 have e:∀m:Nat,m<12→ai y ((m:Int)+1)=cond (((m:Int)+1)==2&&dU y) 29 (cP Uv ((m:Int)+1-1).toNat):=fun m hm=>by
  unfold ai
  rw[hb _ (by omega) (by omega),XU]
 simp only[aE,eR]
 rw[e 0 (by omega),e 1 (by omega),e 2 (by omega),e 3 (by omega),e 4 (by omega),e 5 (by omega),e 6 (by omega),e 7 (by omega),e 8 (by omega),e 9 (by omega),e 10 (by omega),e 11 (by omega)]
 cases dU y<;>rfl
theorem rX {y m:Int} (h:bm y m=true):1≤aN y m∧aN y m≤3700400:=by
 simp only[bm,XR,XT]at h
 have h1:=cV (y:=y) (by omega) (by omega)
 have h2:=dQ y (m-1).toNat
 unfold aN
 omega
theorem Qz (y:Int):∀{i j:Nat},i≤j→aE y i≤aE y j:=by
 intro i j h
 induction j with
 |zero=>rw[show i=0 by omega];exact Int.le_refl _
 |succ j ih=>
  by_cases e:i=j+1
  ·rw[e];exact Int.le_refl _
  ·have:=ih (by omega)
   have:=dm y ((j:Int)+1)
   simp only[aE]
   omega
theorem DZ {y m:Int} (h:bm y m=true):aN y (m+1)=aN y m+ai y m:=by
 simp only[bm,XR,XT]at h
 unfold aN
 have e:(m+1-1).toNat=(m-1).toNat+1:=by omega
 rw[e]
 simp only[aE]
 rw[show(((m-1).toNat:Nat):Int)+1=m by omega]
 omega
theorem jj {y m:Int} (h:bm y m=true):28≤ai y m∧ai y m≤31:=by
 refine⟨sP ?_,(dm y m).2.1⟩
 simp only[bm,XR,XT]at h
 have hb:bm y m=true:=by simp only[bm,XR,XT];omega
 unfold ai
 rw[hb,XU]
 have hm:m=1∨m=2∨m=3∨m=4∨m=5∨m=6∨m=7∨m=8∨m=9∨m=10∨m=11∨m=12:=by omega
 rcases hm with rfl|rfl|rfl|rfl|rfl|rfl|rfl|rfl|rfl|rfl|rfl|rfl<;>cases dU y<;>decide
theorem Fl {y m n:Int} (hm:bm y m=true) (hn:bm y n=true) (h:m+2≤n):aN y m+ai y m+28≤aN y n:=by
 have hm':=hm
 have hn':=hn
 simp only[bm,XR,XT]at hm' hn'
 have hk:bm y (m+1)=true:=by simp only[bm,XR,XT];omega
 have e1:=DZ hm
 have e2:=DZ hk
 have e3:=jj hk
 have:aN y (m+1+1)≤aN y n:=by
  unfold aN
  have:=Qz y (i:=(m+1+1-1).toNat) (j:=(n-1).toNat) (by omega)
  omega
 omega
theorem RV {y m w k:Int} (hm:bm y m=true) (hw:0≤w∧w≤6) (hk:1≤k∧k≤5):
  aN y m≤(kE y m w (cond (k==5) (-1) k)).1∧(kE y m w (cond (k==5) (-1) k)).1<aN y m+ai y m:=by
 have hd:=jj hm
 have hf:aN y m≤cz y m w∧cz y m w≤aN y m+6:=by unfold cz;omega
 unfold kE
 rw[show(ai y m==0)=false by rw[beq_eq_false_iff_ne];omega,XV]
 by_cases h5:k=5
 ·subst h5
  rw[show((5:Int)==5)=true from rfl,XU]
  have hb:dO w (-1)=false:=by
   unfold dO
   rw[show decide (w<0)=false by simp;omega,show decide (w>6)=false by simp;omega]
   rfl
  rw[hb,XV,show((-1:Int)== -1)=true from rfl,XU]
  simp only
  omega
 ·rw[show(k==5)=false by rw[beq_eq_false_iff_ne];omega,XV]
  have hb:dO w k=false:=by
   unfold dO
   rw[show decide (w<0)=false by simp;omega,show decide (w>6)=false by simp;omega,show decide (k<1)=false by simp;omega,show decide (k>5)=false by simp;omega]
   simp
  rw[hb,XV,show(k== -1)=false by rw[beq_eq_false_iff_ne];omega,XV,show decide (cz y m w+7*(k-1)≥aN y m+ai y m)=false by simp;omega,XV]
  simp only
  omega
theorem Dp {x:nU} (h:gS x=true):(1≤x.month∧x.month≤12)∧(1≤x.ck∧x.ck≤5)∧(0≤x.weekday∧x.weekday≤6)∧(0≤x.minute∧x.minute≤1439):=by
 simp only[gS,XR,bG]at h
 exact⟨h.1.1.1,h.1.1.2,h.1.2,h.2⟩
theorem AL {z:bc} (h:kA z=true):gS z.on=true∧gS z.off=true∧(z.on.month+2≤z.off.month∨z.off.month+2≤z.on.month):=by
 simp only[kA,XR,bG]at h
 refine⟨h.1.1,h.1.2,?_⟩
 have:=h.2
 unfold apart at this
 split at this<;>omega
theorem JU {z:bc} {y:Int} (h:kA z=true) (h1:1≤y) (h2:y≤9999):(z.on.month+2≤z.off.month→bW z z.on y+20000≤bW z z.off y)∧(z.off.month+2≤z.on.month→bW z z.off y+20000≤bW z z.on y):=by
 obtain⟨a,b,_⟩:=AL h
 obtain⟨a1,a2,a3,a4⟩:=Dp a
 obtain⟨b1,b2,b3,b4⟩:=Dp b
 have ha:bm y z.on.month=true:=by simp only[bm,XR,XT];omega
 have hb:bm y z.off.month=true:=by simp only[bm,XR,XT];omega
 have na:=RV ha a3 a2
 have nb:=RV hb b3 b2
 unfold bW
 refine⟨fun h=>?_,fun h=>?_⟩
 ·have:=Fl ha hb h
  omega
 ·have:=Fl hb ha h
  omega
theorem bR {z:bc} (h:ao z=0):(-720≤z.base∧z.base≤840)∧(0≤z.shift∧z.shift≤120)∧iI z=true∧(z.shift≠0→kA z=true):=by
 unfold ao at h
 cases h1:inB z.base (-720) 840 with
 |false=>rw[h1]at h;simp at h
 |true=>
  rw[h1,XU]at h
  cases h2:inB z.shift 0 120 with
  |false=>rw[h2]at h;simp at h
  |true=>
   rw[h2,XU]at h
   rw[bG]at h1 h2
   by_cases h3:z.shift=0
   ·rw[h3]at h
    simp only[beq_self_eq_true,XU]at h
    cases h4:(decide (z.on=mO)&&decide (z.off=mO))with
    |false=>rw[h4]at h;simp at h
    |true=>
     simp only[XR,XT]at h4
     refine⟨h1,h2,?_,fun hne=>absurd h3 hne⟩
     simp only[iI,lit,h4.1,h4.2,mO,XR,XT]
     omega
   ·have e:(z.shift==0)=false:=by rw[beq_eq_false_iff_ne];exact h3
    rw[e,XV]at h
    cases h4:kA z with
    |false=>rw[h4]at h;simp at h
    |true=>
     refine⟨h1,h2,?_,fun _=>rfl⟩
     simp only[kA,gS,XR,bG]at h4
     simp only[iI,lit,XR,XT]
     omega
theorem c8 {n:Int}:dt n=true↔1≤n∧n≤3652059:=by simp[dt]
theorem Tt {z:bc} {t:Int} (h:dt ((t+z.base)/1440)=true):cK z t=yrG ((t+z.base)/1440)∧1≤cK z t∧cK z t≤9999:=by
 have h':=c8.1 h
 obtain⟨y1,y2,_⟩:=nn h'.1 h'.2
 have e:cK z t=yrG ((t+z.base)/1440):=by
  unfold cK ofG
  rw[show(decide ((t+z.base)/1440<1)||decide ((t+z.base)/1440>3652059))=false by simp;omega,XV]
 rw[e]
 exact⟨rfl,y1,y2⟩
theorem pQ {z:bc} {t:Int} (hz:ao z=0) (hd:dt ((t+z.base)/1440)=true):mA z t=decide (bK z t>0)∧(bK z t=0∨bK z t=z.shift):=by
 obtain⟨_,hs,_,hb⟩:=bR hz
 obtain⟨_,y1,y2⟩:=Tt hd
 unfold mA bK
 by_cases h0:z.shift=0
 ·rw[h0]
  exact⟨rfl, .inl rfl⟩
 ·have e:(z.shift==0)=false:=by rw[beq_eq_false_iff_ne];exact h0
  rw[e,XV,XV]
  have hw:=JU (hb h0) y1 y2
  have ht:=(AL (hb h0)).2.2
  generalize bW z z.on (cK z t)=a at*
  generalize bW z z.off (cK z t)=b at*
  have hab:a<b∨b<a:=by rcases ht with h|h<;>omega
  clear hw ht hb e hd y1 y2 hz
  refine⟨?_,?_⟩
  ·unfold Ke
   rcases hab with h|h
   ·rw[show decide (a<b)=true by simpa using h,show decide (b<a)=false by simp;omega]
    simp only[XU,Bool.true_and,Bool.false_and,Bool.or_false]
    cases (decide (a≤t)&&decide (t<b))
    ·rfl
    ·simp only[XU]
     symm;simp;omega
   ·rw[show decide (a<b)=false by simp;omega,show decide (b<a)=true by simpa using h]
    simp only[XV,Bool.true_and,Bool.false_and,Bool.false_or]
    rw[show(!(decide (b≤t)&&decide (t<a)))=(decide (t<b)||decide (a≤t)) by rw[Bool.eq_iff_iff];simp;try omega]
    cases (decide (t<b)||decide (a≤t))
    ·rfl
    ·simp only[XU]
     symm;simp;omega
  ·cases Ke t a b
   ·exact .inl rfl
   ·exact .inr rfl
theorem yk {n a b:Int} (h1:a≤n) (h2:n≤b):inB n a b=true:=bG.2 ⟨h1,h2⟩
theorem Kk {z:bc} {t x:Int} (hz:ao z=0) (h1:578880≤t) (h2:t≤5258868000) (h3:t-2000≤x) (h4:x≤t+2000):dt ((x+z.base)/1440)=true:=by
 obtain⟨hb,_⟩:=bR hz
 rw[c8]
 omega
theorem ry {z:bc} {t:Int} (hz:ao z=0) (h1:578880≤t) (h2:t≤5258868000):dG z t=gq z t∧gq z t=(cond (decide (z.shift>0)&&decide (bK z (t-z.base-z.shift)>0)) [t-z.base-z.shift] [])++cond (bK z (t-z.base)==0) [t-z.base] []:=by
 obtain⟨hb,hs,_⟩:=bR hz
 have et:t/1440*1440+t%1440=t:=by omega
 have d1:=Kk (x:=t-z.base-z.shift) hz h1 h2 (by omega) (by omega)
 have d2:=Kk (x:=t-z.base) hz h1 h2 (by omega) (by omega)
 obtain⟨s1,o1⟩:=pQ hz d1
 obtain⟨s2,o2⟩:=pQ hz d2
 have eG:gq z t=(cond (decide (z.shift>0)&&decide (bK z (t-z.base-z.shift)>0)) [t-z.base-z.shift] [])++cond (bK z (t-z.base)==0) [t-z.base] []:=by
  unfold gq qn
  rw[hz,show((0:Int) != 0)=false from rfl,XV,yk (n:=t/1440) (by omega) (by omega),yk (n:=t%1440) (by omega) (by omega),et]
  rfl
 refine⟨?_,eG⟩
 rw[eG]
 unfold dG kN
 rw[et]
 have k1:(decide (z.shift>0)&&(kP z (t-z.base-z.shift)==t))=(decide (z.shift>0)&&decide (bK z (t-z.base-z.shift)>0)):=by
  by_cases h0:z.shift>0
  ·rw[show decide (z.shift>0)=true by simpa using h0,Bool.true_and,Bool.true_and]
   unfold kP
   rw[s1]
   cases decide (bK z (t-z.base-z.shift)>0)
   ·rw[XV,beq_eq_false_iff_ne];omega
   ·rw[XU,beq_iff_eq];omega
  ·rw[show decide (z.shift>0)=false by simpa using h0,Bool.false_and,Bool.false_and]
 have k2:(kP z (t-z.base)==t)=(bK z (t-z.base)==0):=by
  unfold kP
  rw[s2]
  rcases o2 with e|e
  ·rw[e]
   simp
  ·rw[e]
   by_cases h0:z.shift>0
   ·rw[show decide (z.shift>0)=true by simpa using h0,XU]
    rw[Bool.eq_iff_iff,beq_iff_eq,beq_iff_eq];omega
   ·rw[show z.shift=0 by omega];simp
 rw[k1,k2]
theorem Cw {f:Int→List Int}:∀{k j:Nat} {t:Int},j≤k→(f (t+j)).isEmpty=false→bY f k t=true
 |0,j,t,hj,h=>by
  rw[show j=0 by omega,show t+((0:Nat):Int)=t by omega]at h
  simp only[bY,h,Bool.not_false]
 |k+1,j,t,hj,h=>by
  simp only[bY]
  cases j with
  |zero=>
   rw[show t+((0:Nat):Int)=t by omega]at h
   rw[h]
   rfl
  |succ j=>rw[Cw (k:=k) (j:=j) (by omega) (by rw[show t+1+(j:Int)=t+((j+1:Nat):Int) by omega];exact h),Bool.or_true]
theorem FV {z:bc} {t:Int} (hz:ao z=0) (h:fJ t=true):bY (gq z) 200 t=true:=by
 simp only[fJ,XR,XT]at h
 obtain⟨hb,hs,_⟩:=bR hz
 have e1:=(ry hz h.1 (by omega)).2
 cases he:(gq z t).isEmpty with
 |false=>exact Cw (j:=0) (by omega) (by rw[show t+((0:Nat):Int)=t by omega];exact he)
 |true=>
  have d2:=Kk (x:=t-z.base) hz h.1 (by omega) (by omega) (by omega)
  obtain⟨s2,o2⟩:=pQ hz d2
  have hne:bK z (t-z.base)≠0:=by
   intro e0
   rw[e1,e0]at he
   simp at he
  have e0:bK z (t-z.base)=z.shift:=by rcases o2 with e|e;exact absurd e hne;exact e
  refine Cw (j:=z.shift.toNat) (by omega) ?_
  rw[show t+(z.shift.toNat:Int)=t+z.shift by omega,(ry hz (t:=t+z.shift) (by omega) (by omega)).2]
  rw[show t+z.shift-z.base-z.shift=t-z.base by omega,show decide (z.shift>0)=true by simp;omega,show decide (bK z (t-z.base)>0)=true by simp;omega]
  rfl
theorem As {f g:Int→List Int}:∀{k:Nat} {t:Int},(∀j:Nat,j≤k→f (t+j)=g (t+j))→bY f k t=bY g k t∧br f k t=br g k t
 |0,t,h=>by
  have:=h 0 (by omega)
  rw[show t+((0:Nat):Int)=t by omega]at this
  simp only[bY,br,this,and_self]
 |k+1,t,h=>by
  have h0:=h 0 (by omega)
  rw[show t+((0:Nat):Int)=t by omega]at h0
  obtain⟨a,b⟩:=As (f:=f) (g:=g) (k:=k) (t:=t+1) (fun j hj=>by
   have:=h (j+1) (by omega)
   rw[show t+((j+1:Nat):Int)=t+1+(j:Int) by omega]at this
   exact this)
  simp only[bY,br,h0,a,b,and_self]
theorem kf (f:Int→List Int):∀(k:Nat) (t:Int),t≤br f k t∧br f k t≤t+k
 |0,t=>by simp[br]
 |k+1,t=>by
  have:=kf f k (t+1)
  simp only[br]
  cases (f t).isEmpty<;>simp only[XU,XV]<;>omega
theorem sd {f:Int→List Int}:∀{k:Nat} {t:Int},bY f k t=true→(f (br f k t)).isEmpty=false
 |0,t,h=>by simpa[bY,br]using h
 |k+1,t,h=>by
  simp only[bY,Bool.or_eq_true,Bool.not_eq_true']at h
  simp only[br]
  cases he:(f t).isEmpty with
  |false=>exact he
  |true=>
   rw[he]at h
   rcases h with h|h
   ·cases h
   ·exact sd h
theorem Qx {z:bc} {t:Int} (hz:ao z=0) (h:fJ t=true):bY (dG z) 200 t=true∧br (dG z) 200 t=br (gq z) 200 t∧pK (dG z) 200 t=pK (gq z) 200 t:=by
 have h':=h
 simp only[fJ,XR,XT]at h'
 obtain⟨a,b⟩:=As (f:=dG z) (g:=gq z) (k:=200) (t:=t) (fun j hj=>(ry hz (by omega) (by omega)).1)
 refine⟨by rw[a];exact FV hz h,b,?_⟩
 have:=kf (gq z) 200 t
 unfold pK
 rw[b,(ry hz (by omega) (by omega)).1]
theorem B0 {d m:Int} (h:gW d m=true):fJ (d*1440+m)=true:=by
 simp only[gW,dw,XR,XT]at h
 have h1:402≤d:=by
  cases hd:decide (402≤d)
  ·rw[hd]at h;simp at h
  ·simpa using hd
 rw[decide_eq_true h1,XU,XT]at h
 simp only[fJ,XR,XT]
 omega
theorem Cm {z:bc} {d m:Int} (hz:ao z=0) (h:gW d m=true):cM z d m=(oJ z d m,0):=by
 unfold cM oJ
 rw[hz,show((0:Int) != 0)=false from rfl,XV,h,XU,(Qx hz (B0 h)).2.2]
end Go.Proofs.YtfhepbbkggdlcaaGreatDoor.Px
