/- The table of types that the evaluator carries: what it says of the program, as a Bool. -/
import Derived.Test.YtdadgkgkdgnihaaPxFrame
import Derived.Laws.StructEq
set_option linter.unusedVariables false
set_option linter.unusedSimpArgs false
namespace Go.Proofs.Ytdadgkgkdgnihaa.Px
open Go Go.RowKit
def bE:TypeDesc→Bool
 | .struct _=>true
 | .array _ _=>true
 |_=>false
def uk:AV→Value→Bool
 | .int k n, .int k' m=>kEq k k'&&decide (n=m)
 | .bool a, .bool b=>a==b
 | .str a, .string b=>decide (a=b)
 | .val (.slice none a b), .slice none c d=>Nat.beq a c&&Nat.beq b d
 | .val (.pointer none), .pointer none=>true
 | .val (.map none), .map none=>true
 | .val .nilFunc, .nilFunc=>true
 | .val .nilIface, .nilIface=>true
 |_,_=>false
def ji:List AV→List Value→Bool
 | [],[]=>true
 |v::l,x::m=>uk v x&&ji l m
 |_,_=>false
theorem bp {a b:IntKind} (h:kEq a b=true):a=b:=by cases a<;>cases b<;>simp[kEq]at h<;>rfl
theorem rR {v:AV} {x:Value} (h:uk v x=true):ah [] v=some x∧x.oneCell'=true:=by
 unfold uk at h
 split at h
 ·simp only[B1,B3]at h;obtain⟨h1,rfl⟩:=h;rw[bp h1];exact⟨rfl,rfl⟩
 ·have:=eq_of_beq h;subst this;exact⟨rfl,rfl⟩
 ·have:=of_decide_eq_true h;subst this;exact⟨rfl,rfl⟩
 ·simp only[B1]at h;obtain⟨h1,h2⟩:=h;rw[B2 h1,B2 h2];exact⟨rfl,rfl⟩
 ·exact⟨rfl,rfl⟩
 ·exact⟨rfl,rfl⟩
 ·exact⟨rfl,rfl⟩
 ·exact⟨rfl,rfl⟩
 ·cases h
theorem kN:∀{l:List AV} {xs:List Value},ji l xs=true→ab [] l=some xs∧xs.all Value.oneCell'=true
 | [],[],_=>⟨rfl,rfl⟩
 |v::l,x::m,h=>by
  simp only[ji,B1]at h
  obtain⟨h1,h2⟩:=h
  obtain⟨a1,a2⟩:=rR h1
  obtain⟨b1,b2⟩:=kN h2
  exact⟨aa.2 ⟨x,m,a1,b1,rfl⟩,by simp[a2];simpa using b2⟩
 | [],_::_,h=>by simp[ji]at h
 |_::_,[],h=>by simp[ji]at h
def nQ (rec:TypeId→Option (List (Option IntKind))):List Field→Nat→Option (List (Option IntKind))
 | [],_=>some []
 |f::fs,o=>match f.name== "_",Nat.beq f.offset o,rec f.type with
  |false,true,some ks=>match nQ rec fs (o+ks.length)with
   |some l=>some (ks++l)
   |none=>none
  |_,_,_=>none
def zm:Nat→List (Option IntKind)→List (Option IntKind)
 |0,_=>[]
 |n+1,l=>l++zm n l
def fM (P:Program):Nat→TypeId→Option (List (Option IntKind))
 |0,_=>none
 |d+1,t=>match P.info? t,(match P.underlying t with
   |some (.array n e)=>match fM P d e with
    |some ks=>cond (Nat.beq ks.length 0) none (some (zm n ks))
    |none=>none
   |some (.int k)=>some [some k]
   |some .bool=>some [none]
   |some (.struct fs)=>match P.stoodInHeld t with
    |false=>nQ (fM P d) fs.toList 0
    |true=>none
   |_=>none)with
  |some inf,some ks=>cond (Nat.beq inf.size ks.length) (some ks) none
  |_,_=>none
section
variable [X:aS]
structure AW (P:Program) (t:Nat) (i:TI (X:=X)):Prop where
 info:∃inf,P.info? t=some inf∧inf.size=i.size
 und:∃d,P.underlying t=some d∧bE d=i.agg
 zero:i.zero≠[]→i.slice=false→∃inf z,P.info? t=some inf∧inf.zero=some z∧ab [] i.zero=some z.cells.toList∧z.cells.toList.all Value.oneCell'=true
 cp:∀(f o n:Nat) (g:Bool),i.cp[f]?=some (o,n,g)→∃fs fd inf d,P.underlying t=some (.struct fs)∧fs[f]?=some fd∧fd.offset=o∧P.info? fd.type=some inf∧inf.size=n∧n≠0∧P.underlying fd.type=some d∧bE d=g
 arr:i.len≠0→∃e inf d,P.underlying t=some (.array i.len e)∧P.info? e=some inf∧inf.size=i.esz∧P.underlying e=some d∧bE d=i.wB
 slc:i.slice=true→∃e inf z,P.underlying t=some (.slice e)∧P.info? e=some inf∧inf.size=i.esz∧inf.zero=some z∧ab [] i.zero=some z.cells.toList∧z.cells.toList.all Value.oneCell'=true
 byt:i.slice=true→∀e inf,P.underlying t=some (.slice e)→P.info? e=some inf→inf.bytes≤65536
 nfl:i.agg=true→i.len=0→∃fs,P.underlying t=some (.struct fs)∧fs.toList.mapM (fun f=>(P.info? f.type).map fun i=>(f.offset,i.size))=some (i.cp.map fun x=>(x.1,x.2.1))
 kind:∀k,i.kind=some k→P.underlying t=some (.int k)
 isBool:i.isBool=true→P.underlying t=some .bool
def qo (P:Program) (fd:Field):Nat×Nat×Bool→Bool
 |(o,n,g)=>match P.info? fd.type,P.underlying fd.type with
  |some inf,some d=>Nat.beq fd.offset o&&Nat.beq inf.size n&& !Nat.beq n 0&&(bE d==g)
  |_,_=>false
def dX (P:Program):List Field→List (Nat×Nat×Bool)→Bool
 | [],[]=>true
 |f::fs,x::xs=>qo P f x&&dX P fs xs
 |_,_=>false
def ly (z:Option Value) (l:List AV):Bool:=match z with
 |some z=>ji l z.cells.toList
 |none=>false
def chk (P:Program) (t:Nat) (i:TI (X:=X)):Bool:=
 match P.info? t,P.underlying t with
 |some inf,some d=>Nat.beq inf.size i.size&&(bE d==i.agg)&&(i.zero.isEmpty||i.slice||ly inf.zero i.zero)&&
  (match d with
  | .struct fs=>Nat.beq i.len 0&&dX P fs.toList i.cp&& !i.slice&&i.kind.isNone&& !i.isBool
  | .array n e=>Nat.beq i.len n&& !Nat.beq n 0&&i.cp.isEmpty&& !i.slice&&i.kind.isNone&& !i.isBool&&(match P.info? e,P.underlying e with
    |some ie,some de=>Nat.beq ie.size i.esz&&(bE de==i.wB)
    |_,_=>false)
  | .slice e=>Nat.beq i.len 0&&i.cp.isEmpty&&i.kind.isNone&& !i.isBool&&(!i.slice||(match P.info? e with
    |some ie=>(Nat.beq ie.size i.esz&&Nat.ble ie.bytes 65536)&&ly ie.zero i.zero
    |none=>false))
  | .int k=>Nat.beq i.len 0&&i.cp.isEmpty&& !i.slice&& !i.isBool&&(match i.kind with
    |some k'=>kEq k k'
    |none=>true)
  | .bool=>Nat.beq i.len 0&&i.cp.isEmpty&& !i.slice&&i.kind.isNone
  |_=>Nat.beq i.len 0&&i.cp.isEmpty&& !i.slice&&i.kind.isNone&& !i.isBool)
 |_,_=>false
omit X in
theorem mw {P:Program}:∀{fs:List Field} {l:List (Nat×Nat×Bool)},dX P fs l=true→fs.length=l.length∧∀(f:Nat) (x:Nat×Nat×Bool),l[f]?=some x→∃fd,fs[f]?=some fd∧qo P fd x=true
 | [],[],_=>⟨rfl,fun f x h=>by simp at h⟩
 |fd::fs,x::l,h=>by
  simp only[dX,B1]at h
  obtain⟨hl,hg⟩:=mw h.2
  refine⟨by simp[hl],fun f y hy=>?_⟩
  cases f with
  |zero=>simp at hy;subst hy;exact⟨fd,by simp,h.1⟩
  |succ f=>simp at hy;obtain⟨a,b,c⟩:=hg f y hy;exact⟨a,by simpa using b,c⟩
 | [],_::_,h=>by simp[dX]at h
 |_::_,[],h=>by simp[dX]at h
omit X in
theorem hN {P:Program}:∀{fs:List Field} {l:List (Nat×Nat×Bool)},dX P fs l=true→fs.mapM (fun f=>(P.info? f.type).map fun i=>(f.offset,i.size))=some (l.map fun x=>(x.1,x.2.1))
 | [],[],_=>rfl
 |fd::fs,(o,n,g)::l,h=>by
  simp only[dX,B1]at h
  have ih:=hN h.2
  have h1:=h.1
  simp only[qo]at h1
  split at h1
  ·rename_i inf d hi hd
   simp only[B1]at h1
   obtain⟨⟨⟨a1,a2⟩,_⟩,_⟩:=h1
   simp only[List.mapM_cons,hi,ih,Option.map_some,Option.bind_eq_bind,Option.bind_some,Option.pure_def,List.map_cons,B2 a1,B2 a2]
  ·cases h1
 | [],_::_,h=>by simp[dX]at h
 |_::_,[],h=>by simp[dX]at h
omit X in
theorem gU {z:Option Value} {l:List AV} (h:ly z l=true):∃v,z=some v∧ab [] l=some v.cells.toList∧v.cells.toList.all Value.oneCell'=true:=by
 cases z with
 |none=>simp[ly]at h
 |some v=>obtain⟨a,b⟩:=kN h;exact⟨v,rfl,a,b⟩
theorem xA {P:Program} {t:Nat} {i:TI (X:=X)} (h:chk P t i=true):AW P t i:=by
 unfold chk at h
 cases hi:P.info? t with
 |none=>rw[hi]at h;simp at h
 |some inf=>
  cases hd:P.underlying t with
  |none=>rw[hi,hd]at h;simp at h
  |some d=>
   rw[hi,hd]at h
   simp only[B1,beq_iff_eq]at h
   obtain⟨⟨⟨h1,h2⟩,h3⟩,h4⟩:=h
   have base_zero:i.zero≠[]→i.slice=false→∃inf z,P.info? t=some inf∧inf.zero=some z∧ab [] i.zero=some z.cells.toList∧z.cells.toList.all Value.oneCell'=true:=by
    intro a b
    simp only[Bool.or_eq_true,List.isEmpty_iff,b,Bool.false_eq_true,or_false]at h3
    rcases h3 with h3|h3
    ·exact absurd h3 a
    ·obtain⟨v,e1,e2,e3⟩:=gU h3;exact⟨inf,v,hi,e1,e2,e3⟩
   cases d with
   |struct fs=>
    simp only[B1,Bool.not_eq_true',Option.isNone_iff_eq_none]at h4
    obtain⟨⟨⟨⟨k1,k2⟩,k3⟩,k4⟩,k5⟩:=h4
    obtain⟨_,c2⟩:=mw k2
    refine⟨⟨inf,hi,B2 h1⟩,⟨_,hd,h2⟩,base_zero,fun f o n g hf=>?_,(fun hn=>absurd (B2 k1) hn),(fun hs=>by rw[k3]at hs;cases hs),(fun hs=>by rw[k3]at hs;cases hs),fun _ _=>⟨fs,hd,hN k2⟩,(fun k hk=>by rw[k4]at hk;cases hk),(fun hb=>by rw[k5]at hb;cases hb)⟩
    obtain⟨fd,e1,e2⟩:=c2 f _ hf
    simp only[qo]at e2
    split at e2
    ·rename_i ie de hie hde
     simp only[B1,Bool.not_eq_true',beq_iff_eq]at e2
     obtain⟨⟨⟨a1,a2⟩,a3⟩,a4⟩:=e2
     exact⟨fs,fd,ie,de,hd,by simpa using e1,B2 a1,hie,B2 a2,(fun e=>by rw[e]at a3;simp at a3),hde,a4⟩
    ·cases e2
   |array n e=>
    simp only[B1,Bool.not_eq_true',Option.isNone_iff_eq_none,List.isEmpty_iff]at h4
    obtain⟨⟨⟨⟨⟨⟨k1,k2⟩,k3⟩,k4⟩,k5⟩,k6⟩,k7⟩:=h4
    have hl:i.len=n:=B2 k1
    refine⟨⟨inf,hi,B2 h1⟩,⟨_,hd,h2⟩,base_zero,(fun f o n g hf=>by rw[k3]at hf;simp at hf),fun hn=>?_,(fun hs=>by rw[k4]at hs;cases hs),(fun hs=>by rw[k4]at hs;cases hs),(fun _ hl0=>by rw[hl]at hl0;rw[hl0]at k2;simp at k2),(fun k hk=>by rw[k5]at hk;cases hk),(fun hb=>by rw[k6]at hb;cases hb)⟩
    split at k7
    ·rename_i ie de hie hde
     simp only[B1,beq_iff_eq]at k7
     exact⟨e,ie,de,by rw[hl];exact hd,hie,B2 k7.1,hde,k7.2⟩
    ·cases k7
   |slice e=>
    simp only[B1,Bool.not_eq_true',Option.isNone_iff_eq_none,List.isEmpty_iff,Bool.or_eq_true]at h4
    obtain⟨⟨⟨⟨k1,k3⟩,k5⟩,k6⟩,k7⟩:=h4
    refine⟨⟨inf,hi,B2 h1⟩,⟨_,hd,h2⟩,base_zero,(fun f o n g hf=>by rw[k3]at hf;simp at hf),(fun hn=>absurd (B2 k1) hn),fun hs=>?_,fun hs e' inf' he' hinf'=>?_,(fun ha=>by rw[←h2]at ha;simp[bE]at ha),(fun k hk=>by rw[k5]at hk;cases hk),(fun hb=>by rw[k6]at hb;cases hb)⟩
    ·rcases k7 with k7|k7
     ·rw[k7]at hs;cases hs
     ·split at k7
      ·rename_i ie hie
       simp only[B1]at k7
       obtain⟨v,e1,e2,e3⟩:=gU k7.2
       exact⟨e,ie,v,hd,hie,B2 k7.1.1,e1,e2,e3⟩
      ·cases k7
    ·rcases k7 with k7|k7
     ·rw[k7]at hs;cases hs
     ·rw[hd]at he'
      simp only[B0,TypeDesc.slice.injEq]at he'
      subst he'
      rw[hinf']at k7
      simp only[B1]at k7
      exact Nat.le_of_ble_eq_true k7.1.2
   |int k=>
    simp only[B1,Bool.not_eq_true',List.isEmpty_iff]at h4
    obtain⟨⟨⟨⟨k1,k3⟩,k4⟩,k6⟩,k7⟩:=h4
    refine⟨⟨inf,hi,B2 h1⟩,⟨_,hd,h2⟩,base_zero,(fun f o n g hf=>by rw[k3]at hf;simp at hf),(fun hn=>absurd (B2 k1) hn),(fun hs=>by rw[k4]at hs;cases hs),(fun hs=>by rw[k4]at hs;cases hs),(fun ha=>by rw[←h2]at ha;simp[bE]at ha),fun k' hk=>?_,(fun hb=>by rw[k6]at hb;cases hb)⟩
    rw[hk]at k7
    rw[hd,bp k7]
   |bool=>
    simp only[B1,Bool.not_eq_true',Option.isNone_iff_eq_none,List.isEmpty_iff]at h4
    obtain⟨⟨⟨k1,k3⟩,k4⟩,k5⟩:=h4
    exact⟨⟨inf,hi,B2 h1⟩,⟨_,hd,h2⟩,base_zero,(fun f o n g hf=>by rw[k3]at hf;simp at hf),(fun hn=>absurd (B2 k1) hn),(fun hs=>by rw[k4]at hs;cases hs),(fun hs=>by rw[k4]at hs;cases hs),(fun ha=>by rw[←h2]at ha;simp[bE]at ha),(fun k' hk=>by rw[k5]at hk;cases hk),fun _=>hd⟩
   |_=>
    simp only[B1,Bool.not_eq_true',Option.isNone_iff_eq_none,List.isEmpty_iff]at h4
    obtain⟨⟨⟨⟨k1,k3⟩,k4⟩,k5⟩,k6⟩:=h4
    exact⟨⟨inf,hi,B2 h1⟩,⟨_,hd,h2⟩,base_zero,(fun f o n g hf=>by rw[k3]at hf;simp at hf),(fun hn=>absurd (B2 k1) hn),(fun hs=>by rw[k4]at hs;cases hs),(fun hs=>by rw[k4]at hs;cases hs),(fun ha=>by rw[←h2]at ha;simp[bE]at ha),(fun k' hk=>by rw[k5]at hk;cases hk),(fun hb=>by rw[k6]at hb;cases hb)⟩
def uT (P:Program) (t:Nat) (i:TI (X:=X)):Bool:=match i.mp with
 |false=>true
 |true=>match P.underlying t with
  |some (.map k e)=>(match P.underlying k with
   |some (.int .i64)=>true
   |_=>false)&&(match P.info? e with
    |some ie=>(match ie.zero with
     |some (.int .i64 n)=>n==0
     |_=>false)
    |none=>false)
  |_=>false
theorem oQ {P:Program} {t:Nat} {i:TI (X:=X)} (h:uT P t i=true) (hm:i.mp=true):∃k e ie,P.underlying t=some (.map k e)∧P.underlying k=some (.int .i64)∧P.info? e=some ie∧ie.zero=some (.int .i64 0):=by
 unfold uT at h
 rw[hm]at h
 simp only at h
 split at h
 ·rename_i k e hu
  simp only[B1]at h
  obtain⟨h1,h2⟩:=h
  split at h1
  ·rename_i hk
   split at h2
   ·rename_i ie hi
    split at h2
    ·rename_i n hz
     exact⟨k,e,ie,hu,hk,hi,by rw[hz,eq_of_beq h2]⟩
    ·cases h2
   ·cases h2
  ·cases h1
 ·cases h
def xZ (P:Program) (t:Nat) (i:TI (X:=X)):Bool:=match i.slice with
 |false=>true
 |true=>match P.info? t with
  |some inf=>ly inf.zero [.val (.slice none 0 0)]
  |none=>false
def eu (P:Program):List (Nat×TI (X:=X))→Bool
 | []=>true
 |(t,i)::l=>(chk P t i&&(uT P t i&&xZ P t i))&&eu P l
theorem ao {P:Program}:∀{l:List (Nat×TI (X:=X))},eu P l=true→∀t i,look l t=some i→AW P t i
 | [],_,t,i,h=>by simp[look]at h
 |(k,x)::l,h,t,i,e=>by
  simp only[eu,B1]at h
  simp only[look]at e
  cases hk:Nat.beq k t with
  |true=>
   rw[hk]at e
   simp only[B4,B0]at e
   rw[←B2 hk,←e]
   exact xA h.1.1
  |false=>
   rw[hk]at e
   exact ao h.2 t i e
theorem mc {P:Program}:∀{l:List (Nat×TI (X:=X))},eu P l=true→∀t i,look l t=some i→uT P t i=true
 | [],_,t,i,h=>by simp[look]at h
 |(k,x)::l,h,t,i,e=>by
  simp only[eu,B1]at h
  simp only[look]at e
  cases hk:Nat.beq k t with
  |true=>
   rw[hk]at e
   simp only[B4,B0]at e
   rw[←B2 hk,←e]
   exact h.1.2.1
  |false=>
   rw[hk]at e
   exact mc h.2 t i e
theorem pF {P:Program}:∀{l:List (Nat×TI (X:=X))},eu P l=true→∀t i,look l t=some i→xZ P t i=true
 | [],_,t,i,h=>by simp[look]at h
 |(k,x)::l,h,t,i,e=>by
  simp only[eu,B1]at h
  simp only[look]at e
  cases hk:Nat.beq k t with
  |true=>
   rw[hk]at e
   simp only[B4,B0]at e
   rw[←B2 hk,←e]
   exact h.1.2.2
  |false=>
   rw[hk]at e
   exact pF h.2 t i e
theorem j0 {P:Program} {l:List (Nat×TI (X:=X))} (h:eu P l=true) (t:Nat) (i:TI (X:=X)) (e:look l t=some i) (hv:i.var≠[]):
  ∃inf z,P.info? t=some inf∧inf.zero=some z∧ab [] i.var=some z.cells.toList∧z.cells.toList.all Value.oneCell'=true:=by
 cases hs:i.slice with
 |false=>
  have:i.var=i.zero:=by simp[TI.var,hs]
  rw[this]at hv⊢
  exact(ao h t i e).zero hv hs
 |true=>
  have h1:=pF h t i e
  unfold xZ at h1
  rw[hs]at h1
  simp only at h1
  split at h1
  ·rename_i inf hi
   obtain⟨v,a,b,c⟩:=gU h1
   have:i.var=[.val (.slice none 0 0)]:=by simp[TI.var,hs]
   rw[this]
   exact⟨inf,v,hi,a,b,c⟩
  ·cases h1
end
end Go.Proofs.Ytdadgkgkdgnihaa.Px
