/- Definitions of an evaluator of the model's code over an abstract state: what a function's body comes to, as a tree of tests. -/
import Derived.WalkKit
import Derived.KernelRfl
set_option linter.unusedVariables false
set_option linter.unusedSimpArgs false
namespace Go.Proofs.Ytdadgkgkdgnihaa.Px
open Go
theorem B0{α:Type _} (a b:α):(some a=some b)=(a=b):=Option.some.injEq a b
theorem B1(a b:Bool):((a&&b)=true)=(a=true∧b=true):=Bool.and_eq_true a b
theorem B2{n m:Nat}:Nat.beq n m=true→n=m:=Nat.eq_of_beq_eq_true
theorem B3{p:Prop} [Decidable p]:(decide p=true)=p:=decide_eq_true_eq
theorem B4{α:Sort _} {a b:α}:cond true a b=a:=rfl
theorem B5{α:Sort _} {a b:α}:cond false a b=b:=rfl
inductive AV where
 |int (k:IntKind) (n:Int)
 |bool (b:Bool)
 |str (s:ByteArray)
 |ptr (k o:Nat)
 |pel (k i w o:Nat)
 |sl (k i w n:Nat) (m:Option Nat)
 |val (v:Value)
 |fn (f:Nat) (first caps:List AV)
 |agg (cs:List AV)
 |tup (vs:List AV)
 |ifc (t:Nat) (v:AV)
 |yld (k:Nat)
 |mp (k:Nat)
 |cut (k i w lo n:Nat)
class aS where
 El:Type
 decEl:DecidableEq El
 den:El→Type
 width:El→Nat
 enc:(t:El)→den t→List AV
 dec:(t:El)→List AV→Option (den t)
 ki:(t:El)→den t
 kinds:El→List (Option IntKind)
 src:Nat→Option (Array Tmp×Code×Code):=fun _=>none
instance [X:aS]:DecidableEq X.El:=X.decEl
inductive Slot where
 |any
 |is (v:AV)
 |opt (cs:List (Nat×Bool)) (v:AV)
inductive Ex where
 |normal
 |exit (id:Nat)
 |goto (l:Nat)
 |ret
inductive RS where
 |ready
 |busy
 |done (e:Ex)
inductive Blk [X:aS] where
 |dead
 |raw (cs:List AV)
 |vec (t:X.El) (xs:List (X.den t)) (own:Bool)
 |alias (k:Nat) (full pre:Bool)
 |dfr
 |mark
 |rcd (st:RS) (id:Nat) (tm:List Slot)
 |iJ (es:List (Int×Int))
structure St [X:aS] where
 tm:List Slot
 hp:List (Blk (X:=X))
structure TI [X:aS] where
 agg:Bool:=false
 size:Nat:=1
 zero:List AV:=[]
 cp:List (Nat×Nat×Bool):=[]
 len:Nat:=0
 esz:Nat:=1
 wB:Bool:=false
 slice:Bool:=false
 kind:Option IntKind:=none
 isBool:Bool:=false
 eqk:Option (List (Option IntKind)):=none -- '==' of the type: its cells' kinds (none: a bool)
 el:Option X.El:=none
 mp:Bool:=false -- a map of ints
 ael:Option X.El:=none -- an array whose new variables are rows of such elements
def TI.var [X:aS] (i:TI (X:=X)):List AV:=cond i.slice [.val (.slice none 0 0)] i.zero
abbrev yR [X:aS]:=List AV→List (Blk (X:=X))→Option (Bool×AV)
structure BB [X:aS] where
 ok:Bool
 v:AV
 hp:List (Blk (X:=X))
abbrev rK [X:aS]:=List AV→List (Blk (X:=X))→Option (BB (X:=X))
inductive Place where
 |slot (t:Nat)
 |cell (k o:Nat)
structure bj [X:aS] where
 keep:List Nat
 m:Nat
 mv:List (Place×X.El):=[]
 ctx:Nat:=0
 con:Option (St (X:=X)→Option (Bool×List (Bool×Ex×St (X:=X))×Ex×St (X:=X))):=none
structure Cfg [X:aS] where
 ti:List (Nat×TI (X:=X))
 E:List (Nat×yR (X:=X))
 H:List (Nat×rK (X:=X)):=[]
 F:List (Nat×Func):=[]
 apn:Bool:=true
 W:List (Nat×rK (X:=X)):=[] -- contracts that turn rows in place (not in regions that draw their order)
 Y:List (Nat×Nat×Nat×List Nat):=[] -- loops over functions: their numbers, and the slots that their rounds read
 rnd:Bool:=false -- within a round of such a loop
 gl:List (Nat×List AV):=[] -- the program's own variables: what their cells hold
 vt:List Nat:=[] -- structures without fields
 mt:List (Nat×String×Nat):=[] -- methods that are called through interfaces: type, name, function
 lp:List (Nat×Nat×bj (X:=X)):=[] -- loops at whose heads all slots but these, and blocks from a number on, are forgotten
def look {α:Type}:List (Nat×α)→Nat→Option α
 | [],_=>none
 |(k,x)::l,n=>cond (Nat.beq k n) (some x) (look l n)
def sN:List (Nat×String×Nat)→Nat→String→Option Nat
 | [],_,_=>none
 |(t,s,n)::l,k,m=>cond (and (Nat.beq t k) (s==m)) (some n) (sN l k m)
def wC (n:Nat):List Nat→Bool
 | []=>false
 |m::l=>cond (Nat.beq m n) true (wC n l)
def mu {α:Type}:List (Nat×Nat×α)→Nat→Nat→Option α
 | [],_,_=>none
 |(k,j,x)::l,n,m=>cond (and (Nat.beq k n) (Nat.beq j m)) (some x) (mu l n m)
def zV [X:aS]:List (Blk (X:=X))→Nat
 | []=>0
 | .rcd _ id _::_=>id+1
 |_::l=>zV l
def jM [X:aS]:List (Nat×Nat×bj (X:=X))→Nat→Nat→Nat→Option (bj (X:=X))
 | [],_,_,_=>none
 |(k,j,x)::l,n,m,c=>cond (and (Nat.beq k n) (and (Nat.beq j m) (Nat.beq x.ctx c))) (some x) (jM l n m c)
def ra [X:aS]:Nat→List (Blk (X:=X))→Nat
 |_,[]=>0
 |i, .dead::l=>i+ra (i+1) l
 |i,_::l=>ra (i+1) l
def xR [X:aS] (lp:List (Nat×Nat×bj (X:=X))) (f p:Nat) (hp:List (Blk (X:=X))):Option (bj (X:=X)):=
 match jM lp f p (100000+1000*ra 0 hp+hp.length)with
 |some x=>some x
 |none=>match jM lp f p (1000+hp.length)with
  |some x=>some x
  |none=>jM lp f p (zV hp)
theorem tU [X:aS] {lp:List (Nat×Nat×bj (X:=X))} {f p:Nat} {hp:List (Blk (X:=X))} {x:bj (X:=X)} (h:xR lp f p hp=some x):∃c,jM lp f p c=some x:=by
 unfold xR at h
 split at h
 ·rename_i y hy
  exact⟨_,hy.trans h⟩
 ·split at h
  ·rename_i y hy
   exact⟨_,hy.trans h⟩
  ·exact⟨_,h⟩
def ba [X:aS]:List (Blk (X:=X))→Bool
 | []=>true
 | .mark::_=>false
 |_::l=>ba l
def bL [X:aS]:List (Blk (X:=X))→List (Blk (X:=X))
 | []=>[]
 | .mark::l=> .dead::bL l
 |x::l=>x::bL l
def dG:Nat:=1000000
def ofConst:Value→Option AV
 | .int k n=>some (.int k n)
 | .bool b=>some (.bool b)
 | .string s=>some (.str s)
 | .agg _=>none
 | .tuple _=>none
 |v=>some (.val v)
def nth {α:Type}:List α→Nat→Option α
 | [],_=>none
 |x::_,0=>some x
 |_::l,n+1=>nth l n
def cO {α:Type}:List α→Nat→α→List α
 | [],_,_=>[]
 |_::l,0,y=>y::l
 |x::l,n+1,y=>x::cO l n y
def fH {α:Type}:Nat→List α→List α
 |0,l=>l
 |_+1,[]=>[]
 |n+1,_::l=>fH n l
def takeN {α:Type}:Nat→List α→List α
 |0,_=>[]
 |_+1,[]=>[]
 |n+1,x::l=>x::takeN n l
def bW (cs:List (Nat×Bool)) (c:Nat×Bool):Bool:=cs.any fun d=>and (Nat.beq d.1 c.1) (cond c.2 d.2 (not d.2))
def iu (cs:List (Nat×Bool)):Slot→Option AV
 | .is v=>some v
 | .opt ds v=>cond (ds.all (bW cs)) (some v) none
 | .any=>none
def rd (tm:List Slot) (cs:List (Nat×Bool)):Operand→Option AV
 | .tmp t=>match nth tm t with
  |some s=>iu cs s
  |none=>none
 | .const v=>ofConst v
 | .func f=>some (.fn f [] [])
 | .global g=>some (.val (.pointer (some ⟨g,0,none⟩)))
def rds (tm:List Slot) (cs:List (Nat×Bool)):List Operand→Option (List AV)
 | []=>some []
 |x::l=>match rd tm cs x,rds tm cs l with
  |some v,some vs=>some (v::vs)
  |_,_=>none
def kEq (a b:IntKind):Bool:=match a,b with
 | .i8, .i8| .i16, .i16| .i32, .i32| .i64, .i64| .u8, .u8| .u16, .u16| .u32, .u32| .u64, .u64=>true
 |_,_=>false
def av:List (Option IntKind)→List AV→Bool
 | [],[]=>true
 |some k::ks, .int k' _::cs=>and (kEq k k') (av ks cs)
 |none::ks, .bool _::cs=>av ks cs
 |_,_=>false
def ay:List (Option IntKind)→List AV→List AV→Option Bool
 | [],[],[]=>some true
 |some k::ks, .int k1 a::xs, .int k2 b::ys=>match cond (and (kEq k k1) (kEq k k2)) (ay ks xs ys) none with
  |some r=>some (and (a==b) r)
  |none=>none
 |none::ks, .bool a::xs, .bool b::ys=>match ay ks xs ys with
  |some r=>some (and (a==b) r)
  |none=>none
 |_,_,_=>none
def xH (op:BinOp) (k:IntKind) (a b:Int):Option (Bool×AV):=
 match op with
 | .add=>some (true, .int k (k.wrap (a+b)))
 | .sub=>some (true, .int k (k.wrap (a-b)))
 | .mul=>some (true, .int k (k.wrap (a*b)))
 | .quo=>some (b != 0, .int k (k.wrap (a.tdiv b)))
 | .rem=>some (b != 0, .int k (a.tmod b))
 | .and=>some (true, .int k (bits .and k a b))
 | .or=>some (true, .int k (bits .or k a b))
 | .xor=>some (true, .int k (bits .xor k a b))
 | .andNot=>some (true, .int k (bits .andNot k a b))
 | .eql=>some (true, .bool (a==b))
 | .neq=>some (true, .bool (a != b))
 | .lss=>some (true, .bool (decide (a<b)))
 | .leq=>some (true, .bool (decide (a≤b)))
 | .gtr=>some (true, .bool (decide (a>b)))
 | .geq=>some (true, .bool (decide (a≥b)))
 |_=>none
section
variable [X:aS] (cfg:Cfg (X:=X))
def binop (op:BinOp) (t:Nat) (x y:AV):Option (Bool×AV):=
 match x,y with
 | .int k a, .int k' b=>match op with
  | .shl=>some (decide (0≤b), .int k (k.wrap (a*2^(min b.toNat k.bits))))
  | .shr=>some (decide (0≤b), .int k (a.fdiv (2^(min b.toNat k.bits))))
  |_=>cond (kEq k k') (xH op k a b) none
 | .bool a, .bool b=>match op,look cfg.ti t with
  | .eql,some i=>cond i.isBool (some (true, .bool (a==b))) none
  | .neq,some i=>cond i.isBool (some (true, .bool (!(a==b)))) none
  |_,_=>none
 | .agg a, .agg b=>match look cfg.ti t with
  |some i=>match i.eqk with
   |some ks=>match ay ks a b with
    |some r=>match op with
     | .eql=>some (true, .bool r)
     | .neq=>some (true, .bool (!r))
     |_=>none
    |none=>none
   |none=>none
  |none=>none
 |_,_=>none
def part (agg:Bool) (cs:List AV) (o n:Nat):Option AV:=
 match agg with
 |true=>cond (Nat.ble (o+n) cs.length) (some (.agg (takeN n (fH o cs)))) none
 |false=>nth cs o
def deref (hp:List (Blk (X:=X))) (k:Nat):Nat:=match nth hp k with
 |some (.alias j _ _)=>j
 |_=>k
def bh:List AV→Option (IntKind×List Int)
 | [.int k n]=>some (k,[n])
 | .int k n::l=>match bh l with
  |some (k',ns)=>cond (kEq k k') (some (k,n::ns)) none
  |none=>none
 |_=>none
def yj:List Int→Nat→Int
 | [],_=>0
 |x::_,0=>x
 |_::l,n+1=>yj l n
def cR (k:IntKind) (ns:List Int) (o:Nat):Nat→List AV
 |0=>[]
 |n+1=> .int k (yj ns o)::cR k ns (o+1) n
def yl (g:Bool) (cs:List AV):Option AV:=match g,cs with
 |true,cs=>some (.agg cs)
 |false,[c]=>some c
 |false,_=>none
def yD (agg:Bool) (n:Nat) (cs:List AV) (o:Nat):Option (Bool×AV):=
 cond (and (Nat.ble 8 cs.length) (and (Nat.beq n 1) (!agg)))
  (match bh cs with
   |some (k,ns)=>some (Nat.ble (o+1) cs.length, .int k (yj ns o))
   |none=>(part agg cs o n).map fun v=>(true,v))
  ((part agg cs o n).map fun v=>(true,v))
def loadAt (agg:Bool) (n:Nat) (hp:List (Blk (X:=X))):AV→Option (Bool×AV)
 | .ptr k o=>match nth hp k with
  |some (.raw cs)=>yD agg n cs o
  |_=>none
 | .pel k i w o=>match nth hp (deref hp k)with
  |some (.vec t xs _)=>cond (Nat.beq w (X.width t)) ((part agg (X.enc t (xs.getD i (X.ki t))) o n).map fun v=>(decide (i<xs.length),v)) none
  |some (.raw cs)=>(part agg cs (i*w+o) n).map fun v=>(true,v)
  |_=>none
 |_=>none
def aC {α:Type} (cs:List α) (o:Nat):List α→List α
 | []=>cs
 |v::vs=>aC (cO cs o v) (o+1) vs
def cellsOf:AV→List AV
 | .agg cs=>cs
 | .tup _=>[]
 |v=>[v]
def pO (cp:List (Nat×Nat×Bool)) (cs:List AV):List (Nat×AV)→Option (List AV)
 | []=>some cs
 |(i,v)::l=>match nth cp i with
  |some (o,n,_)=>cond (and (Nat.ble 1 n) (and (Nat.beq (cellsOf v).length n) (Nat.ble (o+n) cs.length))) (pO cp (aC cs o (cellsOf v)) l) none
  |none=>none
def kX (esz:Nat) (cs:List AV):List (Nat×AV)→Option (List AV)
 | []=>some cs
 |(i,v)::l=>cond (and (Nat.ble 1 esz) (and (Nat.beq (cellsOf v).length esz) (Nat.ble (i*esz+esz) cs.length))) (kX esz (aC cs (i*esz) (cellsOf v)) l) none
def parts (tm:List Slot) (cs:List (Nat×Bool)):List (Nat×Operand)→Option (List (Nat×AV))
 | []=>some []
 |(i,x)::l=>match rd tm cs x,parts tm cs l with
  |some v,some vs=>some ((i,v)::vs)
  |_,_=>none
def lenOf:AV→Option Nat
 | .sl _ _ _ n _=>some n
 | .val (.slice none n _)=>some n
 |_=>none
def kH (k:IntKind) (a:Int):List AV→Option Int
 | []=>some a
 | .int k' b::l=>cond (kEq k k') (kH k (cond (decide (b<a)) b a) l) none
 |_=>none
def kW (k:IntKind) (a:Int):List AV→Option Int
 | []=>some a
 | .int k' b::l=>cond (kEq k k') (kW k (cond (decide (b>a)) b a) l) none
 |_=>none
def sg (b:Builtin) (ts:List Nat) (args:List AV):Option (Bool×AV):=
 match b,args with
 | .len,[x]=>match ts with
  | [t]=>match look cfg.ti t with
   |some i=>cond i.slice (match lenOf x with
    |some n=>some (true, .int .i64 (n:Int))
    |none=>none) none
   |none=>none
  |_=>none
 | .min, .int k a::l=>(kH k a l).map fun n=>(true, .int k n)
 | .max, .int k a::l=>(kW k a l).map fun n=>(true, .int k n)
 |_,_=>none
def xN (t:TI (X:=X)) (x i:AV):Option (Bool×AV):=
 match x,i with
 | .sl k i0 w n _, .int _ j=>cond (and t.slice (Nat.beq w t.esz)) (some (and (decide (0≤j)) (decide (j<(n:Int))), .pel k (i0+j.toNat) w 0)) none
 | .ptr k o, .int _ j=>cond (Nat.ble 2 t.len) (some (and (decide (0≤j)) (decide (j<(t.len:Int))), .ptr k (o+j.toNat*t.esz))) none
 | .val (.pointer (some ⟨b,o,none⟩)), .int _ j=>cond (Nat.ble 2 t.len) (some (and (decide (0≤j)) (decide (j<(t.len:Int))), .val (.pointer (some ⟨b,o+j.toNat*t.esz,none⟩)))) none
 | .pel k i0 w 0, .int _ j=>cond (and (Nat.ble 2 t.len) (Nat.beq w t.esz)) (some (and (decide (0≤j)) (decide (j<(t.len:Int))), .pel k (i0+j.toNat) w 0)) none
 |_,_=>none
def ob (n:Int):List (Int×Int)→Int
 | []=>0
 |(k,v)::es=>cond (n==k) v (ob n es)
def lE (n:Int):List (Int×Int)→Bool
 | []=>false
 |(k,_)::es=>or (n==k) (lE n es)
def cM (tm:List Slot) (cs:List (Nat×Bool)) (d:Int):Option Operand→Option Int
 |none=>some d
 |some x=>match rd tm cs x with
  |some (.int _ j)=>some j
  |_=>none
def rW (gl:List (Nat×List AV)) (agg:Bool) (n:Nat):AV→Option (Bool×AV)
 | .val (.pointer (some ⟨b,o,none⟩))=>match look gl b with
  |some cs=>match bh cs with
   |some (k,ns)=>(yl agg (cR k ns o n)).map fun v=>(Nat.ble (o+n) cs.length,v)
   |none=>(part agg cs o n).map fun v=>(true,v)
  |none=>none
 |_=>none
def orL {α:Type}:Option α→Option α→Option α
 |some r,_=>some r
 |none,s=>s
def vJ (k i w n len:Nat) (lo hi:Int):Option (Bool×AV):=
 some (and (Nat.ble (i+n) len) (and (decide (0≤lo)) (and (decide (lo≤hi)) (decide (hi≤(n:Int))))), .cut k i w lo.toNat (hi.toNat-lo.toNat))
def af (hp:List (Blk (X:=X))) (tm:List Slot) (cs:List (Nat×Bool)) (op:Op):Option (Bool×AV):=
 match op with
 | .move x| .assign x=>(rd tm cs x).map fun v=>(true,v)
 | .nilCheck x=>match rd tm cs x with
  |some (.ptr k o)=>some (true, .ptr k o)
  |some (.pel k i w o)=>some (true, .pel k i w o)
  |some (.fn f a b)=>some (true, .fn f a b)
  |some (.yld k)=>some (true, .yld k)
  |_=>none
 | .binOp op t x y _=>match rd tm cs x,rd tm cs y with
  |some v,some u=>binop cfg op t v u
  |_,_=>none
 | .unOp op _ x=>match op,rd tm cs x with
  | .not,some (.bool b)=>some (true, .bool (!b))
  | .neg,some (.int k n)=>some (true, .int k (k.wrap (0-n)))
  | .xor,some (.int k n)=>some (true, .int k (bits .xor k (if k.signed then-1 else k.max) n))
  |_,_=>none
 | .convert s d x=>match rd tm cs x,look cfg.ti s,look cfg.ti d with
  |some (.int _ n),some _,some i=>match i.kind with
   |some k=>some (true, .int k (k.wrap n))
   |none=>none
  |_,_,_=>none
 | .field t x f=>match rd tm cs x,look cfg.ti t with
  |some (.agg vs),some i=>match nth i.cp f with
   |some (o,n,g)=>(part g vs o n).map fun v=>(true,v)
   |none=>none
  |_,_=>none
 | .index t x ix=>match rd tm cs x,rd tm cs ix,look cfg.ti t with
  |some (.agg vs),some (.int _ j),some i=>cond (Nat.beq i.len 0) none (match bh vs with
   |some (k,ns)=>cond (Nat.beq vs.length (i.len*i.esz)) ((yl i.wB (cR k ns (j.toNat*i.esz) i.esz)).map fun v=>(and (decide (0≤j)) (decide (j<(i.len:Int))),v)) none
   |none=>cond (and (decide (0≤j)) (decide (j<(i.len:Int)))) ((part i.wB vs (j.toNat*i.esz) i.esz).map fun v=>(true,v)) none)
  |_,_,_=>none
 | .extract x i=>match rd tm cs x with
  |some (.tup vs)=>(nth vs i).map fun v=>(true,v)
  |_=>none
 | .fieldAddr t x f=>match rd tm cs x,look cfg.ti t with
  |some (.ptr k o),some i=>(nth i.cp f).map fun(d,_,_)=>(true, .ptr k (o+d))
  |some (.pel k j w o),some i=>(nth i.cp f).map fun(d,_,_)=>(true, .pel k j w (o+d))
  |_,_=>none
 | .indexAddr t x ix=>match rd tm cs x,rd tm cs ix,look cfg.ti t with
  |some v,some j,some i=>xN i v j
  |_,_,_=>none
 | .load t a=>match rd tm cs a,look cfg.ti t with
  |some v,some i=>orL (loadAt i.agg i.size hp v) (rW cfg.gl i.agg i.size v)
  |_,_=>none
 | .lookup t x ix true=>match rd tm cs x,rd tm cs ix,look cfg.ti t with
  |some (.mp j),some (.int k n),some i=>match nth hp j with
   |some (.iJ es)=>cond (and i.mp (kEq k .i64)) (some (true, .tup [.int .i64 (ob n es), .bool (lE n es)])) none
   |_=>none
  |_,_,_=>none
 | .build t ps=>match parts tm cs ps.toList,look cfg.ti t with
  |some vs,some i=>cond (and i.agg (not i.zero.isEmpty)) ((match i.len with
    |0=>pO i.cp i.zero vs
    |_+1=>kX i.esz i.zero vs).map fun r=>(true, .agg r)) none
  |some [],none=>cond (wC t cfg.vt) (some (true, .agg [])) none
  |_,_=>none
 | .slice t x lo hi none=>cond cfg.apn none (match rd tm cs x,look cfg.ti t,cM tm cs 0 lo,cM tm cs 0 hi with
  |some (.sl k i w n none),some ti,some l,some h=>match nth hp k with
   |some (.vec _ xs _)=>cond (and ti.slice (Nat.beq w ti.esz)) (match lo,hi with
    |none,none=>vJ k i w n xs.length 0 n
    |none,some _=>vJ k i w n xs.length 0 h
    |some _,none=>vJ k i w n xs.length l n
    |some _,some _=>vJ k i w n xs.length l h) none
   |_=>none
  |_,_,_,_=>none)
 | .makeFunc (.func f) first caps=>match rds tm cs first.toList,rds tm cs caps.toList with
  |some a,some b=>some (true, .fn f a b)
  |_,_=>none
 | .makeInterface t x=>match rd tm cs x,look cfg.ti t with
  |some v,some i=>match i.kind with
   |some _=>some (true, .ifc t v)
   |none=>none
  |some v,none=>cond (wC t cfg.vt) (some (true, .ifc t v)) none
  |_,_=>none
 | .call c=>match rds tm cs c.args.toList with
  |some args=>match c.callee with
   | .builtin b=>sg cfg b c.argTypes.toList args
   | .value f=>match rd tm cs f with
    |some (.fn n first caps)=>match look cfg.E n with
     |some con=>con (first++(args++caps)) hp
     |none=>none
    |_=>none
   | .invoke f m=>match rd tm cs f with
    |some (.ifc t u)=>match sN cfg.mt t m with
     |some n=>match look cfg.E n with
      |some con=>con (u::args) hp
      |none=>none
     |none=>none
    |_=>none
  |none=>none
 |_=>none
def td (n:Nat) (z:List AV):List AV:=match n with
 |0=>[]
 |n+1=>z++td n z
def gM (el:X.El):Nat→List AV→Option (List (X.den el))
 |0,_=>some []
 |n+1,cs=>match X.dec el (takeN (X.width el) cs),gM el n (fH (X.width el) cs)with
  |some x,some xs=>some (x::xs)
  |_,_=>none
def lO {α:Type} (i n:Nat) (xs:List α):List α:=cond (and (Nat.beq i 0) (Nat.beq n xs.length)) xs (takeN n (fH i xs))
def ga (el:X.El) (i w n:Nat):Option (Blk (X:=X))→Option (Bool×List (X.den el))
 |some (.vec t xs _)=>match decEq t el with
  | .isTrue h=>cond (Nat.beq w (X.width el)) (some (Nat.ble (i+n) xs.length,lO i n (h▸xs))) none
  | .isFalse _=>none
 |some (.raw cs)=>cond (and (Nat.beq w (X.width el)) (Nat.ble ((i+n)*w) cs.length)) ((gM el n (fH (i*w) cs)).map fun xs=>(true,xs)) none
 |_=>none
def gW (el:X.El) (hp:List (Blk (X:=X))):AV→Option (Bool×List (X.den el))
 | .val (.slice none n _)=>cond (Nat.beq n 0) (some (true,[])) none
 | .sl k i w n _=>match nth hp k with
  |some (.vec t xs _)=>match decEq t el with
   | .isTrue h=>cond (and (Nat.beq w (X.width el)) (Nat.beq i 0)) (some (Nat.beq n xs.length,h▸xs)) none
   | .isFalse _=>none
  |some (.alias j _ _)=>ga el i w n (nth hp j)
  |b=>ga el i w n b
 | .cut k i w lo n=>match nth hp k with
  |some (.vec t xs o)=>ga el (i+lo) w n (some (.vec t xs o))
  |_=>none
 |_=>none
def sR (el:X.El) (hp:List (Blk (X:=X))):AV→Option (Bool×List (X.den el)×List (Blk (X:=X))×Bool)
 | .val (.slice none n c)=>cond (and (Nat.beq n 0) (Nat.beq c 0)) (some (true,[],hp,false)) none
 | .sl k i w n m=>match nth hp k,m with
  |some (.vec t xs true),none=>match decEq t el with
   | .isTrue h=>cond (and (Nat.beq w (X.width el)) (Nat.beq i 0)) (some (Nat.beq n xs.length,h▸xs,cO hp k .dead,false)) none
   | .isFalse _=>none
  |some (.alias j _ true),none=>match nth hp j with
   |some (.vec t xs true)=>match decEq t el with
    | .isTrue h=>cond (and (Nat.beq w (X.width el)) (Nat.beq i 0)) (some (Nat.ble n xs.length,lO 0 n (h▸xs),cO hp j .dead,false)) none
    | .isFalse _=>none
   |_=>none
  |some (.raw cs),some c=>cond (and (and (Nat.beq w (X.width el)) (Nat.beq i 0)) (and (Nat.beq c n) (Nat.beq (n*w) cs.length))) ((gM el n cs).map fun xs=>(true,xs,cO hp k .dead,false)) none
  |some (.alias _ true false),some c=>match gW el hp (.sl k i w n m)with
   |some (ok,xs)=>some (and ok (Nat.beq c (i+n)),xs,hp,true)
   |none=>none
  |_,_=>none
 | .cut k i w lo n=>match nth hp k with
  |some (.vec t xs true)=>match decEq t el with
   | .isTrue h=>cond (and (Nat.beq w (X.width el)) (and (Nat.beq i 0) (Nat.beq lo 0))) (some (Nat.ble n xs.length,lO 0 n (h▸xs),cO hp k .dead,false)) none
   | .isFalse _=>none
  |_=>none
 |_=>none
def nx (el:X.El) (hp:List (Blk (X:=X))) (s x:AV):Option (Bool×AV×List (Blk (X:=X))):=
 match sR el hp s,gW el hp x with
 |some (ok,xs,hp',full),some (ok',ys)=>some (and ok (and ok' (and (Nat.ble xs.length 1048576) (and (Nat.ble ys.length 1048576) (cond full (Nat.blt 0 ys.length) true)))), .sl hp'.length 0 (X.width el) (xs++ys).length none,hp'++[.vec el (xs++ys) true])
 |_,_=>none
def my (hp:List (Blk (X:=X))) (k i n:Nat):Option Nat→Bool
 |some c=>Nat.ble (i+n) c
 |none=>match nth hp (deref hp k)with
  |some (.vec _ xs _)=>Nat.ble (i+n) xs.length
  |_=>false
def oI (t:TI (X:=X)) (hp:List (Blk (X:=X))) (v:AV) (lo hi:Option Int) (mx:Option Int):Option (Bool×AV×List (Blk (X:=X))):=
 match v with
 | .sl k i w n m=>cond (and t.slice (Nat.beq w t.esz)) (match lo,hi,mx with
  |none,some (.ofNat 0),some (.ofNat 0)=>match t.el with
   |some el=>some (true, .sl hp.length 0 w 0 none,hp++[.vec el [] true])
   |none=>none
  |none,some h,none=>match nth hp k with
   |some (.alias _ _ _)=>none
   |some .mark=>none
   |_=>some (and (my hp k i n m) (and (decide (0≤h)) (decide (h≤(n:Int)))), .sl hp.length i w h.toNat m,hp++[.alias k false true])
  |lo,hi,none=>some (and (my hp k i n m) (and (decide (0≤lo.getD 0)) (and (decide (lo.getD 0≤hi.getD n)) (decide (hi.getD n≤(n:Int))))), .sl hp.length (i+(lo.getD 0).toNat) w ((hi.getD n).toNat-(lo.getD 0).toNat) m,hp++[.alias (deref hp k) false false])
  |lo,some h,some x=>some (and (my hp k i n m) (and (decide (0≤lo.getD 0)) (and (decide (lo.getD 0≤h)) (and (h==x) (decide (h≤(n:Int)))))), .sl hp.length (i+(lo.getD 0).toNat) w (h.toNat-(lo.getD 0).toNat) (some (i+x.toNat)),hp++[.alias (deref hp k) true false])
  |_,_,_=>none) none
 | .ptr k o=>match lo,hi,mx with
  |none,none,none=>cond (and (Nat.ble 1 t.len) (Nat.beq t.esz 1)) (some (true, .sl k o 1 t.len (some (o+t.len)),hp)) none
  |_,_,_=>none
 |_=>none
def vq (el:X.El) (z:X.den el) (w:Nat) (hp:List (Blk (X:=X))) (l c:Int):Bool×AV×List (Blk (X:=X)):=
 (and (decide (0≤l)) (and (l==c) (decide (l≤1048576))), .sl hp.length 0 w l.toNat none,hp++[.vec el (List.replicate l.toNat z) true])
def storeAt (n:Nat) (hp:List (Blk (X:=X))) (a v:AV):Option (Bool×List (Blk (X:=X))):=
 match a with
 | .ptr k o=>match nth hp k with
  |some (.raw cs)=>cond (and (Nat.ble 1 n) (and (Nat.beq (cellsOf v).length n) (Nat.ble (o+n) cs.length))) (some (true,cO hp k (.raw (aC cs o (cellsOf v))))) none
  |_=>none
 | .pel k i w o=>match nth hp k with
  |some (.raw cs)=>cond (and (Nat.ble 1 n) (and (Nat.beq (cellsOf v).length n) (Nat.ble ((i*w+o)+n) cs.length))) (some (true,cO hp k (.raw (aC cs (i*w+o) (cellsOf v))))) none
  |some (.vec t xs true)=>cond (and (Nat.beq w (X.width t)) (and (Nat.ble 1 n) (and (Nat.beq (cellsOf v).length n) (Nat.ble (o+n) (X.width t)))))
    (match X.dec t (aC (X.enc t (xs.getD i (X.ki t))) o (cellsOf v))with
    |some x=>some (decide (i<xs.length),cO hp k (.vec t (xs.set i x) true))
    |none=>none) none
  |_=>none
 |_=>none
def zT (W:List (Nat×rK (X:=X))) (n:Nat) (args:List AV) (hp:List (Blk (X:=X))):Option (Bool×Option AV×List (Blk (X:=X))):=match look W n with
 |some con=>(con args hp).map fun r=>(r.ok,some r.v,r.hp)
 |none=>none
def aA (hp:List (Blk (X:=X))) (tm:List Slot) (cs:List (Nat×Bool)) (op:Op):Option (Bool×Option AV×List (Blk (X:=X))):=
 match op with
 | .alloc t=>match look cfg.ti t with
  |some i=>match i.ael with
   |none=>cond i.var.isEmpty none (some (true,some (.ptr hp.length 0),hp++[.raw i.var]))
   |some el=>cond (and cfg.apn (and (not i.var.isEmpty) (and (Nat.beq i.esz (X.width el)) (Nat.beq i.var.length (i.len*X.width el))))) (match gM el i.len i.var with
    |some xs=>some (true,some (.pel hp.length 0 i.esz 0),hp++[.vec el xs true])
    |none=>none) none
  |none=>none
 | .makeMap t none=>match look cfg.ti t with
  |some i=>cond i.mp (some (true,some (.mp hp.length),hp++[.iJ []])) none
  |none=>none
 | .insert t m k x=>match rd tm cs m,rd tm cs k,rd tm cs x,look cfg.ti t with
  |some (.mp j),some (.int k1 n),some (.int k2 v),some i=>match nth hp j with
   |some (.iJ es)=>cond (and i.mp (and (kEq k1 .i64) (kEq k2 .i64))) (some (not (lE n es),none,cO hp j (.iJ (es++[(n,v)])))) none
   |_=>none
  |_,_,_,_=>none
 | .box _ x=>match rd tm cs x with
  |some (.tup _)=>none
  |some v=>some (true,some (.ptr hp.length 0),hp++[.raw (cellsOf v)])
  |none=>none
 | .buildSlice t 0 ps=>match ps.toList,look cfg.ti t with
  | [],some i=>match i.el with
   |some el=>cond (and i.slice (Nat.beq i.esz (X.width el))) (some (true,some (.sl hp.length 0 i.esz 0 none),hp++[.vec el [] true])) none
   |none=>none
  |_,_=>none
 | .buildSlice t n ps=>match parts tm cs ps.toList,look cfg.ti t with
  |some vs,some i=>cond (and i.slice (and (and (Nat.beq i.zero.length i.esz) (Nat.ble 1 i.esz)) (and (Nat.ble 1 n) (Nat.ble (n*i.esz) 4096)))) (match kX i.esz (td n i.zero) vs with
   |some cells=>some (true,some (.sl hp.length 0 i.esz n (some n)),hp++[.raw cells])
   |none=>none) none
  |_,_=>none
 | .store t a x=>match rd tm cs a,rd tm cs x,look cfg.ti t with
  |some p,some v,some i=>(storeAt i.size hp p v).map fun(ok,h)=>(ok,none,h)
  |_,_,_=>none
 | .slice t x lo hi mx=>cond cfg.apn (match rd tm cs x,look cfg.ti t,cM tm cs 0 lo,cM tm cs 0 hi,cM tm cs 0 mx with
  |some v,some i,some l,some h,some m=>(oI i hp v (lo.map fun _=>l) (hi.map fun _=>h) (mx.map fun _=>m)).map fun(ok,v,h)=>(ok,some v,h)
  |_,_,_,_,_=>none) none
 | .makeSlice t l c=>match rd tm cs l,rd tm cs c,look cfg.ti t with
  |some (.int k1 n),some (.int k2 n'),some i=>match i.el with
   |some el=>match X.dec el i.zero with
    |some z=>cond (and (and (kEq k1 .i64) (kEq k2 .i64)) (and i.slice (and (Nat.beq i.esz (X.width el)) (Nat.ble 1 i.esz)))) (match vq el z i.esz hp n n' with
     |(ok,v,h)=>some (ok,some v,h)) none
    |none=>none
   |none=>none
  |_,_,_=>none
 | .call c=>match rds tm cs c.args.toList with
  |some args=>match c.callee with
   | .builtin .append=>match args,c.argTypes.toList with
    | [s,x],[t,t']=>match look cfg.ti t with
     |some i=>match i.el with
      |some el=>cond (and (Nat.beq t t') (and i.slice (and (Nat.beq i.esz (X.width el)) (and (Nat.ble 1 i.esz) (and (Nat.beq i.zero.length i.esz) cfg.apn))))) ((nx el hp s x).map fun(ok,v,h)=>(ok,some v,h)) none
      |none=>none
     |none=>none
    |_,_=>none
   | .value f=>match rd tm cs f with
    |some (.fn n first caps)=>match look cfg.H n with
     |some con=>(con (first++(args++caps)) hp).map fun r=>(r.ok,some r.v,r.hp)
     |none=>cond cfg.apn (zT cfg.W n (first++(args++caps)) hp) none
    |_=>none
   |_=>none
  |none=>none
 |_=>none
def bZ (d:Nat):List Slot→Bool
 | []=>true
 | .opt cs _::l=>and (cs.all fun c=>not (Nat.beq c.1 d)) (bZ d l)
 |_::l=>bZ d l
def cD (s:St (X:=X)) (d:Option Nat) (v:Slot):St (X:=X):=
 match d with
 |some d=>{s with tm:=cO s.tm d v}
 |none=>s
def bN:List Slot→List Slot
 | []=>[]
 | .opt _ _::l=> .any::bN l
 |x::l=>x::bN l
def a8 (tm:List Slot) (t:Nat):Option (List (Nat×Bool)×Bool):=
 match nth tm t with
 |some (.is (.bool b))=>some ([],b)
 |some (.opt cs (.bool b))=>some (cs,b)
 |_=>none
def yP (p b:Bool):Bool:=match p with
 |true=>b
 |false=>not b
def ai (tm:List Slot):List (Nat×Bool)→Bool
 | []=>true
 | [c]=>match a8 tm c.1 with
  |some (_,b)=>yP c.2 b
  |none=>false
 |c::l=>match a8 tm c.1 with
  |some (_,b)=>and (yP c.2 b) (ai tm l)
  |none=>false
def merge (b:Bool) (x y:AV):Option AV:=
 match x,y with
 | .bool p, .bool q=>some (.bool (cond b p q))
 | .int k p, .int k' q=>cond (kEq k k') (some (.int k (cond b p q))) none
 |_,_=>none
def fu (tm:List Slot) (cs:List (Nat×Bool)) (c a b:Operand):Option AV:=
 match c with
 | .tmp t=>match a8 tm t with
  |some (ds,g)=>cond (ds.all (bW cs)) (match rd tm ((t,true)::cs) a,rd tm ((t,false)::cs) b with
   |some x,some y=>merge g x y
   |_,_=>none) none
  |none=>none
 |_=>none
variable {R:Type} (fail:R)
abbrev bo:=Nat→List AV→List (Blk (X:=X))→(AV→List (Blk (X:=X))→R)→R
variable (ci:bo (X:=X) (R:=R))
section
variable {R:Type}
mutual
def gz:AV→(AV→R)→R
 | .int k n,K=>K (.int k n)
 | .bool b,K=>K (.bool b)
 | .str s,K=>K (.str s)
 | .ptr k o,K=>K (.ptr k o)
 | .pel k i w o,K=>K (.pel k i w o)
 | .sl k i w n m,K=>K (.sl k i w n m)
 | .val v,K=>K (.val v)
 | .fn f a c,K=>iV a fun a=>iV c fun c=>K (.fn f a c)
 | .agg cs,K=>iV cs fun cs=>K (.agg cs)
 | .tup vs,K=>iV vs fun vs=>K (.tup vs)
 | .ifc t v,K=>gz v fun v=>K (.ifc t v)
 | .yld k,K=>K (.yld k)
 | .mp k,K=>K (.mp k)
 | .cut k i w lo n,K=>K (.cut k i w lo n)
def iV:List AV→(List AV→R)→R
 | [],K=>K []
 |v::l,K=>gz v fun v=>iV l fun l=>K (v::l)
end
def o5 (s:Slot) (K:Slot→R):R:=match s with
 | .any=>K .any
 | .is v=>gz v fun v=>K (.is v)
 | .opt cs v=>gz v fun v=>K (.opt cs v)
def gF:List Slot→(List Slot→R)→R
 | [],K=>K []
 |x::l,K=>o5 x fun x=>gF l fun l=>K (x::l)
def tj (b:Blk (X:=X)) (K:Blk (X:=X)→R):R:=match b with
 | .dead=>K .dead
 | .raw cs=>iV cs fun cs=>K (.raw cs)
 | .vec t xs o=>K (.vec t xs o)
 | .alias k f p=>K (.alias k f p)
 | .dfr=>K .dfr
 | .mark=>K .mark
 | .rcd st id tm=>gF tm fun tm=>K (.rcd st id tm)
 | .iJ es=>K (.iJ es)
def dr:List (Blk (X:=X))→(List (Blk (X:=X))→R)→R
 | [],K=>K []
 |x::l,K=>tj x fun x=>dr l fun l=>K (x::l)
def hJ {α:Type}:List α→Nat→α→(List α→R)→R
 | [],_,_,K=>K []
 |_::l,0,y,K=>K (y::l)
 |x::l,n+1,y,K=>hJ l n y fun l=>K (x::l)
end
def lX (hasG:Bool) (o:Oper) (v:Slot) (s:St (X:=X)) (K:St (X:=X)→R):R:=
 match o.dst with
 |none=>K s
 |some d=>match hasG with
  |true=>cond (bZ d (v::s.tm)) (K {s with tm:=cO s.tm d v}) fail
  |false=>match v with
   | .opt _ _=>fail
   |_=>K {s with tm:=cO s.tm d v}
def du (hasG:Bool) (o:Oper) (v:Slot) (s:St (X:=X)) (K:St (X:=X)→R):R:=
 match o.dst with
 |none=>K s
 |some d=>match hasG with
  |true=>cond (bZ d (v::s.tm)) (o5 v fun v=>hJ s.tm d v fun tm=>K {tm:=tm,hp:=s.hp}) fail
  |false=>match v with
   | .opt _ _=>fail
   |v=>o5 v fun v=>hJ s.tm d v fun tm=>K {tm:=tm,hp:=s.hp}
def kp (hasG:Bool) (cs:List (Nat×Bool)) (o:Oper) (s:St (X:=X)) (K:St (X:=X)→R):R:=
 match af cfg s.hp s.tm cs o.op with
 |some (ok,v)=>cond ok (du fail hasG o (.is v) s K) fail
 |none=>match o.op with
  | .pick c a b=>match fu s.tm cs c a b with
   |some v=>du fail hasG o (.is v) s K
   |none=>match c with
    | .tmp t=>match a8 s.tm t with
     |some (ds,g)=>cond (ds.all (bW cs)) (cond g (match rd s.tm ((t,true)::cs) a with
      |some v=>du fail hasG o (.is v) s K
      |none=>fail) (match rd s.tm ((t,false)::cs) b with
      |some v=>du fail hasG o (.is v) s K
      |none=>fail)) fail
     |none=>fail
    |_=>fail
  |_=>match aA cfg s.hp s.tm cs o.op with
   |some (ok,some v,h)=>cond ok (du fail hasG o (.is v) {s with hp:=h} K) fail
   |some (ok,none,h)=>cond ok (du fail hasG o .any {s with hp:=h} K) fail
   |none=>match o.op with
    | .call c=>match c.callee,rds s.tm cs c.args.toList with
     | .value f,some args=>match rd s.tm cs f with
      |some (.fn n first caps)=>cond (Nat.ble dG n) fail (ci n (first++(args++caps)) s.hp fun v h=>du fail hasG o (.is v) {s with hp:=h} K)
      |some (.yld k)=>ci (dG+k) args s.hp fun v h=>du fail hasG o (.is v) {s with hp:=h} K
      |_=>fail
     | .invoke f m,some args=>match rd s.tm cs f with
      |some (.ifc t u)=>match sN cfg.mt t m with
       |some n=>cond (Nat.ble dG n) fail (ci n (u::args) s.hp fun v h=>du fail hasG o (.is v) {s with hp:=h} K)
       |none=>fail
      |_=>fail
     |_,_=>fail
    |_=>fail
def iL (hasG:Bool) (cs:List (Nat×Bool)) (o:Oper) (s:St (X:=X)) (K:St (X:=X)→R):R:=
 match af cfg s.hp s.tm cs o.op with
 |some (ok,v)=>cond ok (du fail hasG o (.is v) s K) fail
 |none=>match o.op with
  | .pick c a b=>match fu s.tm cs c a b with
   |some v=>du fail hasG o (.is v) s K
   |none=>match c with
    | .tmp t=>match a8 s.tm t with
     |some (ds,g)=>cond (ds.all (bW cs)) (cond g (match rd s.tm ((t,true)::cs) a with
      |some v=>du fail hasG o (.is v) s K
      |none=>fail) (match rd s.tm ((t,false)::cs) b with
      |some v=>du fail hasG o (.is v) s K
      |none=>fail)) fail
     |none=>fail
    |_=>fail
  |_=>match aA cfg s.hp s.tm cs o.op with
   |some (ok,some v,h)=>cond ok (dr h fun h=>du fail hasG o (.is v) {tm:=s.tm,hp:=h} K) fail
   |some (ok,none,h)=>cond ok (dr h fun h=>du fail hasG o .any {tm:=s.tm,hp:=h} K) fail
   |none=>match o.op with
    | .call c=>match c.callee,rds s.tm cs c.args.toList with
     | .value f,some args=>match rd s.tm cs f with
      |some (.fn n first caps)=>cond (Nat.ble dG n) fail (ci n (first++(args++caps)) s.hp fun v h=>du fail hasG o (.is v) {s with hp:=h} K)
      |some (.yld k)=>ci (dG+k) args s.hp fun v h=>du fail hasG o (.is v) {s with hp:=h} K
      |_=>fail
     | .invoke f m,some args=>match rd s.tm cs f with
      |some (.ifc t u)=>match sN cfg.mt t m with
       |some n=>cond (Nat.ble dG n) fail (ci n (u::args) s.hp fun v h=>du fail hasG o (.is v) {s with hp:=h} K)
       |none=>fail
      |_=>fail
     |_,_=>fail
    |_=>fail
def fR (ops:List Oper) (hasG:Bool) (o:Oper) (s:St (X:=X)) (K:St (X:=X)→R):R:=
 match o.guard with
 |none=>iL cfg fail ci hasG [] o s K
 |some (g,pol)=>match nth ops g with
  |some og=>match og.dst with
   |some tg=>match a8 s.tm tg with
    |some (ds,_)=>
     match af cfg s.hp s.tm (ds++[(tg,pol)]) o.op with
     |some (ok,v)=>cond (or ok (not (ai s.tm (ds++[(tg,pol)])))) (du fail hasG o (.opt (ds++[(tg,pol)]) v) s K) fail
     |none=>match o.op with
      | .pick c a b=>match fu s.tm (ds++[(tg,pol)]) c a b with
       |some v=>du fail hasG o (.opt (ds++[(tg,pol)]) v) s K
       |none=>cond (ai s.tm (ds++[(tg,pol)])) (iL cfg fail ci hasG (ds++[(tg,pol)]) o s K) (du fail hasG o (.opt (ds++[(tg,pol)]) (.bool false)) s K)
      |_=>cond (ai s.tm (ds++[(tg,pol)])) (iL cfg fail ci hasG (ds++[(tg,pol)]) o s K) (du fail hasG o (.opt (ds++[(tg,pol)]) (.bool false)) s K)
    |none=>fail
   |none=>fail
  |none=>fail
def cn (ops:List Oper) (hasG:Bool):List Oper→St (X:=X)→(St (X:=X)→R)→R
 | [],s,K=>K s
 |o::l,s,K=>fR cfg fail ci ops hasG o s fun s'=>cn ops hasG l s' K
def aq:Op→Option Nat
 | .move _| .assign _| .nilCheck _| .binOp .. | .unOp .. | .convert .. | .field .. | .index .. | .extract .. | .fieldAddr .. | .indexAddr .. | .build .. | .makeFunc .. | .makeInterface .. | .pick .. =>some 0
 | .load .. =>some 1
 | .call _=>some 2
 | .store .. =>some 3
 |_=>none
def bk (op:Op):Option Nat:=match op with
 | .buildSlice .. =>some 2
 | .slice _ _ _ _ none=>some 1
 |_=>aq op
def jj (ops:List Oper):Bool:=
 and (ops.all fun o=>match aq o.op with
  |some 0|some 1|some 2=>true
  |_=>false) (Region.lexB .any ops.toArray)
def aW (o:Oper) (k:Nat):Bool:=o.after.toList.any fun e=>and (Region.binds .any e) (Nat.beq e.on k)
def a6 (o:Oper) (t:Nat):Bool:=o.op.operands.toList.any fun x=>match x with
 | .tmp u=>Nat.beq u t
 |_=>false
def fw (t:Nat) (o:Oper):Bool:=match o.dst with
 |some d=>Nat.beq d t
 |none=>false
def A0 (ops:List Oper) (t:Nat):Option Op:=match ops.find? (fw t)with
 |some o=>some o.op
 |none=>none
def yA (ops:List Oper) (s:St (X:=X)):Nat→Nat→Option Nat
 |0,_=>none
 |n+1,t=>match A0 ops t with
  |none=>(match nth s.tm t with
   |some (.is (.ptr k _))=>some k
   |_=>none)
  |some (.fieldAddr _ (.tmp u) _)=>cond (Nat.beq u t) none (yA ops s n u)
  |_=>none
def eJ (ops:List Oper) (s:St (X:=X)) (op:Op):Option Nat:=
 match op with
 | .load _ (.tmp t)| .store _ (.tmp t) _=>yA ops s 4 t
 |_=>none
def lz (ops:List Oper) (s:St (X:=X)) (x y:Op):Bool:=
 match eJ ops s x,eJ ops s y with
 |some k,some j=>not (Nat.beq k j)
 |_,_=>false
def qU (ops:List Oper) (s:St (X:=X)) (i:Nat) (o:Oper) (j:Nat) (p:Oper):Bool:=
 cond (Nat.beq i j) true (and
  (match p.dst with
   |some d=>and (cond (a6 o d) (and (Nat.blt j i) (aW o j)) true) (match o.dst with
     |some e=>not (Nat.beq d e)
     |none=>true)
   |none=>true)
  (match aq p.op,aq o.op with
   |some 3,some 3=>cond (Nat.blt j i) (aW o j) true
   |some 3,some 1=>or (or (and (Nat.blt j i) (aW o j)) (and (Nat.blt i j) (aW p i))) (lz ops s o.op p.op)
   |some 3,some 2=>or (and (Nat.blt j i) (aW o j)) (and (Nat.blt i j) (aW p i))
   |_,_=>true))
def iE (i:Nat) (o:Oper):Bool:=
 and (match o.guard with
  |none=>true
  |some _=>false) (and (o.after.toList.all fun e=>or (not (Region.binds .any e)) (Nat.blt e.on i))
  (match o.op,aq o.op with
   | .pick _ _ _,_=>false
   |_,some 3=>(match o.dst with
    |none=>true
    |some _=>false)
   |_,some _=>true
   |_,none=>false))
def idx {α:Type}:Nat→List α→List (Nat×α)
 |_,[]=>[]
 |i,x::l=>(i,x)::idx (i+1) l
def jb (ops:List Oper) (s:St (X:=X)):Bool:=
 (idx 0 ops).all fun io=>and (iE io.1 io.2) ((idx 0 ops).all fun jp=>qU ops s io.1 io.2 jp.1 jp.2)
def j6 (acc:List Nat):List Edge→Nat
 | []=>0
 |e::l=>cond (Region.binds .any e) (Nat.lor (Nat.lor (Nat.shiftLeft 1 e.on) (match nth acc e.on with
  |some r=>r
  |none=>0)) (j6 acc l)) (j6 acc l)
def nj:List Oper→List Nat→List Nat
 | [],acc=>acc
 |o::l,acc=>nj l (acc++[j6 acc o.after.toList])
def reach (ops:List Oper):List Nat:=nj ops []
def lL (rs:List Nat) (i j:Nat):Bool:=match nth rs i with
 |some r=>Nat.testBit r j
 |none=>false
def vd (ops:List Oper) (t:Nat):Bool:=ops.any fun o=>match o.dst with
 |some d=>Nat.beq d t
 |none=>false
def ung (o:Oper):Bool:=match o.guard with
 |none=>true
 |some _=>false
def bC (o:Oper):Bool:=match o.op with
 | .call c=>(match c.callee with
  | .builtin .append=>false
  | .builtin _=>true
  |_=>false)
 | .buildSlice .. =>false
 |_=>true
def cJ (o:Oper):Bool:=match bk o.op with
 |some 2=>not (bC o)
 |_=>false
def tV (wk:Bool) (ops:List Oper) (s:St (X:=X)) (rs:List Nat) (i:Nat) (o:Oper):Bool:=
 and (o.after.toList.all fun e=>or (not (Region.binds .any e)) (Nat.blt e.on i)) (and
  (match o.guard with
   |none=>true
   |some (g,_)=>lL rs i g)
  (match o.op,bk o.op with
   | .load _ (.tmp t),_=>cond (or wk (ung o)) true (or (ops.all bC) (and (not (vd ops t)) (match nth s.tm t with
    |some (.is (.ptr k _))=>Nat.blt k s.hp.length
    |_=>false)))
   | .slice _ _ _ _ none,_=>wk
   |_,some 0=>true
   |_,some 2=>true
   |_,_=>false))
def qJ (rs:List Nat) (i:Nat) (o:Oper) (j:Nat) (p:Oper):Bool:=
 cond (Nat.beq i j) (match o.dst with
  |some d=>not (a6 o d)
  |none=>true) (and
  (match p.dst with
   |some d=>and (cond (a6 o d) (lL rs i j) true) (match o.dst with
     |some e=>not (Nat.beq d e)
     |none=>true)
   |none=>true)
  (cond (and (cJ o) (and (cJ p) (Nat.blt j i))) (lL rs i j) true))
def kV (wk:Bool) (ops:List Oper) (s:St (X:=X)) (rs:List Nat):Bool:=
 (idx 0 ops).all fun io=>and (tV wk ops s rs io.1 io.2) ((idx 0 ops).all fun jp=>qJ rs io.1 io.2 jp.1 jp.2)
abbrev u0 (ops:List Oper) (s:St (X:=X)) (rs:List Nat):Bool:=kV false ops s rs
def yK (o:Oper):Bool:=match o.op with
 | .alloc _=>true
 |_=>false
def mI {α:Type} (p:α→Bool):List α→List α×List α
 | []=>([],[])
 |o::l=>cond (p o) (match mI p l with|(a,b)=>(o::a,b)) ([],o::l)
def wQ (A:List Oper) (j:Nat):Bool:=match nth A j with
 |some p=>and (ung p) (match aq p.op with
  |some 0=>true
  |_=>false)
 |none=>false
def vE (rs:List Nat) (A:List Oper):Nat→List Oper→Bool
 |_,[]=>true
 |k,o::l=>and (and (and (ung o) (match aq o.op with
  |some 0|some 1|some 3=>true
  |_=>false)) ((List.range k).all fun j=>or (lL rs k j) (wQ A j))) (vE rs A (k+1) l)
def Bg (s:St (X:=X)) (al:Oper):Bool:=match al.dst,al.guard with
 |some d,none=>(match nth s.tm d with
  |some .any=>true
  |_=>false)
 |_,_=>false
def xX (ops:List Oper) (s:St (X:=X)):Bool:=
 match mI (fun o=>not (yK o)) ops with
 |(A,C)=>match mI yK C with
  |(B,T)=>and (not B.isEmpty) (and (u0 A s (reach A)) (and (B.all (Bg s)) (and ((idx 0 ops).all fun io=>and (io.2.after.toList.all fun e=>or (not (Region.binds .any e)) (Nat.blt e.on io.1)) ((idx 0 ops).all fun jp=>qJ (reach ops) io.1 io.2 jp.1 jp.2)) (vE (reach ops) A (A.length+B.length) T))))
def rh (ops:List Oper) (s:St (X:=X)):Bool:=or (u0 ops s (reach ops)) (xX ops s)
def hO (rs:List Nat):Nat→List Oper→Nat
 |k,[]=>k
 |k,_::l=>cond (and (Nat.beq (hO rs (k+1) l) (k+1)) ((List.range k).all fun j=>lL rs k j)) k (hO rs (k+1) l)
def vh (ops:List Oper) (s:St (X:=X)) (t:Nat):Bool:=
 and (or (kV false (takeN t ops) s (reach (takeN t ops))) (kV true (takeN t ops) s (reach (takeN t ops)))) ((idx 0 ops).all fun io=>and (io.2.after.toList.all fun e=>or (not (Region.binds .any e)) (Nat.blt e.on io.1)) (or (Nat.blt io.1 t) ((List.range io.1).all fun j=>lL (reach ops) io.1 j)))
def qf (ops:List Oper) (s:St (X:=X)):Bool:=cond (jj ops) true (jb ops s)
def aR (l:List Oper):Bool:=l.any fun o=>match o.guard with|some _=>true|none=>false
def dK (ops:List Oper) (s:St (X:=X)) (K:St (X:=X)→R):R:=
 match aR ops with
 |true=>cn cfg fail ci ops true ops s fun s'=>K {s' with tm:=bN s'.tm}
 |false=>cn cfg fail ci ops false ops s K
def bD (ops:List Oper) (s:St (X:=X)) (K:St (X:=X)→R):R:=
 match aR ops with
 |true=>cn cfg fail ci ops true ops s fun s'=>gF (bN s'.tm) fun tm=>K {tm:=tm,hp:=s'.hp}
 |false=>cn cfg fail ci ops false ops s K
def jW (ops:List Oper) (t:Nat) (s:St (X:=X)) (K:St (X:=X)→R):R:=
 cn {cfg with apn:=false} fail (fun _ _ _ _=>fail) (takeN t ops) (aR ops) (takeN t ops) s fun s1=>
  cond (or (kV false (takeN t ops) s (reach (takeN t ops))) (Nat.beq s1.hp.length s.hp.length)) (cn cfg fail ci ops (aR ops) (fH t ops) s1 fun s'=>match aR ops with
   |true=>K {s' with tm:=bN s'.tm}
   |false=>K s') fail
def eN (ops:List Oper) (t:Nat) (s:St (X:=X)) (K:St (X:=X)→R):R:=
 cn {cfg with apn:=false} fail (fun _ _ _ _=>fail) (takeN t ops) (aR ops) (takeN t ops) s fun s1=>
  cond (or (kV false (takeN t ops) s (reach (takeN t ops))) (Nat.beq s1.hp.length s.hp.length)) (cn cfg fail ci ops (aR ops) (fH t ops) s1 fun s'=>match aR ops with
   |true=>gF (bN s'.tm) fun tm=>K {tm:=tm,hp:=s'.hp}
   |false=>K s') fail
def qop:Op→Bool
 | .move _| .assign _| .load .. | .fieldAddr .. | .indexAddr .. | .field .. | .index .. | .extract .. | .binOp .. | .unOp .. | .convert .. | .build .. =>true
 |_=>false
def vk (ops:List Oper) (o:Oper) (d:Nat):Bool:=or (a6 o d) (match o.guard with
 |some (g,_)=>(match nth ops g with
  |some og=>fw d og
  |none=>false)
 |none=>false)
def apX (ops:List Oper) (x y:Oper):Bool:=and (match x.dst with
 |some d=>and (not (vk ops y d)) (not (fw d y))
 |none=>true) (match y.dst with
 |some d=>not (vk ops x d)
 |none=>true)
def xG (op:Op):Bool:=match op with
 | .select .. | .defer _=>false
 |_=>true
def pE (ops:List Oper):Bool:=(idx 0 ops).all fun io=>and (xG io.2.op) (cond (qop io.2.op) ((idx 0 ops).all fun jp=>or (Nat.beq io.1 jp.1) (or (aW io.2 jp.1) (or (aW jp.2 io.1) (apX ops io.2 jp.2)))) true)
def gC (d:Nat):Nat→List Oper→List Nat
 |_,[]=>[]
 |i,o::l=>cond (and (not (Nat.testBit d i)) (o.after.toList.all fun e=>or (not (Region.binds .any e)) (Nat.testBit d e.on))) (i::gC d (i+1) l) (gC d (i+1) l)
def A5:Blk (X:=X)→Bool
 | .dead=>false
 | .alias _ _ _=>false
 | .vec _ _ o=>o
 |_=>true
def dt:List (Blk (X:=X))→List (Blk (X:=X))
 | []=>[]
 |b::l=>cond (A5 b) .dead b::dt l
def fQ:List (Nat×List AV)→List (Blk (X:=X))→List (Blk (X:=X))
 | [],hp=>hp
 |(k,cs)::l,hp=>cO (fQ l hp) k (.raw cs)
def iP:List (Nat×List AV)→List (Blk (X:=X))→List (Blk (X:=X))
 | [],hp=>hp
 |(k,_)::l,hp=>cO (iP l hp) k .dead
def y7 (op:Op):Bool:=match op with
 | .store .. =>true
 |_=>false
def Ah (op:Op):Bool:=match op with
 | .load .. =>true
 |_=>false
def frz (ops:List Oper) (s:St (X:=X)):List Oper→List (Nat×List AV)
 | []=>[]
 |o::l=>cond (Ah o.op) (match eJ ops s o.op with
  |some k=>(match nth s.hp k with
   |some (.raw cs)=>cond (ops.any fun p=>and (y7 p.op) (match eJ ops s p.op with
    |some j=>Nat.beq j k
    |none=>true)) (frz ops s l) (cond ((frz ops s l).any fun x=>Nat.beq x.1 k) (frz ops s l) ((k,cs)::frz ops s l))
   |_=>frz ops s l)
  |none=>frz ops s l) (frz ops s l)
def sF (ops:List Oper) (F:List (Nat×List AV)) (o:Oper) (s:St (X:=X)):Option (List (Nat×Bool)×Bool×AV):=
 cond (qop o.op) (match o.guard with
  |none=>(match af cfg (fQ F (dt s.hp)) s.tm [] o.op with
   |some (ok,v)=>some ([],ok,v)
   |none=>none)
  |some (g,pol)=>match nth ops g with
   |some og=>match og.dst with
    |some tg=>match a8 s.tm tg with
     |some (ds,_)=>(match af cfg (fQ F (dt s.hp)) s.tm (ds++[(tg,pol)]) o.op with
      |some (ok,v)=>some (ds++[(tg,pol)],ok,v)
      |none=>none)
     |none=>none
    |none=>none
   |none=>none) none
def rB (ops:List Oper) (F:List (Nat×List AV)) (s:St (X:=X)):List Nat→Option (Nat×Oper×List (Nat×Bool)×Bool×AV)
 | []=>none
 |i::l=>match nth ops i with
  |some o=>match sF cfg ops F o s with
   |some (cs,ok,v)=>some (i,o,cs,ok,v)
   |none=>rB ops F s l
  |none=>rB ops F s l
open Classical in
noncomputable def meet (x y:R):R:=if x=y then x else fail
noncomputable def na (f:Nat→R):List Nat→R
 | []=>fail
 | [i]=>f i
 |i::l=>meet fail (f i) (na f l)
def Ad (ops:List Oper) (o:Oper) (s:St (X:=X)) (k:St (X:=X)→R):R:=match o.guard with
 |none=>k s
 |some (g,_)=>match nth ops g with
  |some og=>match og.dst with
   |some tg=>match nth s.tm tg with
    |some (.is (.bool b))=>cond b (hJ s.tm tg (.is (.bool true)) fun tm=>k {tm:=tm,hp:=s.hp}) (hJ s.tm tg (.is (.bool false)) fun tm=>k {tm:=tm,hp:=s.hp})
    |_=>k s
   |none=>k s
  |none=>k s
noncomputable def goX (ops:List Oper) (F:List (Nat×List AV)) (hasG:Bool):Nat→Nat→St (X:=X)→(St (X:=X)→R)→R
 |0,_,_,_=>fail
 |n+1,d,s,K=>match gC d 0 ops with
  | []=>K s
  |i::l=>match rB cfg ops F s (i::l)with
   |some (j,o,cs,ok,v)=>cond (and (ba s.hp) (or ok (not (ai s.tm cs)))) (du fail hasG o (match o.guard with
    |none=> .is v
    |some _=> .opt cs v) s fun s'=>goX ops F hasG n (Nat.lor d (Nat.shiftLeft 1 j)) s' K) fail
   |none=>na fail (fun j=>match nth ops j with
    |some o=>Ad ops o s fun s=>fR cfg fail ci ops hasG o s fun s'=>goX ops F hasG n (Nat.lor d (Nat.shiftLeft 1 j)) s' K
    |none=>fail) (i::l)
noncomputable def ni (ops:List Oper) (s:St (X:=X)) (K:St (X:=X)→R):R:=
 dr (iP (frz ops s ops) s.hp) fun hp=>goX cfg fail ci ops (frz ops s ops) (aR ops) (ops.length+1) 0 {tm:=s.tm,hp:=hp} fun s'=>
  match aR ops with
  |true=>gF (bN s'.tm) fun tm=>dr (fQ (frz ops s ops) s'.hp) fun hp=>K {tm:=tm,hp:=hp}
  |false=>dr (fQ (frz ops s ops) s'.hp) fun hp=>K {tm:=s'.tm,hp:=hp}
def ou (ops:List Oper):Bool:=ops.any fun o=>match o.op with
 | .call c=>(match c.callee with
  | .value (.func f)=>(match look cfg.E f,look cfg.H f with
   |none,none=>true
   |_,_=>false)
  | .value _=>true
  | .invoke .. =>true
  |_=>false)
 |_=>false
def qu (ops:List Oper):Bool:=ops.any fun o=>match o.op with
 | .call c=>(match c.callee with
  | .value (.func f)=>(match look cfg.H f with
   |none=>false
   |some _=>true)
  | .builtin .append=>true
  |_=>false)
 | .buildSlice .. =>true
 |_=>false
def okT (ops:List Oper) (s:St (X:=X)) (t:Nat):Bool:=
 and (not (ou cfg (takeN t ops))) (and (vh ops s t) (or (not (qu cfg (takeN t ops))) (kV false (takeN t ops) s (reach (takeN t ops)))))
def iter (body:St (X:=X)→(Ex→St (X:=X)→R)→R):Nat→St (X:=X)→(Ex→St (X:=X)→R)→R
 |0,_,_=>fail
 |k+1,s,K=>body s fun e s'=>match e with
  | .normal=>iter body k s' K
  |e=>K e s'
mutual
def AZ (m:Nat):AV→Bool
 | .ptr k _=>Nat.blt k m
 | .pel k _ _ _=>Nat.blt k m
 | .sl k _ _ _ _=>Nat.blt k m
 | .fn _ a c=>and (sc m a) (sc m c)
 | .agg cs=>sc m cs
 | .tup vs=>sc m vs
 | .ifc _ v=>AZ m v
 | .yld k=>Nat.blt k m
 | .mp k=>Nat.blt k m
 | .cut k _ _ _ _=>Nat.blt k m
 |_=>true
def sc (m:Nat):List AV→Bool
 | []=>true
 |v::l=>and (AZ m v) (sc m l)
end
def Ac (n:Nat):List Nat→Bool
 | []=>false
 |k::l=>cond (Nat.beq k n) true (Ac n l)
def cK (keep:List Nat):Nat→List Slot→List Slot
 |_,[]=>[]
 |i,x::l=>cond (Ac i keep) x .any::cK keep (i+1) l
mutual
def ren (m L:Nat):AV→Option AV
 | .ptr k o=>(pc m L k).map fun k=> .ptr k o
 | .pel k i w o=>(pc m L k).map fun k=> .pel k i w o
 | .sl k i w n c=>(pc m L k).map fun k=> .sl k i w n c
 | .fn f a c=>match qA m L a,qA m L c with
  |some a,some c=>some (.fn f a c)
  |_,_=>none
 | .agg cs=>(qA m L cs).map .agg
 | .tup vs=>(qA m L vs).map .tup
 | .ifc t v=>(ren m L v).map (.ifc t)
 | .yld k=>(pc m L k).map .yld
 | .mp k=>(pc m L k).map .mp
 | .cut k i w lo n=>(pc m L k).map fun k=> .cut k i w lo n
 |v=>some v
def qA (m L:Nat):List AV→Option (List AV)
 | []=>some []
 |v::l=>match ren m L v,qA m L l with
  |some v,some l=>some (v::l)
  |_,_=>none
def pc (m L k:Nat):Option Nat:=cond (Nat.blt k m) (some k) (cond (Nat.ble L k) (some (m+(k-L))) none)
end
def jh (m L:Nat):Slot→Option Slot
 | .any=>some .any
 | .is v=>(ren m L v).map .is
 | .opt _ _=>none
def ff (m L:Nat):List Slot→Option (List Slot)
 | []=>some []
 |x::l=>match jh m L x,ff m L l with
  |some x,some l=>some (x::l)
  |_,_=>none
def dO (m L:Nat):Blk (X:=X)→Option (Blk (X:=X))
 | .dead=>some .dead
 | .raw cs=>(qA m L cs).map .raw
 | .vec t xs o=>some (.vec t xs o)
 | .alias k f p=>(pc m L k).map fun k=> .alias k f p
 | .dfr=>some .dfr
 | .mark=>some .mark
 | .rcd st id tm=>(ff m L tm).map fun tm=> .rcd st id tm
 | .iJ es=>some (.iJ es)
def fJ (m L:Nat):List (Blk (X:=X))→Option (List (Blk (X:=X)))
 | []=>some []
 |x::l=>match dO m L x,fJ m L l with
  |some x,some l=>some (x::l)
  |_,_=>none
def ph (s:St (X:=X)):Place→Option AV
 | .slot t=>match nth s.tm t with
  |some (.is v)=>some v
  |_=>none
 | .cell k o=>match nth s.hp k with
  |some (.raw cs)=>nth cs o
  |_=>none
def pn (s:St (X:=X)) (v:AV):Place→St (X:=X)
 | .slot t=>{s with tm:=cO s.tm t (.is v)}
 | .cell k o=>match nth s.hp k with
  |some (.raw cs)=>{s with hp:=cO s.hp k (.raw (cO cs o v))}
  |_=>s
def sD (s:St (X:=X)) (b:Blk (X:=X)):St (X:=X):={s with hp:=s.hp++[b]}
def xD (pl:Place) (el:X.El) (s:St (X:=X)):Option (Bool×St (X:=X)):=
 match ph s pl with
 |some (.val (.slice none 0 0))=>some (true,sD (pn s (.sl s.hp.length 0 (X.width el) 0 none) pl) (.vec el [] true))
 |some (.sl k 0 w n none)=>match nth s.hp k with
  |some (.vec t xs true)=>match decEq t el with
   | .isTrue h=>cond (Nat.beq w (X.width el)) (some (Nat.beq n xs.length,sD (pn {s with hp:=cO s.hp k .dead} (.sl s.hp.length 0 w xs.length none) pl) (.vec el (h▸xs) true))) none
   | .isFalse _=>none
  |_=>none
 |_=>none
def sz:List (Place×X.El)→St (X:=X)→Option (Bool×St (X:=X))
 | [],s=>some (true,s)
 |(pl,el)::l,s=>match xD pl el s with
  |some (ok,s')=>match sz l s' with
   |some (ok',s'')=>some (and ok ok',s'')
   |none=>none
  |none=>none
def forget (sp:bj (X:=X)) (s:St (X:=X)):Option (Bool×St (X:=X)):=
 cond (and (Nat.ble sp.m s.hp.length) (ba (fH sp.m s.hp))) (match sz sp.mv {s with tm:=cK sp.keep 0 s.tm}with
  |some (ok,s')=>match ff sp.m s.hp.length s'.tm,fJ sp.m s.hp.length (takeN sp.m s'.hp++fH s.hp.length s'.hp)with
   |some tm,some hp=>some (ok,{tm:=tm,hp:=hp})
   |_,_=>none
  |none=>none) none
def lq (sp:bj (X:=X)) (K:Ex→St (X:=X)→R) (s:St (X:=X)):R:=
 match forget sp s with
 |some (ok,s')=>cond ok (K .normal s') fail
 |none=>fail
def aV (sp:bj (X:=X)) (K:Ex→St (X:=X)→R) (e:Ex) (s:St (X:=X)):R:=
 match e with
 | .normal=>lq fail sp K s
 |e=>K e s
def aQ (K:Ex→St (X:=X)→R):List (Bool×Ex×St (X:=X))→Ex→St (X:=X)→R
 | [],e,s=>K e s
 |(b,e',s')::l,e,s=>cond b (K e' s') (aQ K l e s)
def hZ:Code→St (X:=X)→(Ex→St (X:=X)→R)→R
 | .skip,s,K=>K .normal s
 | .label _,s,K=>K .normal s
 | .ret,s,K=>K .ret s
 | .exit id,s,K=>K (.exit id) s
 | .goto l,s,K=>K (.goto l) s
 | .region _ ops d,s,K=>match d with
  |false=>bD cfg fail ci ops.toList s (K .normal)
  |true=>fail
 | .seq a b,s,K=>hZ a s fun e s'=>match e with
  | .normal=>hZ b s' K
  |e=>K e s'
 | .cond c x y,s,K=>match rd s.tm [] c with
  |some (.bool b)=>cond b (hZ x s K) (hZ y s K)
  |_=>fail
 | .block id c,s,K=>hZ c s fun e s'=>match e with
  | .exit id'=>cond (Nat.beq id' id) (K .normal s') (K (.exit id') s')
  |e=>K e s'
 |_,_,_=>fail
noncomputable def exec (fuel f:Nat):Nat→Code→St (X:=X)→(Ex→St (X:=X)→R)→R
 |_, .skip,s,K=>K .normal s
 |_, .label _,s,K=>K .normal s
 |_, .ret,s,K=>K .ret s
 |_, .exit id,s,K=>K (.exit id) s
 |_, .goto l,s,K=>K (.goto l) s
 |_, .region _ ops d,s,K=>match d with
  |false=>bD cfg fail ci ops.toList s (K .normal)
  |true=>cond (and (ou cfg ops.toList) (okT cfg ops.toList s (hO (reach ops.toList) 0 ops.toList))) (eN cfg fail ci ops.toList (hO (reach ops.toList) 0 ops.toList) s (K .normal))
    (cond (rh ops.toList s) (bD {cfg with apn:=false} fail (fun _ _ _ _=>fail) ops.toList s (K .normal)) (cond (and (not (or (qu cfg ops.toList) (ou cfg ops.toList))) (qf ops.toList s)) (bD {cfg with H:=[],apn:=false} fail (fun _ _ _ _=>fail) ops.toList s (K .normal))
    (cond (okT cfg ops.toList s (hO (reach ops.toList) 0 ops.toList)) (eN cfg fail ci ops.toList (hO (reach ops.toList) 0 ops.toList) s (K .normal))
    (cond (pE ops.toList) (ni cfg fail ci ops.toList s (K .normal)) fail))))
 |p, .seq a b,s,K=>exec fuel f (2*p) a s fun e s'=>match e with
  | .normal=>exec fuel f (2*p+1) b s' K
  |e=>K e s'
 |p, .cond c x y,s,K=>match rd s.tm [] c with
  |some (.bool b)=>cond b (exec fuel f (2*p) x s K) (exec fuel f (2*p+1) y s K)
  |_=>fail
 |p, .block id c,s,K=>exec fuel f (2*p) c s fun e s'=>match e with
  | .exit id'=>cond (Nat.beq id' id) (K .normal s') (K (.exit id') s')
  |e=>K e s'
 |p, .rangeFunc g _ _ _,s,K=>match cfg.rnd,mu cfg.Y f p,rd s.tm [] g with
  |false,some (id,keep),some (.fn gf [] caps)=>cond (and (ba s.hp) (not (Nat.ble dG gf))) (ci gf (.yld (s.hp.length+1)::caps) (s.hp++[.dfr, .rcd .ready id (cK keep 0 s.tm)]) fun _ hp=>match nth hp s.hp.length,nth hp (s.hp.length+1)with
   |some .dfr,some (.rcd .ready _ _)=>hJ hp s.hp.length .dead fun hp=>hJ hp (s.hp.length+1) .dead fun hp=>dr (hp++[.mark]) fun hp=>K .normal {tm:=s.tm,hp:=hp}
   |some .dfr,some (.rcd (.done e) _ _)=>hJ hp s.hp.length .dead fun hp=>hJ hp (s.hp.length+1) .dead fun hp=>dr (hp++[.mark]) fun hp=>K e {tm:=s.tm,hp:=hp}
   |_,_=>fail) fail
  |_,_,_=>fail
 |p, .loop c,s,K=>match xR cfg.lp f p s.hp with
  |some sp=>cond (Nat.beq s.hp.length sp.m) (lq fail sp (fun _ s0=>match sp.con with
   |some con=>match con s0 with
    |some (ok,l,e,s')=>cond ok (aQ K l e s') fail
    |none=>fail
   |none=>iter fail (fun s' K'=>exec fuel f (2*p) c s' (aV fail sp K')) fuel s0 K) s) fail
  |none=>iter fail (fun s' K'=>exec fuel f (2*p) c s' K') 200 s K
 |p, .scope c,s,K=>exec fuel f (2*p) c s fun e s'=>match e with
  | .goto l=>match findLabel c l with
   |some rest=>hZ cfg fail ci rest s' fun e s''=>match e with
    | .goto _=>fail
    |e=>K e s''
   |none=>fail
  |e=>K e s'
 |_,_,_,_=>fail
def nZ (hp:List (Blk (X:=X))) (tm:List Slot):ResultVar→Option AV
 | .tmp t=>rd tm [] (.tmp t)
 | .cell a t=>match rd tm [] (.tmp a),look cfg.ti t with
  |some (.ptr k o),some i=>match loadAt i.agg i.size hp (.ptr k o)with
   |some (ok,v)=>cond ok (some v) none
   |none=>none
  |_,_=>none
def cB (hp:List (Blk (X:=X))) (tm:List Slot):List ResultVar→Option (List AV)
 | []=>some []
 |r::l=>match nZ cfg hp tm r,cB hp tm l with
  |some v,some vs=>some (v::vs)
  |_,_=>none
def single:List AV→AV
 | [v]=>v
 |vs=> .tup vs
def fx:Nat→List Slot→List Slot
 |0,l=>l
 |n+1,[]=> .any::fx n []
 |n+1,x::l=>x::fx n l
noncomputable def sT (fuel f:Nat) (fn:Func) (args:List AV) (hp:List (Blk (X:=X))) (K:AV→List (Blk (X:=X))→R):R:=
 match fn.body with
 |some c=>exec cfg fail ci fuel f 1 c {tm:=fx fn.ntmps (args.map .is),hp:=hp} fun e s=>
  match e with
  | .normal| .ret=>cond (ba (takeN hp.length s.hp)) (match cB cfg (bL s.hp) s.tm fn.results.toList with
   |some vs=>K (single vs) (bL s.hp)
   |none=>fail) fail
  |_=>fail
 |none=>fail
noncomputable def n5 (fuel f:Nat) (fn:Func) (args:List AV) (hp:List (Blk (X:=X))) (K:AV→List (Blk (X:=X))→R):R:=
 match fn.body with
 |some c=>gF (fx fn.ntmps (args.map .is)) fun tm=>dr hp fun hp=>exec cfg fail ci fuel f 1 c {tm:=tm,hp:=hp} fun e s=>
  match e with
  | .normal| .ret=>cond (ba (takeN hp.length s.hp)) (dr (bL s.hp) fun h=>match cB cfg h s.tm fn.results.toList with
   |some vs=>K (single vs) h
   |none=>fail) fail
  |_=>fail
 |none=>fail
def oT:List Nat→List AV→List Slot→Option (List Slot)
 | [],[],tm=>some tm
 |p::ps,v::vs,tm=>oT ps vs (cO tm p (.is v))
 |_,_,_=>none
noncomputable def round (ci:bo (X:=X) (R:=R)) (fuel k:Nat) (args:List AV) (hp:List (Blk (X:=X))) (K:AV→List (Blk (X:=X))→R):R:=
 match nth hp k with
 |some (.rcd .ready id tm)=>match X.src id with
  |some (ps,a,c)=>match oT ps.toList args tm with
   |some tm0=>gF tm0 fun tm0=>exec {cfg with lp:=[],Y:=[],rnd:=true} fail ci fuel 0 1 a {tm:=tm0,hp:=hp} fun e s=>match e with
    | .normal=>match nth s.hp k with
     |some (.rcd .ready id' tm')=>hJ s.hp k (.rcd .busy id' tm') fun hp=>exec {cfg with lp:=[],Y:=[],rnd:=true} fail ci fuel 0 1 c {tm:=s.tm,hp:=hp} fun e s=>match nth s.hp k with
      |some (.rcd .busy id' tm')=>match e with
       | .normal=>hJ s.hp k (.rcd .ready id' tm') fun hp=>K (.bool true) hp
       |e=>hJ s.hp k (.rcd (.done e) id' tm') fun hp=>K (.bool false) hp
      |_=>fail
     |_=>fail
    |_=>fail
   |none=>fail
  |none=>fail
 |_=>fail
noncomputable def bA (fuel:Nat):Nat→bo (X:=X) (R:=R)
 |0,_,_,_,_=>fail
 |d+1,f,args,hp,K=>match look cfg.F f with
  |some fn=>cond (Nat.ble dG f) fail (n5 cfg fail (bA fuel d) fuel f fn args hp K)
  |none=>cond (Nat.ble dG f) (round cfg fail (bA fuel d) fuel (f-dG) args hp K) fail
end
end Go.Proofs.Ytdadgkgkdgnihaa.Px
