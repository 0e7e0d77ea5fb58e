/- Definitions of an evaluator of the model's code over an abstract state: what a function's body comes to, as a tree of tests. -/
import Derived.WalkKit
import Derived.KernelRfl
set_option linter.unusedVariables false
set_option linter.unusedSimpArgs false
namespace Go.Proofs.YtfhepbbkggdlcaaGreatDoor.Px
open Go
theorem XQ{α:Type _} (a b:α):(some a=some b)=(a=b):=Option.some.injEq a b
theorem XR(a b:Bool):((a&&b)=true)=(a=true∧b=true):=Bool.and_eq_true a b
theorem XS{n m:Nat}:Nat.beq n m=true→n=m:=Nat.eq_of_beq_eq_true
theorem XT{p:Prop} [Decidable p]:(decide p=true)=p:=decide_eq_true_eq
theorem XU{α:Sort _} {a b:α}:cond true a b=a:=rfl
theorem XV{α:Sort _} {a b:α}:cond false a b=b:=rfl
inductive AV where
 |int (k:IntKind) (n:Int)
 |bool (b:Bool)
 |str (s:ByteArray)
 |ptr (k o:Nat)
 |pel (k i w o:Nat)
 |sl (k i w n:Nat) (m:Option Nat)
 |val (v:Value)
 |fn (f:Nat) (first caps:List AV)
 |agg (cs:List AV)
 |tup (vs:List AV)
 |ifc (t:Nat) (v:AV)
 |yld (k:Nat)
 |mp (k:Nat)
 |cut (k i w lo n:Nat)
class bQ where
 El:Type
 decEl:DecidableEq El
 den:El→Type
 width:El→Nat
 enc:(t:El)→den t→List AV
 dec:(t:El)→List AV→Option (den t)
 uv:(t:El)→den t
 kinds:El→List (Option IntKind)
 src:Nat→Option (Array Tmp×Code×Code):=fun _=>none
instance [X:bQ]:DecidableEq X.El:=X.decEl
inductive Slot where
 |any
 |is (v:AV)
 |opt (cs:List (Nat×Bool)) (v:AV)
inductive Ex where
 |normal
 |exit (id:Nat)
 |goto (l:Nat)
 |ret
inductive RS where
 |ready
 |busy
 |done (e:Ex)
inductive Blk [X:bQ] where
 |dead
 |raw (cs:List AV)
 |vec (t:X.El) (xs:List (X.den t)) (own:Bool)
 |alias (k:Nat) (full pre:Bool)
 |dfr
 |mark
 |rcd (st:RS) (id:Nat) (tm:List Slot)
 |u6 (es:List (Int×Int))
structure St [X:bQ] where
 tm:List Slot
 hp:List (Blk (X:=X))
structure TI [X:bQ] where
 agg:Bool:=false
 size:Nat:=1
 zero:List AV:=[]
 cc:List (Nat×Nat×Bool):=[]
 len:Nat:=0
 esz:Nat:=1
 FP:Bool:=false
 slice:Bool:=false
 kind:Option IntKind:=none
 isBool:Bool:=false
 eqk:Option (List (Option IntKind)):=none -- '==' of the type: its cells' kinds (none: a bool)
 el:Option X.El:=none
 mp:Bool:=false -- a map of ints
 ael:Option X.El:=none -- an array whose new variables are rows of such elements
def TI.var [X:bQ] (i:TI (X:=X)):List AV:=cond i.slice [.val (.slice none 0 0)] i.zero
abbrev FK [X:bQ]:=List AV→List (Blk (X:=X))→Option (Bool×AV)
structure Xm [X:bQ] where
 ok:Bool
 v:AV
 hp:List (Blk (X:=X))
abbrev IZ [X:bQ]:=List AV→List (Blk (X:=X))→Option (Xm (X:=X))
inductive Place where
 |slot (t:Nat)
 |cell (k o:Nat)
structure bA [X:bQ] where
 keep:List Nat
 m:Nat
 mv:List (Place×X.El):=[]
 ctx:Nat:=0
 con:Option (St (X:=X)→Option (Bool×List (Bool×Ex×St (X:=X))×Ex×St (X:=X))):=none
structure Cfg [X:bQ] where
 ti:List (Nat×TI (X:=X))
 E:List (Nat×FK (X:=X))
 H:List (Nat×IZ (X:=X)):=[]
 F:List (Nat×Func):=[]
 apn:Bool:=true
 W:List (Nat×IZ (X:=X)):=[] -- contracts that turn rows in place (not in regions that draw their order)
 Y:List (Nat×Nat×Nat×List Nat):=[] -- loops over functions: their numbers, and the slots that their rounds read
 rnd:Bool:=false -- within a round of such a loop
 gl:List (Nat×List AV):=[] -- the program's own variables: what their cells hold
 vt:List Nat:=[] -- structures without fields
 mt:List (Nat×String×Nat):=[] -- methods that are called through interfaces: type, name, function
 lp:List (Nat×Nat×bA (X:=X)):=[] -- loops at whose heads all slots but these, and blocks from a number on, are forgotten
def look {α:Type}:List (Nat×α)→Nat→Option α
 | [],_=>none
 |(k,x)::l,n=>cond (Nat.beq k n) (some x) (look l n)
def yE:List (Nat×String×Nat)→Nat→String→Option Nat
 | [],_,_=>none
 |(t,s,n)::l,k,m=>cond (and (Nat.beq t k) (s==m)) (some n) (yE l k m)
def EA (n:Nat):List Nat→Bool
 | []=>false
 |m::l=>cond (Nat.beq m n) true (EA n l)
def Aq {α:Type}:List (Nat×Nat×α)→Nat→Nat→Option α
 | [],_,_=>none
 |(k,j,x)::l,n,m=>cond (and (Nat.beq k n) (Nat.beq j m)) (some x) (Aq l n m)
def UI [X:bQ]:List (Blk (X:=X))→Nat
 | []=>0
 | .rcd _ id _::_=>id+1
 |_::l=>UI l
def yd [X:bQ]:List (Nat×Nat×bA (X:=X))→Nat→Nat→Nat→Option (bA (X:=X))
 | [],_,_,_=>none
 |(k,j,x)::l,n,m,c=>cond (and (Nat.beq k n) (and (Nat.beq j m) (Nat.beq x.ctx c))) (some x) (yd l n m c)
def Rv [X:bQ] (lp:List (Nat×Nat×bA (X:=X))) (f p:Nat) (hp:List (Blk (X:=X))):Option (bA (X:=X)):=
 match yd lp f p (1000+hp.length)with
 |some x=>some x
 |none=>yd lp f p (UI hp)
theorem K9 [X:bQ] {lp:List (Nat×Nat×bA (X:=X))} {f p:Nat} {hp:List (Blk (X:=X))} {x:bA (X:=X)} (h:Rv lp f p hp=some x):∃c,yd lp f p c=some x:=by
 unfold Rv at h
 split at h
 ·rename_i y hy
  exact⟨_,hy.trans h⟩
 ·exact⟨_,h⟩
def eB [X:bQ]:List (Blk (X:=X))→Bool
 | []=>true
 | .mark::_=>false
 |_::l=>eB l
def dK [X:bQ]:List (Blk (X:=X))→List (Blk (X:=X))
 | []=>[]
 | .mark::l=> .dead::dK l
 |x::l=>x::dK l
def jd:Nat:=1000000
def ofConst:Value→Option AV
 | .int k n=>some (.int k n)
 | .bool b=>some (.bool b)
 | .string s=>some (.str s)
 | .agg _=>none
 | .tuple _=>none
 |v=>some (.val v)
def nth {α:Type}:List α→Nat→Option α
 | [],_=>none
 |x::_,0=>some x
 |_::l,n+1=>nth l n
def ij {α:Type}:List α→Nat→α→List α
 | [],_,_=>[]
 |_::l,0,y=>y::l
 |x::l,n+1,y=>x::ij l n y
def mK {α:Type}:Nat→List α→List α
 |0,l=>l
 |_+1,[]=>[]
 |n+1,_::l=>mK n l
def takeN {α:Type}:Nat→List α→List α
 |0,_=>[]
 |_+1,[]=>[]
 |n+1,x::l=>x::takeN n l
def eg (cs:List (Nat×Bool)) (c:Nat×Bool):Bool:=cs.any fun d=>and (Nat.beq d.1 c.1) (cond c.2 d.2 (not d.2))
def sW (cs:List (Nat×Bool)):Slot→Option AV
 | .is v=>some v
 | .opt ds v=>cond (ds.all (eg cs)) (some v) none
 | .any=>none
def rd (tm:List Slot) (cs:List (Nat×Bool)):Operand→Option AV
 | .tmp t=>match nth tm t with
  |some s=>sW cs s
  |none=>none
 | .const v=>ofConst v
 | .func f=>some (.fn f [] [])
 | .global g=>some (.val (.pointer (some ⟨g,0,none⟩)))
def rds (tm:List Slot) (cs:List (Nat×Bool)):List Operand→Option (List AV)
 | []=>some []
 |x::l=>match rd tm cs x,rds tm cs l with
  |some v,some vs=>some (v::vs)
  |_,_=>none
def kEq (a b:IntKind):Bool:=match a,b with
 | .i8, .i8| .i16, .i16| .i32, .i32| .i64, .i64| .u8, .u8| .u16, .u16| .u32, .u32| .u64, .u64=>true
 |_,_=>false
def aQ:List (Option IntKind)→List AV→Bool
 | [],[]=>true
 |some k::ks, .int k' _::cs=>and (kEq k k') (aQ ks cs)
 |none::ks, .bool _::cs=>aQ ks cs
 |_,_=>false
def aV:List (Option IntKind)→List AV→List AV→Option Bool
 | [],[],[]=>some true
 |some k::ks, .int k1 a::xs, .int k2 b::ys=>match cond (and (kEq k k1) (kEq k k2)) (aV ks xs ys) none with
  |some r=>some (and (a==b) r)
  |none=>none
 |none::ks, .bool a::xs, .bool b::ys=>match aV ks xs ys with
  |some r=>some (and (a==b) r)
  |none=>none
 |_,_,_=>none
def QR (op:BinOp) (k:IntKind) (a b:Int):Option (Bool×AV):=
 match op with
 | .add=>some (true, .int k (k.wrap (a+b)))
 | .sub=>some (true, .int k (k.wrap (a-b)))
 | .mul=>some (true, .int k (k.wrap (a*b)))
 | .quo=>some (b != 0, .int k (k.wrap (a.tdiv b)))
 | .rem=>some (b != 0, .int k (a.tmod b))
 | .and=>some (true, .int k (bits .and k a b))
 | .or=>some (true, .int k (bits .or k a b))
 | .xor=>some (true, .int k (bits .xor k a b))
 | .andNot=>some (true, .int k (bits .andNot k a b))
 | .eql=>some (true, .bool (a==b))
 | .neq=>some (true, .bool (a != b))
 | .lss=>some (true, .bool (decide (a<b)))
 | .leq=>some (true, .bool (decide (a≤b)))
 | .gtr=>some (true, .bool (decide (a>b)))
 | .geq=>some (true, .bool (decide (a≥b)))
 |_=>none
section
variable [X:bQ] (cfg:Cfg (X:=X))
def binop (op:BinOp) (t:Nat) (x y:AV):Option (Bool×AV):=
 match x,y with
 | .int k a, .int k' b=>match op with
  | .shl=>some (decide (0≤b), .int k (k.wrap (a*2^(min b.toNat k.bits))))
  | .shr=>some (decide (0≤b), .int k (a.fdiv (2^(min b.toNat k.bits))))
  |_=>cond (kEq k k') (QR op k a b) none
 | .bool a, .bool b=>match op,look cfg.ti t with
  | .eql,some i=>cond i.isBool (some (true, .bool (a==b))) none
  | .neq,some i=>cond i.isBool (some (true, .bool (!(a==b)))) none
  |_,_=>none
 | .agg a, .agg b=>match look cfg.ti t with
  |some i=>match i.eqk with
   |some ks=>match aV ks a b with
    |some r=>match op with
     | .eql=>some (true, .bool r)
     | .neq=>some (true, .bool (!r))
     |_=>none
    |none=>none
   |none=>none
  |none=>none
 |_,_=>none
def part (agg:Bool) (cs:List AV) (o n:Nat):Option AV:=
 match agg with
 |true=>cond (Nat.ble (o+n) cs.length) (some (.agg (takeN n (mK o cs)))) none
 |false=>nth cs o
def deref (hp:List (Blk (X:=X))) (k:Nat):Nat:=match nth hp k with
 |some (.alias j _ _)=>j
 |_=>k
def cQ:List AV→Option (IntKind×List Int)
 | [.int k n]=>some (k,[n])
 | .int k n::l=>match cQ l with
  |some (k',ns)=>cond (kEq k k') (some (k,n::ns)) none
  |none=>none
 |_=>none
def cP:List Int→Nat→Int
 | [],_=>0
 |x::_,0=>x
 |_::l,n+1=>cP l n
def fV (k:IntKind) (ns:List Int) (o:Nat):Nat→List AV
 |0=>[]
 |n+1=> .int k (cP ns o)::fV k ns (o+1) n
def Qp (g:Bool) (cs:List AV):Option AV:=match g,cs with
 |true,cs=>some (.agg cs)
 |false,[c]=>some c
 |false,_=>none
def RU (agg:Bool) (n:Nat) (cs:List AV) (o:Nat):Option (Bool×AV):=
 cond (and (Nat.ble 8 cs.length) (and (Nat.beq n 1) (!agg)))
  (match cQ cs with
   |some (k,ns)=>some (Nat.ble (o+1) cs.length, .int k (cP ns o))
   |none=>(part agg cs o n).map fun v=>(true,v))
  ((part agg cs o n).map fun v=>(true,v))
def loadAt (agg:Bool) (n:Nat) (hp:List (Blk (X:=X))):AV→Option (Bool×AV)
 | .ptr k o=>match nth hp k with
  |some (.raw cs)=>RU agg n cs o
  |_=>none
 | .pel k i w o=>match nth hp (deref hp k)with
  |some (.vec t xs _)=>cond (Nat.beq w (X.width t)) ((part agg (X.enc t (xs.getD i (X.uv t))) o n).map fun v=>(decide (i<xs.length),v)) none
  |some (.raw cs)=>(part agg cs (i*w+o) n).map fun v=>(true,v)
  |_=>none
 |_=>none
def bf {α:Type} (cs:List α) (o:Nat):List α→List α
 | []=>cs
 |v::vs=>bf (ij cs o v) (o+1) vs
def cellsOf:AV→List AV
 | .agg cs=>cs
 | .tup _=>[]
 |v=>[v]
def Fq (cc:List (Nat×Nat×Bool)) (cs:List AV):List (Nat×AV)→Option (List AV)
 | []=>some cs
 |(i,v)::l=>match nth cc i with
  |some (o,n,_)=>cond (and (Nat.ble 1 n) (and (Nat.beq (cellsOf v).length n) (Nat.ble (o+n) cs.length))) (Fq cc (bf cs o (cellsOf v)) l) none
  |none=>none
def xA (esz:Nat) (cs:List AV):List (Nat×AV)→Option (List AV)
 | []=>some cs
 |(i,v)::l=>cond (and (Nat.ble 1 esz) (and (Nat.beq (cellsOf v).length esz) (Nat.ble (i*esz+esz) cs.length))) (xA esz (bf cs (i*esz) (cellsOf v)) l) none
def parts (tm:List Slot) (cs:List (Nat×Bool)):List (Nat×Operand)→Option (List (Nat×AV))
 | []=>some []
 |(i,x)::l=>match rd tm cs x,parts tm cs l with
  |some v,some vs=>some ((i,v)::vs)
  |_,_=>none
def lenOf:AV→Option Nat
 | .sl _ _ _ n _=>some n
 | .val (.slice none n _)=>some n
 |_=>none
def yc (k:IntKind) (a:Int):List AV→Option Int
 | []=>some a
 | .int k' b::l=>cond (kEq k k') (yc k (cond (decide (b<a)) b a) l) none
 |_=>none
def xG (k:IntKind) (a:Int):List AV→Option Int
 | []=>some a
 | .int k' b::l=>cond (kEq k k') (xG k (cond (decide (b>a)) b a) l) none
 |_=>none
def Ii (b:Builtin) (ts:List Nat) (args:List AV):Option (Bool×AV):=
 match b,args with
 | .len,[x]=>match ts with
  | [t]=>match look cfg.ti t with
   |some i=>cond i.slice (match lenOf x with
    |some n=>some (true, .int .i64 (n:Int))
    |none=>none) none
   |none=>none
  |_=>none
 | .min, .int k a::l=>(yc k a l).map fun n=>(true, .int k n)
 | .max, .int k a::l=>(xG k a l).map fun n=>(true, .int k n)
 |_,_=>none
def Pb (t:TI (X:=X)) (x i:AV):Option (Bool×AV):=
 match x,i with
 | .sl k i0 w n _, .int _ j=>cond (and t.slice (Nat.beq w t.esz)) (some (and (decide (0≤j)) (decide (j<(n:Int))), .pel k (i0+j.toNat) w 0)) none
 | .ptr k o, .int _ j=>cond (Nat.ble 2 t.len) (some (and (decide (0≤j)) (decide (j<(t.len:Int))), .ptr k (o+j.toNat*t.esz))) none
 | .val (.pointer (some ⟨b,o,none⟩)), .int _ j=>cond (Nat.ble 2 t.len) (some (and (decide (0≤j)) (decide (j<(t.len:Int))), .val (.pointer (some ⟨b,o+j.toNat*t.esz,none⟩)))) none
 | .pel k i0 w 0, .int _ j=>cond (and (Nat.ble 2 t.len) (Nat.beq w t.esz)) (some (and (decide (0≤j)) (decide (j<(t.len:Int))), .pel k (i0+j.toNat) w 0)) none
 |_,_=>none
def Ce (n:Int):List (Int×Int)→Int
 | []=>0
 |(k,v)::es=>cond (n==k) v (Ce n es)
def xT (n:Int):List (Int×Int)→Bool
 | []=>false
 |(k,_)::es=>or (n==k) (xT n es)
def fA (tm:List Slot) (cs:List (Nat×Bool)) (d:Int):Option Operand→Option Int
 |none=>some d
 |some x=>match rd tm cs x with
  |some (.int _ j)=>some j
  |_=>none
def JG (gl:List (Nat×List AV)) (agg:Bool) (n:Nat):AV→Option (Bool×AV)
 | .val (.pointer (some ⟨b,o,none⟩))=>match look gl b with
  |some cs=>match cQ cs with
   |some (k,ns)=>(Qp agg (fV k ns o n)).map fun v=>(Nat.ble (o+n) cs.length,v)
   |none=>(part agg cs o n).map fun v=>(true,v)
  |none=>none
 |_=>none
def orL {α:Type}:Option α→Option α→Option α
 |some r,_=>some r
 |none,s=>s
def Oq (k i w n len:Nat) (lo hi:Int):Option (Bool×AV):=
 some (and (Nat.ble (i+n) len) (and (decide (0≤lo)) (and (decide (lo≤hi)) (decide (hi≤(n:Int))))), .cut k i w lo.toNat (hi.toNat-lo.toNat))
def aB (hp:List (Blk (X:=X))) (tm:List Slot) (cs:List (Nat×Bool)) (op:Op):Option (Bool×AV):=
 match op with
 | .move x| .assign x=>(rd tm cs x).map fun v=>(true,v)
 | .nilCheck x=>match rd tm cs x with
  |some (.ptr k o)=>some (true, .ptr k o)
  |some (.pel k i w o)=>some (true, .pel k i w o)
  |some (.fn f a b)=>some (true, .fn f a b)
  |some (.yld k)=>some (true, .yld k)
  |_=>none
 | .binOp op t x y _=>match rd tm cs x,rd tm cs y with
  |some v,some u=>binop cfg op t v u
  |_,_=>none
 | .unOp op _ x=>match op,rd tm cs x with
  | .not,some (.bool b)=>some (true, .bool (!b))
  | .neg,some (.int k n)=>some (true, .int k (k.wrap (0-n)))
  | .xor,some (.int k n)=>some (true, .int k (bits .xor k (if k.signed then-1 else k.max) n))
  |_,_=>none
 | .convert s d x=>match rd tm cs x,look cfg.ti s,look cfg.ti d with
  |some (.int _ n),some _,some i=>match i.kind with
   |some k=>some (true, .int k (k.wrap n))
   |none=>none
  |_,_,_=>none
 | .field t x f=>match rd tm cs x,look cfg.ti t with
  |some (.agg vs),some i=>match nth i.cc f with
   |some (o,n,g)=>(part g vs o n).map fun v=>(true,v)
   |none=>none
  |_,_=>none
 | .index t x ix=>match rd tm cs x,rd tm cs ix,look cfg.ti t with
  |some (.agg vs),some (.int _ j),some i=>cond (Nat.beq i.len 0) none (match cQ vs with
   |some (k,ns)=>cond (Nat.beq vs.length (i.len*i.esz)) ((Qp i.FP (fV k ns (j.toNat*i.esz) i.esz)).map fun v=>(and (decide (0≤j)) (decide (j<(i.len:Int))),v)) none
   |none=>cond (and (decide (0≤j)) (decide (j<(i.len:Int)))) ((part i.FP vs (j.toNat*i.esz) i.esz).map fun v=>(true,v)) none)
  |_,_,_=>none
 | .extract x i=>match rd tm cs x with
  |some (.tup vs)=>(nth vs i).map fun v=>(true,v)
  |_=>none
 | .fieldAddr t x f=>match rd tm cs x,look cfg.ti t with
  |some (.ptr k o),some i=>(nth i.cc f).map fun(d,_,_)=>(true, .ptr k (o+d))
  |some (.pel k j w o),some i=>(nth i.cc f).map fun(d,_,_)=>(true, .pel k j w (o+d))
  |_,_=>none
 | .indexAddr t x ix=>match rd tm cs x,rd tm cs ix,look cfg.ti t with
  |some v,some j,some i=>Pb i v j
  |_,_,_=>none
 | .load t a=>match rd tm cs a,look cfg.ti t with
  |some v,some i=>orL (loadAt i.agg i.size hp v) (JG cfg.gl i.agg i.size v)
  |_,_=>none
 | .lookup t x ix true=>match rd tm cs x,rd tm cs ix,look cfg.ti t with
  |some (.mp j),some (.int k n),some i=>match nth hp j with
   |some (.u6 es)=>cond (and i.mp (kEq k .i64)) (some (true, .tup [.int .i64 (Ce n es), .bool (xT n es)])) none
   |_=>none
  |_,_,_=>none
 | .build t ps=>match parts tm cs ps.toList,look cfg.ti t with
  |some vs,some i=>cond (and i.agg (not i.zero.isEmpty)) ((match i.len with
    |0=>Fq i.cc i.zero vs
    |_+1=>xA i.esz i.zero vs).map fun r=>(true, .agg r)) none
  |some [],none=>cond (EA t cfg.vt) (some (true, .agg [])) none
  |_,_=>none
 | .slice t x lo hi none=>cond cfg.apn none (match rd tm cs x,look cfg.ti t,fA tm cs 0 lo,fA tm cs 0 hi with
  |some (.sl k i w n none),some ti,some l,some h=>match nth hp k with
   |some (.vec _ xs _)=>cond (and ti.slice (Nat.beq w ti.esz)) (match lo,hi with
    |none,none=>Oq k i w n xs.length 0 n
    |none,some _=>Oq k i w n xs.length 0 h
    |some _,none=>Oq k i w n xs.length l n
    |some _,some _=>Oq k i w n xs.length l h) none
   |_=>none
  |_,_,_,_=>none)
 | .makeFunc (.func f) first caps=>match rds tm cs first.toList,rds tm cs caps.toList with
  |some a,some b=>some (true, .fn f a b)
  |_,_=>none
 | .makeInterface t x=>match rd tm cs x,look cfg.ti t with
  |some v,some i=>match i.kind with
   |some _=>some (true, .ifc t v)
   |none=>none
  |some v,none=>cond (EA t cfg.vt) (some (true, .ifc t v)) none
  |_,_=>none
 | .call c=>match rds tm cs c.args.toList with
  |some args=>match c.callee with
   | .builtin b=>Ii cfg b c.argTypes.toList args
   | .value f=>match rd tm cs f with
    |some (.fn n first caps)=>match look cfg.E n with
     |some con=>con (first++(args++caps)) hp
     |none=>none
    |_=>none
   | .invoke f m=>match rd tm cs f with
    |some (.ifc t u)=>match yE cfg.mt t m with
     |some n=>match look cfg.E n with
      |some con=>con (u::args) hp
      |none=>none
     |none=>none
    |_=>none
  |none=>none
 |_=>none
def Lx (n:Nat) (z:List AV):List AV:=match n with
 |0=>[]
 |n+1=>z++Lx n z
def pO (el:X.El):Nat→List AV→Option (List (X.den el))
 |0,_=>some []
 |n+1,cs=>match X.dec el (takeN (X.width el) cs),pO el n (mK (X.width el) cs)with
  |some x,some xs=>some (x::xs)
  |_,_=>none
def zu {α:Type} (i n:Nat) (xs:List α):List α:=cond (and (Nat.beq i 0) (Nat.beq n xs.length)) xs (takeN n (mK i xs))
def oi (el:X.El) (i w n:Nat):Option (Blk (X:=X))→Option (Bool×List (X.den el))
 |some (.vec t xs _)=>match decEq t el with
  | .isTrue h=>cond (Nat.beq w (X.width el)) (some (Nat.ble (i+n) xs.length,zu i n (h▸xs))) none
  | .isFalse _=>none
 |some (.raw cs)=>cond (and (Nat.beq w (X.width el)) (Nat.ble ((i+n)*w) cs.length)) ((pO el n (mK (i*w) cs)).map fun xs=>(true,xs)) none
 |_=>none
def qm (el:X.El) (hp:List (Blk (X:=X))):AV→Option (Bool×List (X.den el))
 | .val (.slice none n _)=>cond (Nat.beq n 0) (some (true,[])) none
 | .sl k i w n _=>match nth hp k with
  |some (.vec t xs _)=>match decEq t el with
   | .isTrue h=>cond (and (Nat.beq w (X.width el)) (Nat.beq i 0)) (some (Nat.beq n xs.length,h▸xs)) none
   | .isFalse _=>none
  |some (.alias j _ _)=>oi el i w n (nth hp j)
  |b=>oi el i w n b
 | .cut k i w lo n=>match nth hp k with
  |some (.vec t xs o)=>oi el (i+lo) w n (some (.vec t xs o))
  |_=>none
 |_=>none
def Lt (el:X.El) (hp:List (Blk (X:=X))):AV→Option (Bool×List (X.den el)×List (Blk (X:=X))×Bool)
 | .val (.slice none n c)=>cond (and (Nat.beq n 0) (Nat.beq c 0)) (some (true,[],hp,false)) none
 | .sl k i w n m=>match nth hp k,m with
  |some (.vec t xs true),none=>match decEq t el with
   | .isTrue h=>cond (and (Nat.beq w (X.width el)) (Nat.beq i 0)) (some (Nat.beq n xs.length,h▸xs,ij hp k .dead,false)) none
   | .isFalse _=>none
  |some (.alias j _ true),none=>match nth hp j with
   |some (.vec t xs true)=>match decEq t el with
    | .isTrue h=>cond (and (Nat.beq w (X.width el)) (Nat.beq i 0)) (some (Nat.ble n xs.length,zu 0 n (h▸xs),ij hp j .dead,false)) none
    | .isFalse _=>none
   |_=>none
  |some (.raw cs),some c=>cond (and (and (Nat.beq w (X.width el)) (Nat.beq i 0)) (and (Nat.beq c n) (Nat.beq (n*w) cs.length))) ((pO el n cs).map fun xs=>(true,xs,ij hp k .dead,false)) none
  |some (.alias _ true false),some c=>match qm el hp (.sl k i w n m)with
   |some (ok,xs)=>some (and ok (Nat.beq c (i+n)),xs,hp,true)
   |none=>none
  |_,_=>none
 | .cut k i w lo n=>match nth hp k with
  |some (.vec t xs true)=>match decEq t el with
   | .isTrue h=>cond (and (Nat.beq w (X.width el)) (and (Nat.beq i 0) (Nat.beq lo 0))) (some (Nat.ble n xs.length,zu 0 n (h▸xs),ij hp k .dead,false)) none
   | .isFalse _=>none
  |_=>none
 |_=>none
def BV (el:X.El) (hp:List (Blk (X:=X))) (s x:AV):Option (Bool×AV×List (Blk (X:=X))):=
 match Lt el hp s,qm el hp x with
 |some (ok,xs,hp',full),some (ok',ys)=>some (and ok (and ok' (and (Nat.ble xs.length 1048576) (and (Nat.ble ys.length 1048576) (cond full (Nat.blt 0 ys.length) true)))), .sl hp'.length 0 (X.width el) (xs++ys).length none,hp'++[.vec el (xs++ys) true])
 |_,_=>none
def Ak (hp:List (Blk (X:=X))) (k i n:Nat):Option Nat→Bool
 |some c=>Nat.ble (i+n) c
 |none=>match nth hp (deref hp k)with
  |some (.vec _ xs _)=>Nat.ble (i+n) xs.length
  |_=>false
def CS (t:TI (X:=X)) (hp:List (Blk (X:=X))) (v:AV) (lo hi:Option Int) (mx:Option Int):Option (Bool×AV×List (Blk (X:=X))):=
 match v with
 | .sl k i w n m=>cond (and t.slice (Nat.beq w t.esz)) (match lo,hi,mx with
  |none,some (.ofNat 0),some (.ofNat 0)=>match t.el with
   |some el=>some (true, .sl hp.length 0 w 0 none,hp++[.vec el [] true])
   |none=>none
  |none,some h,none=>match nth hp k with
   |some (.alias _ _ _)=>none
   |some .mark=>none
   |_=>some (and (Ak hp k i n m) (and (decide (0≤h)) (decide (h≤(n:Int)))), .sl hp.length i w h.toNat m,hp++[.alias k false true])
  |lo,hi,none=>some (and (Ak hp k i n m) (and (decide (0≤lo.getD 0)) (and (decide (lo.getD 0≤hi.getD n)) (decide (hi.getD n≤(n:Int))))), .sl hp.length (i+(lo.getD 0).toNat) w ((hi.getD n).toNat-(lo.getD 0).toNat) m,hp++[.alias (deref hp k) false false])
  |lo,some h,some x=>some (and (Ak hp k i n m) (and (decide (0≤lo.getD 0)) (and (decide (lo.getD 0≤h)) (and (h==x) (decide (h≤(n:Int)))))), .sl hp.length (i+(lo.getD 0).toNat) w (h.toNat-(lo.getD 0).toNat) (some (i+x.toNat)),hp++[.alias (deref hp k) true false])
  |_,_,_=>none) none
 | .ptr k o=>match lo,hi,mx with
  |none,none,none=>cond (and (Nat.ble 1 t.len) (Nat.beq t.esz 1)) (some (true, .sl k o 1 t.len (some (o+t.len)),hp)) none
  |_,_,_=>none
 |_=>none
def L7 (el:X.El) (z:X.den el) (w:Nat) (hp:List (Blk (X:=X))) (l c:Int):Bool×AV×List (Blk (X:=X)):=
 (and (decide (0≤l)) (and (l==c) (decide (l≤1048576))), .sl hp.length 0 w l.toNat none,hp++[.vec el (List.replicate l.toNat z) true])
def storeAt (n:Nat) (hp:List (Blk (X:=X))) (a v:AV):Option (Bool×List (Blk (X:=X))):=
 match a with
 | .ptr k o=>match nth hp k with
  |some (.raw cs)=>cond (and (Nat.ble 1 n) (and (Nat.beq (cellsOf v).length n) (Nat.ble (o+n) cs.length))) (some (true,ij hp k (.raw (bf cs o (cellsOf v))))) none
  |_=>none
 | .pel k i w o=>match nth hp k with
  |some (.raw cs)=>cond (and (Nat.ble 1 n) (and (Nat.beq (cellsOf v).length n) (Nat.ble ((i*w+o)+n) cs.length))) (some (true,ij hp k (.raw (bf cs (i*w+o) (cellsOf v))))) none
  |some (.vec t xs true)=>cond (and (Nat.beq w (X.width t)) (and (Nat.ble 1 n) (and (Nat.beq (cellsOf v).length n) (Nat.ble (o+n) (X.width t)))))
    (match X.dec t (bf (X.enc t (xs.getD i (X.uv t))) o (cellsOf v))with
    |some x=>some (decide (i<xs.length),ij hp k (.vec t (xs.set i x) true))
    |none=>none) none
  |_=>none
 |_=>none
def Uy (W:List (Nat×IZ (X:=X))) (n:Nat) (args:List AV) (hp:List (Blk (X:=X))):Option (Bool×Option AV×List (Blk (X:=X))):=match look W n with
 |some con=>(con args hp).map fun r=>(r.ok,some r.v,r.hp)
 |none=>none
def a8 (hp:List (Blk (X:=X))) (tm:List Slot) (cs:List (Nat×Bool)) (op:Op):Option (Bool×Option AV×List (Blk (X:=X))):=
 match op with
 | .alloc t=>match look cfg.ti t with
  |some i=>match i.ael with
   |none=>cond i.var.isEmpty none (some (true,some (.ptr hp.length 0),hp++[.raw i.var]))
   |some el=>cond (and cfg.apn (and (not i.var.isEmpty) (and (Nat.beq i.esz (X.width el)) (Nat.beq i.var.length (i.len*X.width el))))) (match pO el i.len i.var with
    |some xs=>some (true,some (.pel hp.length 0 i.esz 0),hp++[.vec el xs true])
    |none=>none) none
  |none=>none
 | .makeMap t none=>match look cfg.ti t with
  |some i=>cond i.mp (some (true,some (.mp hp.length),hp++[.u6 []])) none
  |none=>none
 | .insert t m k x=>match rd tm cs m,rd tm cs k,rd tm cs x,look cfg.ti t with
  |some (.mp j),some (.int k1 n),some (.int k2 v),some i=>match nth hp j with
   |some (.u6 es)=>cond (and i.mp (and (kEq k1 .i64) (kEq k2 .i64))) (some (not (xT n es),none,ij hp j (.u6 (es++[(n,v)])))) none
   |_=>none
  |_,_,_,_=>none
 | .box _ x=>match rd tm cs x with
  |some (.tup _)=>none
  |some v=>some (true,some (.ptr hp.length 0),hp++[.raw (cellsOf v)])
  |none=>none
 | .buildSlice t 0 ps=>match ps.toList,look cfg.ti t with
  | [],some i=>match i.el with
   |some el=>cond (and i.slice (Nat.beq i.esz (X.width el))) (some (true,some (.sl hp.length 0 i.esz 0 none),hp++[.vec el [] true])) none
   |none=>none
  |_,_=>none
 | .buildSlice t n ps=>match parts tm cs ps.toList,look cfg.ti t with
  |some vs,some i=>cond (and i.slice (and (and (Nat.beq i.zero.length i.esz) (Nat.ble 1 i.esz)) (and (Nat.ble 1 n) (Nat.ble (n*i.esz) 4096)))) (match xA i.esz (Lx n i.zero) vs with
   |some cells=>some (true,some (.sl hp.length 0 i.esz n (some n)),hp++[.raw cells])
   |none=>none) none
  |_,_=>none
 | .store t a x=>match rd tm cs a,rd tm cs x,look cfg.ti t with
  |some p,some v,some i=>(storeAt i.size hp p v).map fun(ok,h)=>(ok,none,h)
  |_,_,_=>none
 | .slice t x lo hi mx=>cond cfg.apn (match rd tm cs x,look cfg.ti t,fA tm cs 0 lo,fA tm cs 0 hi,fA tm cs 0 mx with
  |some v,some i,some l,some h,some m=>(CS i hp v (lo.map fun _=>l) (hi.map fun _=>h) (mx.map fun _=>m)).map fun(ok,v,h)=>(ok,some v,h)
  |_,_,_,_,_=>none) none
 | .makeSlice t l c=>match rd tm cs l,rd tm cs c,look cfg.ti t with
  |some (.int k1 n),some (.int k2 n'),some i=>match i.el with
   |some el=>match X.dec el i.zero with
    |some z=>cond (and (and (kEq k1 .i64) (kEq k2 .i64)) (and i.slice (and (Nat.beq i.esz (X.width el)) (Nat.ble 1 i.esz)))) (match L7 el z i.esz hp n n' with
     |(ok,v,h)=>some (ok,some v,h)) none
    |none=>none
   |none=>none
  |_,_,_=>none
 | .call c=>match rds tm cs c.args.toList with
  |some args=>match c.callee with
   | .builtin .append=>match args,c.argTypes.toList with
    | [s,x],[t,t']=>match look cfg.ti t with
     |some i=>match i.el with
      |some el=>cond (and (Nat.beq t t') (and i.slice (and (Nat.beq i.esz (X.width el)) (and (Nat.ble 1 i.esz) (and (Nat.beq i.zero.length i.esz) cfg.apn))))) ((BV el hp s x).map fun(ok,v,h)=>(ok,some v,h)) none
      |none=>none
     |none=>none
    |_,_=>none
   | .value f=>match rd tm cs f with
    |some (.fn n first caps)=>match look cfg.H n with
     |some con=>(con (first++(args++caps)) hp).map fun r=>(r.ok,some r.v,r.hp)
     |none=>cond cfg.apn (Uy cfg.W n (first++(args++caps)) hp) none
    |_=>none
   |_=>none
  |none=>none
 |_=>none
def eC (d:Nat):List Slot→Bool
 | []=>true
 | .opt cs _::l=>and (cs.all fun c=>not (Nat.beq c.1 d)) (eC d l)
 |_::l=>eC d l
def fh (s:St (X:=X)) (d:Option Nat) (v:Slot):St (X:=X):=
 match d with
 |some d=>{s with tm:=ij s.tm d v}
 |none=>s
def ec:List Slot→List Slot
 | []=>[]
 | .opt _ _::l=> .any::ec l
 |x::l=>x::ec l
def cG (tm:List Slot) (t:Nat):Option (List (Nat×Bool)×Bool):=
 match nth tm t with
 |some (.is (.bool b))=>some ([],b)
 |some (.opt cs (.bool b))=>some (cs,b)
 |_=>none
def TL (p b:Bool):Bool:=match p with
 |true=>b
 |false=>not b
def aD (tm:List Slot):List (Nat×Bool)→Bool
 | []=>true
 | [c]=>match cG tm c.1 with
  |some (_,b)=>TL c.2 b
  |none=>false
 |c::l=>match cG tm c.1 with
  |some (_,b)=>and (TL c.2 b) (aD tm l)
  |none=>false
def merge (b:Bool) (x y:AV):Option AV:=
 match x,y with
 | .bool p, .bool q=>some (.bool (cond b p q))
 | .int k p, .int k' q=>cond (kEq k k') (some (.int k (cond b p q))) none
 |_,_=>none
def mC (tm:List Slot) (cs:List (Nat×Bool)) (c a b:Operand):Option AV:=
 match c with
 | .tmp t=>match cG tm t with
  |some (ds,g)=>cond (ds.all (eg cs)) (match rd tm ((t,true)::cs) a,rd tm ((t,false)::cs) b with
   |some x,some y=>merge g x y
   |_,_=>none) none
  |none=>none
 |_=>none
variable {R:Type} (fail:R)
abbrev dJ:=Nat→List AV→List (Blk (X:=X))→(AV→List (Blk (X:=X))→R)→R
variable (ci:dJ (X:=X) (R:=R))
section
variable {R:Type}
mutual
def oK:AV→(AV→R)→R
 | .int k n,K=>K (.int k n)
 | .bool b,K=>K (.bool b)
 | .str s,K=>K (.str s)
 | .ptr k o,K=>K (.ptr k o)
 | .pel k i w o,K=>K (.pel k i w o)
 | .sl k i w n m,K=>K (.sl k i w n m)
 | .val v,K=>K (.val v)
 | .fn f a c,K=>sN a fun a=>sN c fun c=>K (.fn f a c)
 | .agg cs,K=>sN cs fun cs=>K (.agg cs)
 | .tup vs,K=>sN vs fun vs=>K (.tup vs)
 | .ifc t v,K=>oK v fun v=>K (.ifc t v)
 | .yld k,K=>K (.yld k)
 | .mp k,K=>K (.mp k)
 | .cut k i w lo n,K=>K (.cut k i w lo n)
def sN:List AV→(List AV→R)→R
 | [],K=>K []
 |v::l,K=>oK v fun v=>sN l fun l=>K (v::l)
end
def CM (s:Slot) (K:Slot→R):R:=match s with
 | .any=>K .any
 | .is v=>oK v fun v=>K (.is v)
 | .opt cs v=>oK v fun v=>K (.opt cs v)
def tb:List Slot→(List Slot→R)→R
 | [],K=>K []
 |x::l,K=>CM x fun x=>tb l fun l=>K (x::l)
def KB (b:Blk (X:=X)) (K:Blk (X:=X)→R):R:=match b with
 | .dead=>K .dead
 | .raw cs=>sN cs fun cs=>K (.raw cs)
 | .vec t xs o=>K (.vec t xs o)
 | .alias k f p=>K (.alias k f p)
 | .dfr=>K .dfr
 | .mark=>K .mark
 | .rcd st id tm=>tb tm fun tm=>K (.rcd st id tm)
 | .u6 es=>K (.u6 es)
def lH:List (Blk (X:=X))→(List (Blk (X:=X))→R)→R
 | [],K=>K []
 |x::l,K=>KB x fun x=>lH l fun l=>K (x::l)
def uF {α:Type}:List α→Nat→α→(List α→R)→R
 | [],_,_,K=>K []
 |_::l,0,y,K=>K (y::l)
 |x::l,n+1,y,K=>uF l n y fun l=>K (x::l)
end
def zG (hasG:Bool) (o:Oper) (v:Slot) (s:St (X:=X)) (K:St (X:=X)→R):R:=
 match o.dst with
 |none=>K s
 |some d=>match hasG with
  |true=>cond (eC d (v::s.tm)) (K {s with tm:=ij s.tm d v}) fail
  |false=>match v with
   | .opt _ _=>fail
   |_=>K {s with tm:=ij s.tm d v}
def iZ (hasG:Bool) (o:Oper) (v:Slot) (s:St (X:=X)) (K:St (X:=X)→R):R:=
 match o.dst with
 |none=>K s
 |some d=>match hasG with
  |true=>cond (eC d (v::s.tm)) (CM v fun v=>uF s.tm d v fun tm=>K {tm:=tm,hp:=s.hp}) fail
  |false=>match v with
   | .opt _ _=>fail
   |v=>CM v fun v=>uF s.tm d v fun tm=>K {tm:=tm,hp:=s.hp}
def vW (hasG:Bool) (cs:List (Nat×Bool)) (o:Oper) (s:St (X:=X)) (K:St (X:=X)→R):R:=
 match aB cfg s.hp s.tm cs o.op with
 |some (ok,v)=>cond ok (iZ fail hasG o (.is v) s K) fail
 |none=>match o.op with
  | .pick c a b=>match mC s.tm cs c a b with
   |some v=>iZ fail hasG o (.is v) s K
   |none=>match c with
    | .tmp t=>match cG s.tm t with
     |some (ds,g)=>cond (ds.all (eg cs)) (cond g (match rd s.tm ((t,true)::cs) a with
      |some v=>iZ fail hasG o (.is v) s K
      |none=>fail) (match rd s.tm ((t,false)::cs) b with
      |some v=>iZ fail hasG o (.is v) s K
      |none=>fail)) fail
     |none=>fail
    |_=>fail
  |_=>match a8 cfg s.hp s.tm cs o.op with
   |some (ok,some v,h)=>cond ok (iZ fail hasG o (.is v) {s with hp:=h} K) fail
   |some (ok,none,h)=>cond ok (iZ fail hasG o .any {s with hp:=h} K) fail
   |none=>match o.op with
    | .call c=>match c.callee,rds s.tm cs c.args.toList with
     | .value f,some args=>match rd s.tm cs f with
      |some (.fn n first caps)=>cond (Nat.ble jd n) fail (ci n (first++(args++caps)) s.hp fun v h=>iZ fail hasG o (.is v) {s with hp:=h} K)
      |some (.yld k)=>ci (jd+k) args s.hp fun v h=>iZ fail hasG o (.is v) {s with hp:=h} K
      |_=>fail
     | .invoke f m,some args=>match rd s.tm cs f with
      |some (.ifc t u)=>match yE cfg.mt t m with
       |some n=>cond (Nat.ble jd n) fail (ci n (u::args) s.hp fun v h=>iZ fail hasG o (.is v) {s with hp:=h} K)
       |none=>fail
      |_=>fail
     |_,_=>fail
    |_=>fail
def rr (hasG:Bool) (cs:List (Nat×Bool)) (o:Oper) (s:St (X:=X)) (K:St (X:=X)→R):R:=
 match aB cfg s.hp s.tm cs o.op with
 |some (ok,v)=>cond ok (iZ fail hasG o (.is v) s K) fail
 |none=>match o.op with
  | .pick c a b=>match mC s.tm cs c a b with
   |some v=>iZ fail hasG o (.is v) s K
   |none=>match c with
    | .tmp t=>match cG s.tm t with
     |some (ds,g)=>cond (ds.all (eg cs)) (cond g (match rd s.tm ((t,true)::cs) a with
      |some v=>iZ fail hasG o (.is v) s K
      |none=>fail) (match rd s.tm ((t,false)::cs) b with
      |some v=>iZ fail hasG o (.is v) s K
      |none=>fail)) fail
     |none=>fail
    |_=>fail
  |_=>match a8 cfg s.hp s.tm cs o.op with
   |some (ok,some v,h)=>cond ok (lH h fun h=>iZ fail hasG o (.is v) {tm:=s.tm,hp:=h} K) fail
   |some (ok,none,h)=>cond ok (lH h fun h=>iZ fail hasG o .any {tm:=s.tm,hp:=h} K) fail
   |none=>match o.op with
    | .call c=>match c.callee,rds s.tm cs c.args.toList with
     | .value f,some args=>match rd s.tm cs f with
      |some (.fn n first caps)=>cond (Nat.ble jd n) fail (ci n (first++(args++caps)) s.hp fun v h=>iZ fail hasG o (.is v) {s with hp:=h} K)
      |some (.yld k)=>ci (jd+k) args s.hp fun v h=>iZ fail hasG o (.is v) {s with hp:=h} K
      |_=>fail
     | .invoke f m,some args=>match rd s.tm cs f with
      |some (.ifc t u)=>match yE cfg.mt t m with
       |some n=>cond (Nat.ble jd n) fail (ci n (u::args) s.hp fun v h=>iZ fail hasG o (.is v) {s with hp:=h} K)
       |none=>fail
      |_=>fail
     |_,_=>fail
    |_=>fail
def o6 (ops:List Oper) (hasG:Bool) (o:Oper) (s:St (X:=X)) (K:St (X:=X)→R):R:=
 match o.guard with
 |none=>rr cfg fail ci hasG [] o s K
 |some (g,pol)=>match nth ops g with
  |some og=>match og.dst with
   |some tg=>match cG s.tm tg with
    |some (ds,_)=>
     match aB cfg s.hp s.tm (ds++[(tg,pol)]) o.op with
     |some (ok,v)=>cond (or ok (not (aD s.tm (ds++[(tg,pol)])))) (iZ fail hasG o (.opt (ds++[(tg,pol)]) v) s K) fail
     |none=>match o.op with
      | .pick c a b=>match mC s.tm (ds++[(tg,pol)]) c a b with
       |some v=>iZ fail hasG o (.opt (ds++[(tg,pol)]) v) s K
       |none=>cond (aD s.tm (ds++[(tg,pol)])) (rr cfg fail ci hasG (ds++[(tg,pol)]) o s K) (iZ fail hasG o (.opt (ds++[(tg,pol)]) (.bool false)) s K)
      |_=>cond (aD s.tm (ds++[(tg,pol)])) (rr cfg fail ci hasG (ds++[(tg,pol)]) o s K) (iZ fail hasG o (.opt (ds++[(tg,pol)]) (.bool false)) s K)
    |none=>fail
   |none=>fail
  |none=>fail
def eI (ops:List Oper) (hasG:Bool):List Oper→St (X:=X)→(St (X:=X)→R)→R
 | [],s,K=>K s
 |o::l,s,K=>o6 cfg fail ci ops hasG o s fun s'=>eI ops hasG l s' K
def aJ:Op→Option Nat
 | .move _| .assign _| .nilCheck _| .binOp .. | .unOp .. | .convert .. | .field .. | .index .. | .extract .. | .fieldAddr .. | .indexAddr .. | .build .. | .makeFunc .. | .makeInterface .. | .pick .. =>some 0
 | .load .. =>some 1
 | .call _=>some 2
 | .store .. =>some 3
 |_=>none
def cZ (op:Op):Option Nat:=match op with
 | .buildSlice .. =>some 2
 | .slice _ _ _ _ none=>some 1
 |_=>aJ op
def tG (ops:List Oper):Bool:=
 and (ops.all fun o=>match aJ o.op with
  |some 0|some 1|some 2=>true
  |_=>false) (Region.lexB .any ops.toArray)
def bM (o:Oper) (k:Nat):Bool:=o.after.toList.any fun e=>and (Region.binds .any e) (Nat.beq e.on k)
def cL (o:Oper) (t:Nat):Bool:=o.op.operands.toList.any fun x=>match x with
 | .tmp u=>Nat.beq u t
 |_=>false
def Bn (t:Nat) (o:Oper):Bool:=match o.dst with
 |some d=>Nat.beq d t
 |none=>false
def VV (ops:List Oper) (t:Nat):Option Op:=match ops.find? (Bn t)with
 |some o=>some o.op
 |none=>none
def SC (ops:List Oper) (s:St (X:=X)):Nat→Nat→Option Nat
 |0,_=>none
 |n+1,t=>match VV ops t with
  |none=>(match nth s.tm t with
   |some (.is (.ptr k _))=>some k
   |_=>none)
  |some (.fieldAddr _ (.tmp u) _)=>cond (Nat.beq u t) none (SC ops s n u)
  |_=>none
def oV (ops:List Oper) (s:St (X:=X)) (op:Op):Option Nat:=
 match op with
 | .load _ (.tmp t)| .store _ (.tmp t) _=>SC ops s 4 t
 |_=>none
def w9 (ops:List Oper) (s:St (X:=X)) (x y:Op):Bool:=
 match oV ops s x,oV ops s y with
 |some k,some j=>not (Nat.beq k j)
 |_,_=>false
def Gr (ops:List Oper) (s:St (X:=X)) (i:Nat) (o:Oper) (j:Nat) (p:Oper):Bool:=
 cond (Nat.beq i j) true (and
  (match p.dst with
   |some d=>and (cond (cL o d) (and (Nat.blt j i) (bM o j)) true) (match o.dst with
     |some e=>not (Nat.beq d e)
     |none=>true)
   |none=>true)
  (match aJ p.op,aJ o.op with
   |some 3,some 3=>cond (Nat.blt j i) (bM o j) true
   |some 3,some 1=>or (or (and (Nat.blt j i) (bM o j)) (and (Nat.blt i j) (bM p i))) (w9 ops s o.op p.op)
   |some 3,some 2=>or (and (Nat.blt j i) (bM o j)) (and (Nat.blt i j) (bM p i))
   |_,_=>true))
def rS (i:Nat) (o:Oper):Bool:=
 and (match o.guard with
  |none=>true
  |some _=>false) (and (o.after.toList.all fun e=>or (not (Region.binds .any e)) (Nat.blt e.on i))
  (match o.op,aJ o.op with
   | .pick _ _ _,_=>false
   |_,some 3=>(match o.dst with
    |none=>true
    |some _=>false)
   |_,some _=>true
   |_,none=>false))
def idx {α:Type}:Nat→List α→List (Nat×α)
 |_,[]=>[]
 |i,x::l=>(i,x)::idx (i+1) l
def ub (ops:List Oper) (s:St (X:=X)):Bool:=
 (idx 0 ops).all fun io=>and (rS io.1 io.2) ((idx 0 ops).all fun jp=>Gr ops s io.1 io.2 jp.1 jp.2)
def wM (acc:List Nat):List Edge→Nat
 | []=>0
 |e::l=>cond (Region.binds .any e) (Nat.lor (Nat.lor (Nat.shiftLeft 1 e.on) (match nth acc e.on with
  |some r=>r
  |none=>0)) (wM acc l)) (wM acc l)
def Bz:List Oper→List Nat→List Nat
 | [],acc=>acc
 |o::l,acc=>Bz l (acc++[wM acc o.after.toList])
def reach (ops:List Oper):List Nat:=Bz ops []
def xJ (rs:List Nat) (i j:Nat):Bool:=match nth rs i with
 |some r=>Nat.testBit r j
 |none=>false
def Mb (ops:List Oper) (t:Nat):Bool:=ops.any fun o=>match o.dst with
 |some d=>Nat.beq d t
 |none=>false
def ung (o:Oper):Bool:=match o.guard with
 |none=>true
 |some _=>false
def dA (o:Oper):Bool:=match o.op with
 | .call c=>(match c.callee with
  | .builtin .append=>false
  | .builtin _=>true
  |_=>false)
 | .buildSlice .. =>false
 |_=>true
def fK (o:Oper):Bool:=match cZ o.op with
 |some 2=>not (dA o)
 |_=>false
def JZ (wk:Bool) (ops:List Oper) (s:St (X:=X)) (rs:List Nat) (i:Nat) (o:Oper):Bool:=
 and (o.after.toList.all fun e=>or (not (Region.binds .any e)) (Nat.blt e.on i)) (and
  (match o.guard with
   |none=>true
   |some (g,_)=>xJ rs i g)
  (match o.op,cZ o.op with
   | .load _ (.tmp t),_=>cond (or wk (ung o)) true (or (ops.all dA) (and (not (Mb ops t)) (match nth s.tm t with
    |some (.is (.ptr k _))=>Nat.blt k s.hp.length
    |_=>false)))
   | .slice _ _ _ _ none,_=>wk
   |_,some 0=>true
   |_,some 2=>true
   |_,_=>false))
def G9 (rs:List Nat) (i:Nat) (o:Oper) (j:Nat) (p:Oper):Bool:=
 cond (Nat.beq i j) (match o.dst with
  |some d=>not (cL o d)
  |none=>true) (and
  (match p.dst with
   |some d=>and (cond (cL o d) (xJ rs i j) true) (match o.dst with
     |some e=>not (Nat.beq d e)
     |none=>true)
   |none=>true)
  (cond (and (fK o) (and (fK p) (Nat.blt j i))) (xJ rs i j) true))
def AK (wk:Bool) (ops:List Oper) (s:St (X:=X)) (rs:List Nat):Bool:=
 (idx 0 ops).all fun io=>and (JZ wk ops s rs io.1 io.2) ((idx 0 ops).all fun jp=>G9 rs io.1 io.2 jp.1 jp.2)
abbrev Mr (ops:List Oper) (s:St (X:=X)) (rs:List Nat):Bool:=AK false ops s rs
def TT (o:Oper):Bool:=match o.op with
 | .alloc _=>true
 |_=>false
def Ay {α:Type} (p:α→Bool):List α→List α×List α
 | []=>([],[])
 |o::l=>cond (p o) (match Ay p l with|(a,b)=>(o::a,b)) ([],o::l)
def Sk (A:List Oper) (j:Nat):Bool:=match nth A j with
 |some p=>and (ung p) (match aJ p.op with
  |some 0=>true
  |_=>false)
 |none=>false
def L8 (rs:List Nat) (A:List Oper):Nat→List Oper→Bool
 |_,[]=>true
 |k,o::l=>and (and (and (ung o) (match aJ o.op with
  |some 0|some 1|some 3=>true
  |_=>false)) ((List.range k).all fun j=>or (xJ rs k j) (Sk A j))) (L8 rs A (k+1) l)
def V4 (s:St (X:=X)) (al:Oper):Bool:=match al.dst,al.guard with
 |some d,none=>(match nth s.tm d with
  |some .any=>true
  |_=>false)
 |_,_=>false
def RA (ops:List Oper) (s:St (X:=X)):Bool:=
 match Ay (fun o=>not (TT o)) ops with
 |(A,C)=>match Ay TT C with
  |(B,T)=>and (not B.isEmpty) (and (Mr A s (reach A)) (and (B.all (V4 s)) (and ((idx 0 ops).all fun io=>and (io.2.after.toList.all fun e=>or (not (Region.binds .any e)) (Nat.blt e.on io.1)) ((idx 0 ops).all fun jp=>G9 (reach ops) io.1 io.2 jp.1 jp.2)) (L8 (reach ops) A (A.length+B.length) T))))
def Hw (ops:List Oper) (s:St (X:=X)):Bool:=or (Mr ops s (reach ops)) (RA ops s)
def rq (rs:List Nat):Nat→List Oper→Nat
 |k,[]=>k
 |k,_::l=>cond (and (Nat.beq (rq rs (k+1) l) (k+1)) ((List.range k).all fun j=>xJ rs k j)) k (rq rs (k+1) l)
def CE (ops:List Oper) (s:St (X:=X)) (t:Nat):Bool:=
 and (or (AK false (takeN t ops) s (reach (takeN t ops))) (AK true (takeN t ops) s (reach (takeN t ops)))) ((idx 0 ops).all fun io=>and (io.2.after.toList.all fun e=>or (not (Region.binds .any e)) (Nat.blt e.on io.1)) (or (Nat.blt io.1 t) ((List.range io.1).all fun j=>xJ (reach ops) io.1 j)))
def Hd (ops:List Oper) (s:St (X:=X)):Bool:=cond (tG ops) true (ub ops s)
def cw (l:List Oper):Bool:=l.any fun o=>match o.guard with|some _=>true|none=>false
def jn (ops:List Oper) (s:St (X:=X)) (K:St (X:=X)→R):R:=
 match cw ops with
 |true=>eI cfg fail ci ops true ops s fun s'=>K {s' with tm:=ec s'.tm}
 |false=>eI cfg fail ci ops false ops s K
def dC (ops:List Oper) (s:St (X:=X)) (K:St (X:=X)→R):R:=
 match cw ops with
 |true=>eI cfg fail ci ops true ops s fun s'=>tb (ec s'.tm) fun tm=>K {tm:=tm,hp:=s'.hp}
 |false=>eI cfg fail ci ops false ops s K
def wx (ops:List Oper) (t:Nat) (s:St (X:=X)) (K:St (X:=X)→R):R:=
 eI {cfg with apn:=false} fail (fun _ _ _ _=>fail) (takeN t ops) (cw ops) (takeN t ops) s fun s1=>
  cond (or (AK false (takeN t ops) s (reach (takeN t ops))) (Nat.beq s1.hp.length s.hp.length)) (eI cfg fail ci ops (cw ops) (mK t ops) s1 fun s'=>match cw ops with
   |true=>K {s' with tm:=ec s'.tm}
   |false=>K s') fail
def lF (ops:List Oper) (t:Nat) (s:St (X:=X)) (K:St (X:=X)→R):R:=
 eI {cfg with apn:=false} fail (fun _ _ _ _=>fail) (takeN t ops) (cw ops) (takeN t ops) s fun s1=>
  cond (or (AK false (takeN t ops) s (reach (takeN t ops))) (Nat.beq s1.hp.length s.hp.length)) (eI cfg fail ci ops (cw ops) (mK t ops) s1 fun s'=>match cw ops with
   |true=>tb (ec s'.tm) fun tm=>K {tm:=tm,hp:=s'.hp}
   |false=>K s') fail
def RE (ops:List Oper):Bool:=ops.any fun o=>match o.op with
 | .call c=>(match c.callee with
  | .value (.func f)=>(match look cfg.E f,look cfg.H f with
   |none,none=>true
   |_,_=>false)
  | .value _=>true
  | .invoke .. =>true
  |_=>false)
 |_=>false
def iter (body:St (X:=X)→(Ex→St (X:=X)→R)→R):Nat→St (X:=X)→(Ex→St (X:=X)→R)→R
 |0,_,_=>fail
 |k+1,s,K=>body s fun e s'=>match e with
  | .normal=>iter body k s' K
  |e=>K e s'
mutual
def VK (m:Nat):AV→Bool
 | .ptr k _=>Nat.blt k m
 | .pel k _ _ _=>Nat.blt k m
 | .sl k _ _ _ _=>Nat.blt k m
 | .fn _ a c=>and (IB m a) (IB m c)
 | .agg cs=>IB m cs
 | .tup vs=>IB m vs
 | .ifc _ v=>VK m v
 | .yld k=>Nat.blt k m
 | .mp k=>Nat.blt k m
 | .cut k _ _ _ _=>Nat.blt k m
 |_=>true
def IB (m:Nat):List AV→Bool
 | []=>true
 |v::l=>and (VK m v) (IB m l)
end
def Ve (n:Nat):List Nat→Bool
 | []=>false
 |k::l=>cond (Nat.beq k n) true (Ve n l)
def fL (keep:List Nat):Nat→List Slot→List Slot
 |_,[]=>[]
 |i,x::l=>cond (Ve i keep) x .any::fL keep (i+1) l
mutual
def ren (m L:Nat):AV→Option AV
 | .ptr k o=>(Ew m L k).map fun k=> .ptr k o
 | .pel k i w o=>(Ew m L k).map fun k=> .pel k i w o
 | .sl k i w n c=>(Ew m L k).map fun k=> .sl k i w n c
 | .fn f a c=>match FT m L a,FT m L c with
  |some a,some c=>some (.fn f a c)
  |_,_=>none
 | .agg cs=>(FT m L cs).map .agg
 | .tup vs=>(FT m L vs).map .tup
 | .ifc t v=>(ren m L v).map (.ifc t)
 | .yld k=>(Ew m L k).map .yld
 | .mp k=>(Ew m L k).map .mp
 | .cut k i w lo n=>(Ew m L k).map fun k=> .cut k i w lo n
 |v=>some v
def FT (m L:Nat):List AV→Option (List AV)
 | []=>some []
 |v::l=>match ren m L v,FT m L l with
  |some v,some l=>some (v::l)
  |_,_=>none
def Ew (m L k:Nat):Option Nat:=cond (Nat.blt k m) (some k) (cond (Nat.ble L k) (some (m+(k-L))) none)
end
def tu (m L:Nat):Slot→Option Slot
 | .any=>some .any
 | .is v=>(ren m L v).map .is
 | .opt _ _=>none
def lS (m L:Nat):List Slot→Option (List Slot)
 | []=>some []
 |x::l=>match tu m L x,lS m L l with
  |some x,some l=>some (x::l)
  |_,_=>none
def jw (m L:Nat):Blk (X:=X)→Option (Blk (X:=X))
 | .dead=>some .dead
 | .raw cs=>(FT m L cs).map .raw
 | .vec t xs o=>some (.vec t xs o)
 | .alias k f p=>(Ew m L k).map fun k=> .alias k f p
 | .dfr=>some .dfr
 | .mark=>some .mark
 | .rcd st id tm=>(lS m L tm).map fun tm=> .rcd st id tm
 | .u6 es=>some (.u6 es)
def mJ (m L:Nat):List (Blk (X:=X))→Option (List (Blk (X:=X)))
 | []=>some []
 |x::l=>match jw m L x,mJ m L l with
  |some x,some l=>some (x::l)
  |_,_=>none
def EP (s:St (X:=X)):Place→Option AV
 | .slot t=>match nth s.tm t with
  |some (.is v)=>some v
  |_=>none
 | .cell k o=>match nth s.hp k with
  |some (.raw cs)=>nth cs o
  |_=>none
def EL (s:St (X:=X)) (v:AV):Place→St (X:=X)
 | .slot t=>{s with tm:=ij s.tm t (.is v)}
 | .cell k o=>match nth s.hp k with
  |some (.raw cs)=>{s with hp:=ij s.hp k (.raw (ij cs o v))}
  |_=>s
def JQ (s:St (X:=X)) (b:Blk (X:=X)):St (X:=X):={s with hp:=s.hp++[b]}
def Sy (pl:Place) (el:X.El) (s:St (X:=X)):Option (Bool×St (X:=X)):=
 match EP s pl with
 |some (.val (.slice none 0 0))=>some (true,JQ (EL s (.sl s.hp.length 0 (X.width el) 0 none) pl) (.vec el [] true))
 |some (.sl k 0 w n none)=>match nth s.hp k with
  |some (.vec t xs true)=>match decEq t el with
   | .isTrue h=>cond (Nat.beq w (X.width el)) (some (Nat.beq n xs.length,JQ (EL {s with hp:=ij s.hp k .dead} (.sl s.hp.length 0 w xs.length none) pl) (.vec el (h▸xs) true))) none
   | .isFalse _=>none
  |_=>none
 |_=>none
def IP:List (Place×X.El)→St (X:=X)→Option (Bool×St (X:=X))
 | [],s=>some (true,s)
 |(pl,el)::l,s=>match Sy pl el s with
  |some (ok,s')=>match IP l s' with
   |some (ok',s'')=>some (and ok ok',s'')
   |none=>none
  |none=>none
def forget (sp:bA (X:=X)) (s:St (X:=X)):Option (Bool×St (X:=X)):=
 cond (and (Nat.ble sp.m s.hp.length) (eB (mK sp.m s.hp))) (match IP sp.mv {s with tm:=fL sp.keep 0 s.tm}with
  |some (ok,s')=>match lS sp.m s.hp.length s'.tm,mJ sp.m s.hp.length (takeN sp.m s'.hp++mK s.hp.length s'.hp)with
   |some tm,some hp=>some (ok,{tm:=tm,hp:=hp})
   |_,_=>none
  |none=>none) none
def x3 (sp:bA (X:=X)) (K:Ex→St (X:=X)→R) (s:St (X:=X)):R:=
 match forget sp s with
 |some (ok,s')=>cond ok (K .normal s') fail
 |none=>fail
def aU (sp:bA (X:=X)) (K:Ex→St (X:=X)→R) (e:Ex) (s:St (X:=X)):R:=
 match e with
 | .normal=>x3 fail sp K s
 |e=>K e s
def a7 (K:Ex→St (X:=X)→R):List (Bool×Ex×St (X:=X))→Ex→St (X:=X)→R
 | [],e,s=>K e s
 |(b,e',s')::l,e,s=>cond b (K e' s') (a7 K l e s)
def r9:Code→St (X:=X)→(Ex→St (X:=X)→R)→R
 | .skip,s,K=>K .normal s
 | .label _,s,K=>K .normal s
 | .ret,s,K=>K .ret s
 | .exit id,s,K=>K (.exit id) s
 | .goto l,s,K=>K (.goto l) s
 | .region _ ops d,s,K=>match d with
  |false=>dC cfg fail ci ops.toList s (K .normal)
  |true=>fail
 | .seq a b,s,K=>r9 a s fun e s'=>match e with
  | .normal=>r9 b s' K
  |e=>K e s'
 | .cond c x y,s,K=>match rd s.tm [] c with
  |some (.bool b)=>cond b (r9 x s K) (r9 y s K)
  |_=>fail
 | .block id c,s,K=>r9 c s fun e s'=>match e with
  | .exit id'=>cond (Nat.beq id' id) (K .normal s') (K (.exit id') s')
  |e=>K e s'
 |_,_,_=>fail
def exec (fuel f:Nat):Nat→Code→St (X:=X)→(Ex→St (X:=X)→R)→R
 |_, .skip,s,K=>K .normal s
 |_, .label _,s,K=>K .normal s
 |_, .ret,s,K=>K .ret s
 |_, .exit id,s,K=>K (.exit id) s
 |_, .goto l,s,K=>K (.goto l) s
 |_, .region _ ops d,s,K=>match d with
  |false=>dC cfg fail ci ops.toList s (K .normal)
  |true=>cond (and (RE cfg ops.toList) (CE ops.toList s (rq (reach ops.toList) 0 ops.toList))) (lF cfg fail ci ops.toList (rq (reach ops.toList) 0 ops.toList) s (K .normal))
    (cond (Hw ops.toList s) (dC {cfg with apn:=false} fail (fun _ _ _ _=>fail) ops.toList s (K .normal)) (cond (Hd ops.toList s) (dC {cfg with H:=[],apn:=false} fail (fun _ _ _ _=>fail) ops.toList s (K .normal))
    (cond (CE ops.toList s (rq (reach ops.toList) 0 ops.toList)) (lF cfg fail ci ops.toList (rq (reach ops.toList) 0 ops.toList) s (K .normal)) fail)))
 |p, .seq a b,s,K=>exec fuel f (2*p) a s fun e s'=>match e with
  | .normal=>exec fuel f (2*p+1) b s' K
  |e=>K e s'
 |p, .cond c x y,s,K=>match rd s.tm [] c with
  |some (.bool b)=>cond b (exec fuel f (2*p) x s K) (exec fuel f (2*p+1) y s K)
  |_=>fail
 |p, .block id c,s,K=>exec fuel f (2*p) c s fun e s'=>match e with
  | .exit id'=>cond (Nat.beq id' id) (K .normal s') (K (.exit id') s')
  |e=>K e s'
 |p, .rangeFunc g _ _ _,s,K=>match cfg.rnd,Aq cfg.Y f p,rd s.tm [] g with
  |false,some (id,keep),some (.fn gf [] caps)=>cond (and (eB s.hp) (not (Nat.ble jd gf))) (ci gf (.yld (s.hp.length+1)::caps) (s.hp++[.dfr, .rcd .ready id (fL keep 0 s.tm)]) fun _ hp=>match nth hp s.hp.length,nth hp (s.hp.length+1)with
   |some .dfr,some (.rcd .ready _ _)=>uF hp s.hp.length .dead fun hp=>uF hp (s.hp.length+1) .dead fun hp=>lH (hp++[.mark]) fun hp=>K .normal {tm:=s.tm,hp:=hp}
   |some .dfr,some (.rcd (.done e) _ _)=>uF hp s.hp.length .dead fun hp=>uF hp (s.hp.length+1) .dead fun hp=>lH (hp++[.mark]) fun hp=>K e {tm:=s.tm,hp:=hp}
   |_,_=>fail) fail
  |_,_,_=>fail
 |p, .loop c,s,K=>match Rv cfg.lp f p s.hp with
  |some sp=>cond (Nat.beq s.hp.length sp.m) (x3 fail sp (fun _ s0=>match sp.con with
   |some con=>match con s0 with
    |some (ok,l,e,s')=>cond ok (a7 K l e s') fail
    |none=>fail
   |none=>iter fail (fun s' K'=>exec fuel f (2*p) c s' (aU fail sp K')) fuel s0 K) s) fail
  |none=>iter fail (fun s' K'=>exec fuel f (2*p) c s' K') 200 s K
 |p, .scope c,s,K=>exec fuel f (2*p) c s fun e s'=>match e with
  | .goto l=>match findLabel c l with
   |some rest=>r9 cfg fail ci rest s' fun e s''=>match e with
    | .goto _=>fail
    |e=>K e s''
   |none=>fail
  |e=>K e s'
 |_,_,_,_=>fail
def CN (hp:List (Blk (X:=X))) (tm:List Slot):ResultVar→Option AV
 | .tmp t=>rd tm [] (.tmp t)
 | .cell a t=>match rd tm [] (.tmp a),look cfg.ti t with
  |some (.ptr k o),some i=>match loadAt i.agg i.size hp (.ptr k o)with
   |some (ok,v)=>cond ok (some v) none
   |none=>none
  |_,_=>none
def fb (hp:List (Blk (X:=X))) (tm:List Slot):List ResultVar→Option (List AV)
 | []=>some []
 |r::l=>match CN cfg hp tm r,fb hp tm l with
  |some v,some vs=>some (v::vs)
  |_,_=>none
def single:List AV→AV
 | [v]=>v
 |vs=> .tup vs
def mw:Nat→List Slot→List Slot
 |0,l=>l
 |n+1,[]=> .any::mw n []
 |n+1,x::l=>x::mw n l
def Ll (fuel f:Nat) (fn:Func) (args:List AV) (hp:List (Blk (X:=X))) (K:AV→List (Blk (X:=X))→R):R:=
 match fn.body with
 |some c=>exec cfg fail ci fuel f 1 c {tm:=mw fn.ntmps (args.map .is),hp:=hp} fun e s=>
  match e with
  | .normal| .ret=>cond (eB (takeN hp.length s.hp)) (match fb cfg (dK s.hp) s.tm fn.results.toList with
   |some vs=>K (single vs) (dK s.hp)
   |none=>fail) fail
  |_=>fail
 |none=>fail
def Cq (fuel f:Nat) (fn:Func) (args:List AV) (hp:List (Blk (X:=X))) (K:AV→List (Blk (X:=X))→R):R:=
 match fn.body with
 |some c=>tb (mw fn.ntmps (args.map .is)) fun tm=>lH hp fun hp=>exec cfg fail ci fuel f 1 c {tm:=tm,hp:=hp} fun e s=>
  match e with
  | .normal| .ret=>cond (eB (takeN hp.length s.hp)) (lH (dK s.hp) fun h=>match fb cfg h s.tm fn.results.toList with
   |some vs=>K (single vs) h
   |none=>fail) fail
  |_=>fail
 |none=>fail
def Dx:List Nat→List AV→List Slot→Option (List Slot)
 | [],[],tm=>some tm
 |p::ps,v::vs,tm=>Dx ps vs (ij tm p (.is v))
 |_,_,_=>none
def round (ci:dJ (X:=X) (R:=R)) (fuel k:Nat) (args:List AV) (hp:List (Blk (X:=X))) (K:AV→List (Blk (X:=X))→R):R:=
 match nth hp k with
 |some (.rcd .ready id tm)=>match X.src id with
  |some (ps,a,c)=>match Dx ps.toList args tm with
   |some tm0=>tb tm0 fun tm0=>exec {cfg with lp:=[],Y:=[],rnd:=true} fail ci fuel 0 1 a {tm:=tm0,hp:=hp} fun e s=>match e with
    | .normal=>match nth s.hp k with
     |some (.rcd .ready id' tm')=>uF s.hp k (.rcd .busy id' tm') fun hp=>exec {cfg with lp:=[],Y:=[],rnd:=true} fail ci fuel 0 1 c {tm:=s.tm,hp:=hp} fun e s=>match nth s.hp k with
      |some (.rcd .busy id' tm')=>match e with
       | .normal=>uF s.hp k (.rcd .ready id' tm') fun hp=>K (.bool true) hp
       |e=>uF s.hp k (.rcd (.done e) id' tm') fun hp=>K (.bool false) hp
      |_=>fail
     |_=>fail
    |_=>fail
   |none=>fail
  |none=>fail
 |_=>fail
def bU (fuel:Nat):Nat→dJ (X:=X) (R:=R)
 |0,_,_,_,_=>fail
 |d+1,f,args,hp,K=>match look cfg.F f with
  |some fn=>cond (Nat.ble jd f) fail (Cq cfg fail (bU fuel d) fuel f fn args hp K)
  |none=>cond (Nat.ble jd f) (round cfg fail (bU fuel d) fuel (f-jd) args hp K) fail
end
end Go.Proofs.YtfhepbbkggdlcaaGreatDoor.Px
