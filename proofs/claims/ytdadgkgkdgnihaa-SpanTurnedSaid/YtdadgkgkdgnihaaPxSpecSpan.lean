/- Spans, as plain functions. -/
import Derived.Test.YtdadgkgkdgnihaaPxApi0
import Derived.Test.YtdadgkgkdgnihaaPxSpecSort
set_option linter.unusedVariables false
set_option linter.unusedSimpArgs false
namespace Go.Proofs.Ytdadgkgkdgnihaa.Px
open Go
def bt:Span:=⟨0,0,0,0⟩
def inS (s:Span) (t:Int):Bool:=decide (s.from_≤t)&&decide (t<s.to_)
def dA (a b:Span):Bool:=decide (a.prio<b.prio)||(a.prio==b.prio&&decide (a.from_<b.from_))
def Bm (l:List Span):List Span:=l
def aE (l:List Span):Bool:=decide (l.length≤1048576)
def bK (a b:List Span):Bool:=decide (a=b)
def eD (a _:List Span):Bool:=decide (a.length≤1048576)
def c7 (l:List Span) (t:Int):Bool:=l.any fun s=>inS s t
def atIdx (l:List Span) (t:Int):Int:=(l.findIdx fun s=>inS s t:Nat)
def fX (l:List Span) (t:Int):Span×Bool:=cond (c7 l t) (l.getD (atIdx l t).toNat bt,true) (bt,false)
def aL (l:List Span) (_:Int):Bool:=aE l
def bO (s:Span) (a b:Int):Span:=⟨cond (decide (a>s.from_)) a s.from_,cond (decide (b<s.to_)) b s.to_,s.mode,s.prio⟩
def bP:List Span→Int→Int→List Span
 | [],_,_=>[]
 |s::l,a,b=>cond (decide ((bO s a b).from_<(bO s a b).to_)) (bO s a b::bP l a b) (bP l a b)
def cj (l:List Span) (_ _:Int):Bool:=aE l
def dF (s:Span):Bool:=decide (s.from_≥s.to_)
def ud (l:List Span):Int:=(l.findIdx dF:Nat)
def kK (l:List Span):Bool:=l.all (fun s=> !dF s)&&decide (l.length≤500)
def wGo (L:List Span) (t:Int):List Span→Int→Int→Int
 | [],_,best=>best
 |s::l,i,best=>wGo L t l (i+1) (cond (inS s t&&(decide (best<0)|| !dA s (L.getD best.toNat bt))) i best)
def ag (l:List Span) (t:Int):Int:=wGo l t l 0 (-1)
def ax:List Span→List Int
 | []=>[]
 |s::l=>s.from_::s.to_::ax l
def eE (l:List Span):List Int:=cH (bn (ax l))
def cL (l out:List Span) (a b:Int):List Span:=
 cond (decide (ag l a<0)) out
  (cond (decide (out.length>0)&&((out.getD (out.length-1) bt).to_==a&&(out.getD (out.length-1) bt).mode==(l.getD (ag l a).toNat bt).mode))
   (out.set (out.length-1) ⟨(out.getD (out.length-1) bt).from_,b,(out.getD (out.length-1) bt).mode,(out.getD (out.length-1) bt).prio⟩)
   (out++[⟨a,b,(l.getD (ag l a).toNat bt).mode,0⟩]))
def c8 (l:List Span):List Int→List Span→List Span
 |a::b::es,out=>c8 l (b::es) (cL l out a b)
 |_,out=>out
def aU (l:List Span):List Span:=c8 l (eE l) []
def aM (l:List Span):List Span×Int:=cond (kK l) (aU l,0) ([],130)
def oZ (a b:Span):Bool:= !dA a b
def nP1 (t e n:Int) (h:Bool):Int:=cond (decide (e>t)&&(!h||decide (e<n))) e n
def nP2 (t e n:Int) (h:Bool):Bool:=cond (decide (e>t)&&(!h||decide (e<n))) true h
def nGo (t:Int):List Span→Int→Bool→Int×Bool
 | [],n,h=>(n,h)
 |s::l,n,h=>nGo t l (nP1 t s.to_ (nP1 t s.from_ n h) (nP2 t s.from_ n h)) (nP2 t s.to_ (nP1 t s.from_ n h) (nP2 t s.from_ n h))
def aI (l:List Span) (t:Int):Int×Bool:=nGo t l 0 false
def lGo:List Span→Int→Int
 | [],n=>n
 |s::l,n=>lGo l (cond (decide (s.from_<n)) s.from_ n)
def bJ (l:List Span):Int:=lGo l (l.getD 0 bt).from_
def pM (l:List Span):Bool:=aE l&&decide (l.length>0)
def kF (l:List Span):List Int→Int→Int→Bool→List Span→List Span
 | [],_,_,_,out=>out
 |_::k,a,b,m,out=>cond m (kF l k b (aI l b).1 (aI l b).2 (cL l out a b)) out
def Aw (l:List Span):List Span:=cond (decide (l.length>0)) (kF l (ax l) (bJ l) (aI l (bJ l)).1 (aI l (bJ l)).2 []) []
def ub (l:List Span):Bool:=decide (l.length≤500)
def aO (l:List Span):List Span:=l.map fun s=>{s with prio:=0}
def ig:List Span→Int→Int
 | [],n=>n
 |s::l,n=>ig l (cond (decide (s.prio>n)) s.prio n)
end Go.Proofs.Ytdadgkgkdgnihaa.Px
