/- Spans, as plain functions. -/
import Derived.Test.YtdadgkgkdgnihaaPxApi0
import Derived.Test.YtdadgkgkdgnihaaPxSpecSort
set_option linter.unusedVariables false
set_option linter.unusedSimpArgs false
namespace Go.Proofs.Ytdadgkgkdgnihaa.Px
open Go

def span0 : Span := ⟨0, 0, 0, 0⟩
def inS (s : Span) (t : Int) : Bool := decide (s.from_ ≤ t) && decide (t < s.to_)
def lessS (a b : Span) : Bool := decide (a.prio < b.prio) || (a.prio == b.prio && decide (a.from_ < b.from_))
def ownS (l : List Span) : List Span := l
def smallS (l : List Span) : Bool := decide (l.length ≤ 1048576)
def eqSpans (a b : List Span) : Bool := decide (a = b)
def smallSS (a _ : List Span) : Bool := decide (a.length ≤ 1048576)
def anyIn (l : List Span) (t : Int) : Bool := l.any fun s => inS s t
def atIdx (l : List Span) (t : Int) : Int := (l.findIdx fun s => inS s t : Nat)
def findS (l : List Span) (t : Int) : Span × Bool := cond (anyIn l t) (l.getD (atIdx l t).toNat span0, true) (span0, false)
def smallST (l : List Span) (_ : Int) : Bool := smallS l
def clipS (s : Span) (a b : Int) : Span := ⟨cond (decide (a > s.from_)) a s.from_, cond (decide (b < s.to_)) b s.to_, s.mode, s.prio⟩
def cutL : List Span → Int → Int → List Span
  | [], _, _ => []
  | s :: l, a, b => cond (decide ((clipS s a b).from_ < (clipS s a b).to_)) (clipS s a b :: cutL l a b) (cutL l a b)
def smallSTT (l : List Span) (_ _ : Int) : Bool := smallS l
def oddS (s : Span) : Bool := decide (s.from_ ≥ s.to_)
def oddIdx (l : List Span) : Int := (l.findIdx oddS : Nat)
def mayS (l : List Span) : Bool := l.all (fun s => !oddS s) && decide (l.length ≤ 500)

/-- The place of the weightiest one. -/
def wGo (L : List Span) (t : Int) : List Span → Int → Int → Int
  | [], _, best => best
  | s :: l, i, best => wGo L t l (i + 1) (cond (inS s t && (decide (best < 0) || !lessS s (L.getD best.toNat span0))) i best)
def weightI (l : List Span) (t : Int) : Int := wGo l t l 0 (-1)
def endsS : List Span → List Int
  | [] => []
  | s :: l => s.from_ :: s.to_ :: endsS l
def piecesS (l : List Span) : List Int := compI (sortI (endsS l))
/-- One piece more. -/
def pieceS (l out : List Span) (a b : Int) : List Span :=
  cond (decide (weightI l a < 0)) out
    (cond (decide (out.length > 0) && ((out.getD (out.length - 1) span0).to_ == a && (out.getD (out.length - 1) span0).mode == (l.getD (weightI l a).toNat span0).mode))
      (out.set (out.length - 1) ⟨(out.getD (out.length - 1) span0).from_, b, (out.getD (out.length - 1) span0).mode, (out.getD (out.length - 1) span0).prio⟩)
      (out ++ [⟨a, b, (l.getD (weightI l a).toNat span0).mode, 0⟩]))
def resGo (l : List Span) : List Int → List Span → List Span
  | a :: b :: es, out => resGo l (b :: es) (pieceS l out a b)
  | _, out => out
def resolveS (l : List Span) : List Span := resGo l (piecesS l) []
def span_Resolve (l : List Span) : List Span × Int := cond (mayS l) (resolveS l, 0) ([], 130)

/-! The document's answer. -/
def overS (a b : Span) : Bool := !lessS a b
/-- The least beginning or end above an instant. -/
def nP1 (t e n : Int) (h : Bool) : Int := cond (decide (e > t) && (!h || decide (e < n))) e n
def nP2 (t e n : Int) (h : Bool) : Bool := cond (decide (e > t) && (!h || decide (e < n))) true h
def nGo (t : Int) : List Span → Int → Bool → Int × Bool
  | [], n, h => (n, h)
  | s :: l, n, h => nGo t l (nP1 t s.to_ (nP1 t s.from_ n h) (nP2 t s.from_ n h)) (nP2 t s.to_ (nP1 t s.from_ n h) (nP2 t s.from_ n h))
def nextS (l : List Span) (t : Int) : Int × Bool := nGo t l 0 false
def lGo : List Span → Int → Int
  | [], n => n
  | s :: l, n => lGo l (cond (decide (s.from_ < n)) s.from_ n)
def leastS (l : List Span) : Int := lGo l (l.getD 0 span0).from_
def someS (l : List Span) : Bool := smallS l && decide (l.length > 0)
def refGo (l : List Span) : List Int → Int → Int → Bool → List Span → List Span
  | [], _, _, _, out => out
  | _ :: k, a, b, m, out => cond m (refGo l k b (nextS l b).1 (nextS l b).2 (pieceS l out a b)) out
def refS (l : List Span) : List Span := cond (decide (l.length > 0)) (refGo l (endsS l) (leastS l) (nextS l (leastS l)).1 (nextS l (leastS l)).2 []) []
def smallR (l : List Span) : Bool := decide (l.length ≤ 500)
def modesL (l : List Span) : List Span := l.map fun s => { s with prio := 0 }

/-- Do they stand one behind the other? -/
def rowB : Option Span → List Span → Bool
  | _, [] => true
  | none, s :: l => !oddS s && rowB (some s) l
  | some p, s :: l => (!oddS s && !(decide (s.from_ < p.to_) || (s.from_ == p.to_ && s.mode == p.mode))) && rowB (some s) l
def topP : List Span → Int → Int
  | [], n => n
  | s :: l, n => topP l (cond (decide (s.prio > n)) s.prio n)
end Go.Proofs.Ytdadgkgkdgnihaa.Px
