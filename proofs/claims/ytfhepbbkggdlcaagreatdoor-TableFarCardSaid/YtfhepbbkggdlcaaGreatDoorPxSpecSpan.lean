/- Spans, as plain functions. -/
import Derived.Test.YtfhepbbkggdlcaaGreatDoorPxApi0
import Derived.Test.YtfhepbbkggdlcaaGreatDoorPxSpecSort
import Derived.Test.YtfhepbbkggdlcaaGreatDoorPxIdx
import Derived.Test.YtfhepbbkggdlcaaGreatDoorPxSpecFeast
set_option linter.unusedVariables false
set_option linter.unusedSimpArgs false
namespace Go.Proofs.YtfhepbbkggdlcaaGreatDoor.Px
open Go
def span0 : Span := ⟨0, 0, 0, 0⟩
def inS (s : Span) (t : Int) : Bool := decide (s.from_ ≤ t) && decide (t < s.to_)
def lessS (a b : Span) : Bool := decide (a.prio < b.prio) || (a.prio == b.prio && decide (a.from_ < b.from_))
def ownS (l : List Span) : List Span := l
def smallS (l : List Span) : Bool := decide (l.length ≤ 1048576)
def eqSpans (a b : List Span) : Bool := decide (a = b)
def smallSS (a _ : List Span) : Bool := decide (a.length ≤ 1048576)
def anyIn (l : List Span) (t : Int) : Bool := l.any fun s => inS s t
def atIdx (l : List Span) (t : Int) : Int := (l.findIdx fun s => inS s t : Nat)
def findS (l : List Span) (t : Int) : Span × Bool := cond (anyIn l t) (l.getD (atIdx l t).toNat span0, true) (span0, false)
def smallST (l : List Span) (_ : Int) : Bool := smallS l
def clipS (s : Span) (a b : Int) : Span := ⟨cond (decide (a > s.from_)) a s.from_, cond (decide (b < s.to_)) b s.to_, s.mode, s.prio⟩
def cutL : List Span → Int → Int → List Span
 | [], _, _ => []
 | s :: l, a, b => cond (decide ((clipS s a b).from_ < (clipS s a b).to_)) (clipS s a b :: cutL l a b) (cutL l a b)
def smallSTT (l : List Span) (_ _ : Int) : Bool := smallS l
def oddS (s : Span) : Bool := decide (s.from_ ≥ s.to_)
def oddIdx (l : List Span) : Int := (l.findIdx oddS : Nat)
def mayS (l : List Span) : Bool := l.all (fun s => !oddS s) && decide (l.length ≤ 500)
def wGo (L : List Span) (t : Int) : List Span → Int → Int → Int
 | [], _, best => best
 | s :: l, i, best => wGo L t l (i + 1) (cond (inS s t && (decide (best < 0) || !lessS s (L.getD best.toNat span0))) i best)
def weightI (l : List Span) (t : Int) : Int := wGo l t l 0 (-1)
def endsS : List Span → List Int
 | [] => []
 | s :: l => s.from_ :: s.to_ :: endsS l
def piecesS (l : List Span) : List Int := compI (sortI (endsS l))
def pieceS (l out : List Span) (a b : Int) : List Span :=
 cond (decide (weightI l a < 0)) out
  (cond (decide (out.length > 0) && ((out.getD (out.length - 1) span0).to_ == a && (out.getD (out.length - 1) span0).mode == (l.getD (weightI l a).toNat span0).mode))
   (out.set (out.length - 1) ⟨(out.getD (out.length - 1) span0).from_, b, (out.getD (out.length - 1) span0).mode, (out.getD (out.length - 1) span0).prio⟩)
   (out ++ [⟨a, b, (l.getD (weightI l a).toNat span0).mode, 0⟩]))
def resGo (l : List Span) : List Int → List Span → List Span
 | a :: b :: es, out => resGo l (b :: es) (pieceS l out a b)
 | _, out => out
def resolveS (l : List Span) : List Span := resGo l (piecesS l) []
def span_Resolve (l : List Span) : List Span × Int := cond (mayS l) (resolveS l, 0) ([], 130)
def overS (a b : Span) : Bool := !lessS a b
def nP1 (t e n : Int) (h : Bool) : Int := cond (decide (e > t) && (!h || decide (e < n))) e n
def nP2 (t e n : Int) (h : Bool) : Bool := cond (decide (e > t) && (!h || decide (e < n))) true h
def nGo (t : Int) : List Span → Int → Bool → Int × Bool
 | [], n, h => (n, h)
 | s :: l, n, h => nGo t l (nP1 t s.to_ (nP1 t s.from_ n h) (nP2 t s.from_ n h)) (nP2 t s.to_ (nP1 t s.from_ n h) (nP2 t s.from_ n h))
def nextS (l : List Span) (t : Int) : Int × Bool := nGo t l 0 false
def lGo : List Span → Int → Int
 | [], n => n
 | s :: l, n => lGo l (cond (decide (s.from_ < n)) s.from_ n)
def leastS (l : List Span) : Int := lGo l (l.getD 0 span0).from_
def someS (l : List Span) : Bool := smallS l && decide (l.length > 0)
def refGo (l : List Span) : List Int → Int → Int → Bool → List Span → List Span
 | [], _, _, _, out => out
 | _ :: k, a, b, m, out => cond m (refGo l k b (nextS l b).1 (nextS l b).2 (pieceS l out a b)) out
def refS (l : List Span) : List Span := cond (decide (l.length > 0)) (refGo l (endsS l) (leastS l) (nextS l (leastS l)).1 (nextS l (leastS l)).2 []) []
def smallR (l : List Span) : Bool := decide (l.length ≤ 500)
def modesL (l : List Span) : List Span := l.map fun s => { s with prio := 0 }
def rowB : Option Span → List Span → Bool
 | _, [] => true
 | none, s :: l => !oddS s && rowB (some s) l
 | some p, s :: l => (!oddS s && !(decide (s.from_ < p.to_) || (s.from_ == p.to_ && s.mode == p.mode))) && rowB (some s) l
def topP : List Span → Int → Int
 | [], n => n
 | s :: l, n => topP l (cond (decide (s.prio > n)) s.prio n)
end Go.Proofs.YtfhepbbkggdlcaaGreatDoor.Px


namespace Go.Proofs.YtfhepbbkggdlcaaGreatDoor.Px
open Go
set_option linter.unusedSimpArgs false
set_option linter.unusedVariables false
theorem spanEq (x y : Span) : (x.from_ == y.from_ && (x.to_ == y.to_ && (x.mode == y.mode && (x.prio == y.prio && true)))) = decide (x = y) := by
 rw [Bool.eq_iff_iff]
 obtain ⟨a, b, c, d⟩ := x
 obtain ⟨a', b', c', d'⟩ := y
 simp
theorem wGo_range (L : List Span) (t : Int) : ∀ (l : List Span) (i : Nat) (best : Int), -1 ≤ best → best < i → -1 ≤ wGo L t l i best ∧ wGo L t l i best < ((i + l.length : Nat) : Int)
 | [], i, best, h1, h2 => by simp [wGo]; omega
 | s :: l, i, best, h1, h2 => by
  unfold wGo
  have e : (i : Int) + 1 = ((i + 1 : Nat) : Int) := by simp
  rw [e]
  cases hc : (inS s t && (decide (best < 0) || !lessS s (L.getD best.toNat span0)))
  ·have := wGo_range L t l (i + 1) best h1 (by omega)
   simp only [cond_false, List.length_cons]
   refine ⟨this.1, ?_⟩
   have := this.2
   omega
  ·have := wGo_range L t l (i + 1) i (by omega) (by omega)
   simp only [cond_true, List.length_cons]
   refine ⟨this.1, ?_⟩
   have := this.2
   omega
theorem weightI_range (l : List Span) (t : Int) : -1 ≤ weightI l t ∧ weightI l t < (l.length : Int) := by
 have := wGo_range l t l 0 (-1) (by omega) (by omega)
 simpa [weightI] using this
theorem endsS_length : ∀ l : List Span, (endsS l).length = 2 * l.length
 | [] => rfl
 | s :: l => by simp [endsS, endsS_length l]; omega
theorem sortI_length (l : List Int) : (sortI l).length = l.length := (sortI_perm l).length_eq
theorem compGo_length : ∀ (l : List Int) (o : Option Int), (compGo o l).length ≤ l.length
 | [], o => by cases o <;> simp [compGo]
 | x :: l, none => by simp [compGo, compGo_length l]
 | x :: l, some p => by
  unfold compGo
  have := compGo_length l (some x)
  cases x == p <;> simp <;> omega
theorem piecesS_length (l : List Span) : (piecesS l).length ≤ 2 * l.length := by
 have := compGo_length (sortI (endsS l)) none
 rw [sortI_length, endsS_length] at this
 exact this
theorem pieceS_length (l out : List Span) (a b : Int) : (pieceS l out a b).length ≤ out.length + 1 := by
 unfold pieceS
 cases decide (weightI l a < 0)
 ·simp only [cond_false]
  cases (decide (out.length > 0) && ((out.getD (out.length - 1) span0).to_ == a && (out.getD (out.length - 1) span0).mode == (l.getD (weightI l a).toNat span0).mode)) <;> simp
 ·simp
theorem resGo_length (l : List Span) : ∀ (es : List Int) (out : List Span), (resGo l es out).length ≤ out.length + es.length
 | [], out => by simp [resGo]
 | [a], out => by simp [resGo]
 | a :: b :: es, out => by
  have := resGo_length l (b :: es) (pieceS l out a b)
  have := pieceS_length l out a b
  simp only [resGo, List.length_cons] at *
  omega
theorem resolveS_length (l : List Span) : (resolveS l).length ≤ 2 * l.length := by
 have := resGo_length l (piecesS l) []
 have := piecesS_length l
 simp [resolveS] at *
 omega
theorem cutL_length : ∀ (l : List Span) (a b : Int), (cutL l a b).length ≤ l.length
 | [], _, _ => by simp [cutL]
 | s :: l, a, b => by
  unfold cutL
  have := cutL_length l a b
  cases decide ((clipS s a b).from_ < (clipS s a b).to_) <;> simp <;> omega
theorem atIdx_lt {l : List Span} {t : Int} (h : anyIn l t = true) : 0 ≤ atIdx l t ∧ atIdx l t < (l.length : Int) := by
 unfold anyIn at h
 unfold atIdx
 rw [List.any_eq_true] at h
 have := List.findIdx_lt_length_of_exists (p := fun s => inS s t) (by simpa using h)
 omega
theorem lGo_eq (l : List Span) : leastS l = lGo l (l.getD 0 span0).from_ := rfl
theorem nP_spec (t e n : Int) (h : Bool) (hn : h = true → n > t) : (nP2 t e n h = true ↔ h = true ∨ e > t) ∧ (nP2 t e n h = true → nP1 t e n h > t ∧ (nP1 t e n h = e ∨ (nP1 t e n h = n ∧ h = true)) ∧ (h = true → nP1 t e n h ≤ n) ∧ (e > t → nP1 t e n h ≤ e)) := by
 unfold nP1 nP2
 by_cases h1 : e > t <;> cases h <;> by_cases h2 : e < n <;> simp [h1, h2] <;> (try have := hn rfl) <;> omega
theorem nGo_spec (t : Int) : ∀ (l : List Span) (n : Int) (h : Bool), (h = true → n > t) → ((nGo t l n h).2 = true ↔ h = true ∨ ∃ e ∈ endsS l, e > t) ∧
  ((nGo t l n h).2 = true → (nGo t l n h).1 > t ∧ ((nGo t l n h).1 ∈ endsS l ∨ ((nGo t l n h).1 = n ∧ h = true)) ∧ (h = true → (nGo t l n h).1 ≤ n) ∧ ∀ e ∈ endsS l, e > t → (nGo t l n h).1 ≤ e)
 | [], n, h, hn => by simp [nGo, endsS]; exact fun e => ⟨hn e, e⟩
 | s :: l, n, h, hn => by
  obtain ⟨p1, p2⟩ := nP_spec t s.from_ n h hn
  obtain ⟨q1, q2⟩ := nP_spec t s.to_ (nP1 t s.from_ n h) (nP2 t s.from_ n h) (fun e => (p2 e).1)
  obtain ⟨r1, r2⟩ := nGo_spec t l (nP1 t s.to_ (nP1 t s.from_ n h) (nP2 t s.from_ n h)) (nP2 t s.to_ (nP1 t s.from_ n h) (nP2 t s.from_ n h)) (fun e => (q2 e).1)
  simp only [nGo, endsS, List.mem_cons]
  generalize nGo t l (nP1 t s.to_ (nP1 t s.from_ n h) (nP2 t s.from_ n h)) (nP2 t s.to_ (nP1 t s.from_ n h) (nP2 t s.from_ n h)) = r at *
  generalize nP2 t s.to_ (nP1 t s.from_ n h) (nP2 t s.from_ n h) = h2 at *
  generalize nP1 t s.to_ (nP1 t s.from_ n h) (nP2 t s.from_ n h) = n2 at *
  generalize nP2 t s.from_ n h = h1 at *
  generalize nP1 t s.from_ n h = n1 at *
  constructor
  ·rw [r1, q1, p1]
   constructor
   ·rintro (((h | h) | h) | ⟨e, he, h⟩)
    ·exact .inl h
    ·exact .inr ⟨_, .inl rfl, h⟩
    ·exact .inr ⟨_, .inr (.inl rfl), h⟩
    ·exact .inr ⟨e, .inr (.inr he), h⟩
   ·rintro (h | ⟨e, rfl | rfl | he, h⟩)
    ·exact .inl (.inl (.inl h))
    ·exact .inl (.inl (.inr h))
    ·exact .inl (.inr h)
    ·exact .inr ⟨e, he, h⟩
  ·intro hr
   obtain ⟨a1, a2, a3, a4⟩ := r2 hr
   refine ⟨a1, ?_, fun hh => ?_, ?_⟩
   ·rcases a2 with a2 | ⟨a2, a2'⟩
    ·exact .inl (.inr (.inr a2))
    ·obtain ⟨b1, b2, b3, b4⟩ := q2 a2'
     rcases b2 with b2 | ⟨b2, b2'⟩
     ·exact .inl (.inr (.inl (by rw [a2, b2])))
     ·obtain ⟨c1, c2, c3, c4⟩ := p2 b2'
      rcases c2 with c2 | ⟨c2, c2'⟩
      ·exact .inl (.inl (by rw [a2, b2, c2]))
      ·exact .inr ⟨by rw [a2, b2, c2], c2'⟩
   ·have e1 : h1 = true := p1.2 (.inl hh)
    have e2 : h2 = true := q1.2 (.inl e1)
    have := (p2 e1).2.2.1 hh
    have := (q2 e2).2.2.1 e1
    have := a3 e2
    omega
   ·rintro e (rfl | rfl | he) hgt
    ·have e1 : h1 = true := p1.2 (.inr hgt)
     have e2 : h2 = true := q1.2 (.inl e1)
     have := (p2 e1).2.2.2 hgt
     have := (q2 e2).2.2.1 e1
     have := a3 e2
     omega
    ·have e2 : h2 = true := q1.2 (.inr hgt)
     have := (q2 e2).2.2.2 hgt
     have := a3 e2
     omega
    ·exact a4 e he hgt
theorem nextS_iff (l : List Span) (t : Int) : (nextS l t).2 = true ↔ ∃ e ∈ endsS l, e > t := by
 have := (nGo_spec t l 0 false (fun e => by cases e)).1
 simpa [nextS] using this
theorem nextS_spec {l : List Span} {t : Int} (h : (nextS l t).2 = true) : (nextS l t).1 > t ∧ (nextS l t).1 ∈ endsS l ∧ ∀ e ∈ endsS l, e > t → (nextS l t).1 ≤ e := by
 obtain ⟨a, b, _, d⟩ := (nGo_spec t l 0 false (fun e => by cases e)).2 h
 refine ⟨a, ?_, d⟩
 rcases b with b | ⟨_, b⟩
 ·exact b
 ·cases b
def cntS (l : List Span) (a : Int) : Nat := ((endsS l).filter fun e => decide (e > a)).length
theorem cntS_le (l : List Span) (a : Int) : cntS l a ≤ (endsS l).length := List.length_filter_le _ _
theorem cntS_zero {l : List Span} {a : Int} (h : cntS l a = 0) : (nextS l a).2 = false := by
 rw [Bool.eq_false_iff]
 intro h'
 obtain ⟨e, h1, h2⟩ := (nextS_iff l a).1 h'
 have := List.length_eq_zero_iff.1 h
 rw [List.filter_eq_nil_iff] at this
 exact this e h1 (by simpa using h2)
theorem filter_le {α : Type} {p q : α → Bool} (hpq : ∀ y, q y = true → p y = true) : ∀ l : List α, (l.filter q).length ≤ (l.filter p).length
 | [] => by simp
 | z :: l => by
  have ih := filter_le hpq l
  cases h1 : q z
  ·cases h2 : p z <;> simp [List.filter_cons, h1, h2] <;> omega
  ·simp [List.filter_cons, h1, hpq z h1, ih]
theorem filter_lt {α : Type} {p q : α → Bool} (hpq : ∀ y, q y = true → p y = true) : ∀ {l : List α} {x : α}, x ∈ l → p x = true → q x = false → (l.filter q).length < (l.filter p).length
 | [], x, hx, _, _ => by cases hx
 | y :: l, x, hx, hp, hq => by
  rcases List.mem_cons.1 hx with rfl | hx
  ·have := filter_le hpq l
   simp [List.filter_cons, hp, hq]
   omega
  ·have ih := filter_lt hpq hx hp hq
   cases h1 : q y
   ·cases h2 : p y <;> simp [List.filter_cons, h1, h2] <;> omega
   ·simp [List.filter_cons, h1, hpq y h1, ih]
theorem cntS_next {l : List Span} {a : Int} (h : (nextS l a).2 = true) : cntS l (nextS l a).1 < cntS l a := by
 obtain ⟨h1, h2, h3⟩ := nextS_spec h
 exact filter_lt (fun y hy => by simp at hy ⊢; omega) h2 (by simpa using h1) (by simp)
theorem leastS_go : ∀ (l : List Span) (n : Int), (lGo l n = n ∨ ∃ s ∈ l, lGo l n = s.from_) ∧ lGo l n ≤ n ∧ ∀ s ∈ l, lGo l n ≤ s.from_
 | [], n => by simp [lGo]
 | s :: l, n => by
  unfold lGo
  by_cases h : s.from_ < n
  ·simp only [h, decide_true, cond_true]
   obtain ⟨a, b, c⟩ := leastS_go l s.from_
   refine ⟨.inr ?_, by omega, fun x hx => ?_⟩
   ·rcases a with a | ⟨x, hx, a⟩
    ·exact ⟨s, by simp, a⟩
    ·exact ⟨x, by simp [hx], a⟩
   ·rcases List.mem_cons.1 hx with rfl | hx
    ·exact b
    ·exact c x hx
  ·simp only [h, decide_false, cond_false]
   obtain ⟨a, b, c⟩ := leastS_go l n
   refine ⟨?_, b, fun x hx => ?_⟩
   ·rcases a with a | ⟨x, hx, a⟩
    ·exact .inl a
    ·exact .inr ⟨x, by simp [hx], a⟩
   ·rcases List.mem_cons.1 hx with rfl | hx
    ·omega
    ·exact c x hx
theorem pieceS_nil (l : List Span) (a b : Int) : pieceS l [] a b = cond (decide (weightI l a < 0)) [] [⟨a, b, (l.getD (weightI l a).toNat span0).mode, 0⟩] := by
 simp [pieceS]
theorem pieceS_snoc (l q : List Span) (p : Span) (a b : Int) : pieceS l (q ++ [p]) a b = cond (decide (weightI l a < 0)) (q ++ [p])
  (cond (p.to_ == a && p.mode == (l.getD (weightI l a).toNat span0).mode) (q ++ [⟨p.from_, b, p.mode, p.prio⟩]) (q ++ [p] ++ [⟨a, b, (l.getD (weightI l a).toNat span0).mode, 0⟩])) := by
 simp [pieceS]
theorem or_imp' {g h : Bool} (hh : h = true → g = true) : (g || !h) = true := by cases g <;> cases h <;> simp at hh ⊢
end Go.Proofs.YtfhepbbkggdlcaaGreatDoor.Px


namespace Go.Proofs.YtfhepbbkggdlcaaGreatDoor.Px
open Go
def checkG (z : Zone) (t : Int) : Int := cond (zone_Check z != 0) (zone_Check z) (cond (!inB t 576000 5258879999) 63 0)
def toldG (z : Zone) (t : Int) : Int := t + z.base + shiftG z t
def localG (z : Zone) (t : Int) : Int × Int × Int := cond (checkG z t != 0) (0, 0, checkG z t) (toldG z t / 1440, toldG z t % 1440, 0)
def winSpans (c : Config) (d : Int) : List Window → List Span
 | [] => []
 | w :: ws => cond (spanG c w d).2.1 ((spanG c w d).1 :: winSpans c d ws) (winSpans c d ws)
def dayGo (c : Config) : Nat → Int → List Span
 | 0, _ => []
 | k + 1, d => winSpans c d c.windows ++ dayGo c k (d + 1)
def daysIn (a b : Int) : Bool := decide (402 ≤ a) && (decide (b ≤ 3651990) && (decide (a ≤ b) && decide (b - a ≤ 30)))
def spansG (c : Config) (a b : Int) : List Span × Int := cond (config_Check c != 0) ([], config_Check c) (cond (daysIn a b) (dayGo c (b - a + 1).toNat a, 0) ([], 140))
def aboutG (c : Config) (d : Int) : List Span × Int := cond ((spansG c (d - 9) (d + 1)).2 != 0) ([], (spansG c (d - 9) (d + 1)).2) (span_Resolve (spansG c (d - 9) (d + 1)).1)
def tabRow (c : Config) (d : Int) : List Span × Int := cond (config_Check c != 0) ([], config_Check c) (cond (decide (d < 411) || decide (d > 3651988)) ([], 140)
 (cond ((aboutG c d).2 != 0) ([], (aboutG c d).2) (cutL (aboutG c d).1 (momG c.zone d 0).1 (momG c.zone (d + 1) 0).1, 0)))
def servedG (c : Config) (t : Int) : Bool := inB t 576000 5258879999 && ((ofG ((t + c.zone.base) / 1440)).2 == 0 && (decide (1900 ≤ (ofG ((t + c.zone.base) / 1440)).1.year) && decide ((ofG ((t + c.zone.base) / 1440)).1.year ≤ 2399)))
def atG (c : Config) (t : Int) : Span × Bool := findS (aboutG c (localG c.zone t).1).1 t
def modeG (c : Config) (t : Int) : Int × Int × Int := cond (config_Check c != 0) (0, 0, config_Check c) (cond (servedG c t) (cond (atG c t).2 ((atG c t).1.mode, (atG c t).1.from_, 0) (0, 0, 0)) (3, 0, 0))
def noTop (l : List Window) : Bool := l.all fun w => w.prio != 99
def small2C (c : Config) (_ : Int) : Bool := smallC c
def aboutOk (c : Config) (d : Int) : Bool := smallC c && big d
def small3C (c : Config) (_ _ : Int) : Bool := smallC c
def servedOk (c : Config) (_ : Int) : Bool := config_Check c == 0
def fewDays (a b : Int) : Bool := decide (402 ≤ a) && (decide (b ≤ 3651990) && decide (b - a ≤ 30))
end Go.Proofs.YtfhepbbkggdlcaaGreatDoor.Px


namespace Go.Proofs.YtfhepbbkggdlcaaGreatDoor.Px
open Go
theorem win_length (c : Config) (d : Int) : ∀ l : List Window, (winSpans c d l).length ≤ l.length
 | [] => Nat.le_refl _
 | w :: l => by
  have := win_length c d l
  unfold winSpans
  cases (spanG c w d).2.1
  ·rw [cond_false, List.length_cons]; omega
  ·rw [cond_true, List.length_cons, List.length_cons]; omega
theorem day_length (c : Config) : ∀ (k : Nat) (d : Int), (dayGo c k d).length ≤ k * c.windows.length
 | 0, _ => by simp [dayGo]
 | k + 1, d => by
  have h1 := win_length c d c.windows
  have h2 := day_length c k (d + 1)
  simp only [dayGo, List.length_append]
  rw [Nat.add_mul, Nat.one_mul]
  omega
theorem win_few {c : Config} (h : config_Check c = 0) : c.windows.length ≤ 16 := by
 unfold config_Check orE at h
 cases h1 : config_size c == 0
 ·rw [h1] at h; simp only [cond_false] at h; rw [h] at h1; cases h1
 rw [h1, cond_true] at h
 cases h2 : config_stops c == 0
 ·rw [h2] at h; simp only [cond_false] at h; rw [h] at h2; cases h2
 rw [h2, cond_true] at h
 cases h3 : config_times c == 0
 ·rw [h3] at h; simp only [cond_false] at h; rw [h] at h3; cases h3
 rw [h3, cond_true] at h
 cases h4 : zone_Check c.zone == 0
 ·rw [h4] at h; simp only [cond_false] at h; rw [h] at h4; cases h4
 rw [h4, cond_true] at h
 cases h5 : sunset_Check c.sun == 0
 ·rw [h5] at h; simp only [cond_false] at h; rw [h] at h5; cases h5
 rw [h5, cond_true] at h
 unfold config_windows at h
 by_cases hl : c.windows.length ≤ 16
 ·exact hl
 ·rw [decide_eq_true (by omega : c.windows.length > 16)] at h
  cases h
theorem days_in {a b : Int} (h : daysIn a b = true) : 402 ≤ a ∧ b ≤ 3651990 ∧ a ≤ b ∧ b - a ≤ 30 := by
 simpa only [daysIn, Bool.and_eq_true, decide_eq_true_eq] using h
theorem spans_length (c : Config) (a b : Int) : (spansG c a b).1.length ≤ 496 := by
 unfold spansG
 cases hc : config_Check c != 0 with
 | true => simp
 | false =>
  cases hd : daysIn a b with
  | false => simp
  | true =>
   obtain ⟨h1, h2, h3, h4⟩ := days_in hd
   have hw := win_few (show config_Check c = 0 by simpa using hc)
   have := day_length c (b - a + 1).toNat a
   have h5 : (b - a + 1).toNat * c.windows.length ≤ 31 * 16 := Nat.mul_le_mul (by omega) hw
   rw [cond_false, cond_true]
   show (dayGo c (b - a + 1).toNat a).length ≤ 496
   omega
theorem resolve_length (l : List Span) : (span_Resolve l).1.length ≤ 1000 := by
 unfold span_Resolve
 cases hm : mayS l with
 | false => simp
 | true =>
  have := resolveS_length l
  simp only [mayS, Bool.and_eq_true, decide_eq_true_eq] at hm
  rw [cond_true]
  show (resolveS l).length ≤ 1000
  omega
theorem about_length (c : Config) (d : Int) : (aboutG c d).1.length ≤ 1000 := by
 unfold aboutG
 cases (spansG c (d - 9) (d + 1)).2 != 0
 ·exact resolve_length _
 ·simp
theorem before_1900 : beforeG 1900 = 693595 := by decide
theorem before_2400 : beforeG 2400 = 876216 := by decide
theorem served_iff {c : Config} {t : Int} (h : config_Check c = 0) : servedG c t = true ↔ 998778240 - c.zone.base ≤ t ∧ t < 1261752480 - c.zone.base := by
 obtain ⟨z1, _⟩ := zone_facts (check_parts h).1
 unfold servedG
 simp only [Bool.and_eq_true, inB_iff, beq_iff_eq, decide_eq_true_eq]
 generalize hn : (t + c.zone.base) / 1440 = n
 constructor
 ·rintro ⟨⟨h1, h2⟩, h3, h4, h5⟩
  have hd : dayOk n = true := by
   cases hd : dayOk n with
   | true => rfl
   | false =>
    exfalso
    unfold ofG at h3
    rw [show (decide (n < 1) || decide (n > 3652059)) = true by
     have hh : ¬ (1 ≤ n ∧ n ≤ 3652059) := fun hh => by rw [dayOk_iff.2 hh] at hd; cases hd
     rw [Bool.or_eq_true, decide_eq_true_eq, decide_eq_true_eq]
     omega] at h3
    cases h3
  have hd' := dayOk_iff.1 hd
  obtain ⟨y1, y2, l1, l2, e1, e2⟩ := of_spec hd'.1 hd'.2
  have e : ofG n = (⟨yrG n, ((monG n : Nat) : Int), lfG n - sumG (yrG n) (monG n - 1) + 1⟩, 0) := by
   unfold ofG
   rw [show (decide (n < 1) || decide (n > 3652059)) = false by simp; omega]
   rfl
  rw [e] at h4 h5
  dsimp only at h4 h5
  have a := before_mono (y := 1900) (z := yrG n) (by omega) h4
  have b := before_mono (y := yrG n + 1) (z := 2400) (by omega) (by omega)
  rw [before_1900] at a
  rw [before_2400] at b
  omega
 ·rintro ⟨h1, h2⟩
  have hd : dayOk n = true := dayOk_iff.2 (by omega)
  obtain ⟨y1, y2, l1, l2, e1, e2⟩ := of_spec (n := n) (by omega) (by omega)
  have e : ofG n = (⟨yrG n, ((monG n : Nat) : Int), lfG n - sumG (yrG n) (monG n - 1) + 1⟩, 0) := by
   unfold ofG
   rw [show (decide (n < 1) || decide (n > 3652059)) = false by simp; omega]
   rfl
  rw [e]
  dsimp only
  refine ⟨⟨by omega, by omega⟩, rfl, ?_, ?_⟩
  ·by_cases hy : 1900 ≤ yrG n
   ·exact hy
   ·have := before_mono (y := yrG n + 1) (z := 1900) (by omega) (by omega)
    rw [before_1900] at this
    omega
  ·by_cases hy : yrG n ≤ 2399
   ·exact hy
   ·have := before_mono (y := 2400) (z := yrG n) (by omega) (by omega)
    rw [before_2400] at this
    omega
theorem day_none {c : Config} (h : c.windows = []) : ∀ (k : Nat) (d : Int), dayGo c k d = []
 | 0, _ => rfl
 | k + 1, d => by
  unfold dayGo
  rw [day_none h k, h]
  rfl
theorem mode_none {c : Config} {t : Int} (hc : config_Check c = 0) (h : c.windows = []) (hs : servedG c t = true) : modeG c t = (0, 0, 0) := by
 have e : ∀ d, (aboutG c d).1 = [] := by
  intro d
  unfold aboutG spansG
  rw [hc]
  cases daysIn (d - 9) (d + 1) with
  | false => rfl
  | true =>
   rw [day_none h]
   rfl
 unfold modeG atG
 rw [hc, hs, e]
 rfl
theorem mode_ok {c : Config} (t : Int) (hc : config_Check c = 0) : (modeG c t).2.2 = 0 := by
 unfold modeG
 rw [hc]
 cases servedG c t
 ·rfl
 ·cases (atG c t).2 <;> rfl
theorem mode_far {c : Config} {t : Int} (hc : config_Check c = 0) (hs : servedG c t = false) : modeG c t = (3, 0, 0) := by
 unfold modeG
 rw [hc, hs]
 rfl
end Go.Proofs.YtfhepbbkggdlcaaGreatDoor.Px
