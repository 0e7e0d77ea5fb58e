/- Spans, as plain functions. -/
import Derived.Test.YtfhepbbkggdlcaaGreatDoorPxApi0
import Derived.Test.YtfhepbbkggdlcaaGreatDoorPxSpecSort
import Derived.Test.YtfhepbbkggdlcaaGreatDoorPxIdx
import Derived.Test.YtfhepbbkggdlcaaGreatDoorPxSpecFeast
set_option linter.unusedVariables false
set_option linter.unusedSimpArgs false
namespace Go.Proofs.YtfhepbbkggdlcaaGreatDoor.Px
open Go
def span0 : Span := ⟨0, 0, 0, 0⟩
def inS (s : Span) (t : Int) : Bool := decide (s.from_ ≤ t) && decide (t < s.to_)
def lessS (a b : Span) : Bool := decide (a.prio < b.prio) || (a.prio == b.prio && decide (a.from_ < b.from_))
def smallS (l : List Span) : Bool := decide (l.length ≤ 1048576)
def anyIn (l : List Span) (t : Int) : Bool := l.any fun s => inS s t
def atIdx (l : List Span) (t : Int) : Int := (l.findIdx fun s => inS s t : Nat)
def findS (l : List Span) (t : Int) : Span × Bool := cond (anyIn l t) (l.getD (atIdx l t).toNat span0, true) (span0, false)
def smallST (l : List Span) (_ : Int) : Bool := smallS l
def clipS (s : Span) (a b : Int) : Span := ⟨cond (decide (a > s.from_)) a s.from_, cond (decide (b < s.to_)) b s.to_, s.mode, s.prio⟩
def cutL : List Span → Int → Int → List Span
 | [], _, _ => []
 | s :: l, a, b => cond (decide ((clipS s a b).from_ < (clipS s a b).to_)) (clipS s a b :: cutL l a b) (cutL l a b)
def smallSTT (l : List Span) (_ _ : Int) : Bool := smallS l
def oddS (s : Span) : Bool := decide (s.from_ ≥ s.to_)
def oddIdx (l : List Span) : Int := (l.findIdx oddS : Nat)
def mayS (l : List Span) : Bool := l.all (fun s => !oddS s) && decide (l.length ≤ 500)
def wGo (L : List Span) (t : Int) : List Span → Int → Int → Int
 | [], _, best => best
 | s :: l, i, best => wGo L t l (i + 1) (cond (inS s t && (decide (best < 0) || !lessS s (L.getD best.toNat span0))) i best)
def weightI (l : List Span) (t : Int) : Int := wGo l t l 0 (-1)
def endsS : List Span → List Int
 | [] => []
 | s :: l => s.from_ :: s.to_ :: endsS l
def piecesS (l : List Span) : List Int := compI (sortI (endsS l))
def pieceS (l out : List Span) (a b : Int) : List Span :=
 cond (decide (weightI l a < 0)) out
  (cond (decide (out.length > 0) && ((out.getD (out.length - 1) span0).to_ == a && (out.getD (out.length - 1) span0).mode == (l.getD (weightI l a).toNat span0).mode))
   (out.set (out.length - 1) ⟨(out.getD (out.length - 1) span0).from_, b, (out.getD (out.length - 1) span0).mode, (out.getD (out.length - 1) span0).prio⟩)
   (out ++ [⟨a, b, (l.getD (weightI l a).toNat span0).mode, 0⟩]))
def resGo (l : List Span) : List Int → List Span → List Span
 | a :: b :: es, out => resGo l (b :: es) (pieceS l out a b)
 | _, out => out
def resolveS (l : List Span) : List Span := resGo l (piecesS l) []
def span_Resolve (l : List Span) : List Span × Int := cond (mayS l) (resolveS l, 0) ([], 130)
def modesL (l : List Span) : List Span := l.map fun s => { s with prio := 0 }
end Go.Proofs.YtfhepbbkggdlcaaGreatDoor.Px


namespace Go.Proofs.YtfhepbbkggdlcaaGreatDoor.Px
open Go
theorem wGo_range (L : List Span) (t : Int) : ∀ (l : List Span) (i : Nat) (best : Int), -1 ≤ best → best < i → -1 ≤ wGo L t l i best ∧ wGo L t l i best < ((i + l.length : Nat) : Int)
 | [], i, best, h1, h2 => by simp [wGo]; omega
 | s :: l, i, best, h1, h2 => by
  unfold wGo
  have e : (i : Int) + 1 = ((i + 1 : Nat) : Int) := by simp
  rw [e]
  cases hc : (inS s t && (decide (best < 0) || !lessS s (L.getD best.toNat span0)))
  ·have := wGo_range L t l (i + 1) best h1 (by omega)
   simp only [cond_false, List.length_cons]
   refine ⟨this.1, ?_⟩
   have := this.2
   omega
  ·have := wGo_range L t l (i + 1) i (by omega) (by omega)
   simp only [cond_true, List.length_cons]
   refine ⟨this.1, ?_⟩
   have := this.2
   omega
theorem weightI_range (l : List Span) (t : Int) : -1 ≤ weightI l t ∧ weightI l t < (l.length : Int) := by
 have := wGo_range l t l 0 (-1) (by omega) (by omega)
 simpa [weightI] using this
theorem endsS_length : ∀ l : List Span, (endsS l).length = 2 * l.length
 | [] => rfl
 | s :: l => by simp [endsS, endsS_length l]; omega
theorem sortI_length (l : List Int) : (sortI l).length = l.length := (sortI_perm l).length_eq
theorem compGo_length : ∀ (l : List Int) (o : Option Int), (compGo o l).length ≤ l.length
 | [], o => by cases o <;> simp [compGo]
 | x :: l, none => by simp [compGo, compGo_length l]
 | x :: l, some p => by
  unfold compGo
  have := compGo_length l (some x)
  cases x == p <;> simp <;> omega
theorem piecesS_length (l : List Span) : (piecesS l).length ≤ 2 * l.length := by
 have := compGo_length (sortI (endsS l)) none
 rw [sortI_length, endsS_length] at this
 exact this
theorem pieceS_length (l out : List Span) (a b : Int) : (pieceS l out a b).length ≤ out.length + 1 := by
 unfold pieceS
 cases decide (weightI l a < 0)
 ·simp only [cond_false]
  cases (decide (out.length > 0) && ((out.getD (out.length - 1) span0).to_ == a && (out.getD (out.length - 1) span0).mode == (l.getD (weightI l a).toNat span0).mode)) <;> simp
 ·simp
theorem resGo_length (l : List Span) : ∀ (es : List Int) (out : List Span), (resGo l es out).length ≤ out.length + es.length
 | [], out => by simp [resGo]
 | [a], out => by simp [resGo]
 | a :: b :: es, out => by
  have := resGo_length l (b :: es) (pieceS l out a b)
  have := pieceS_length l out a b
  simp only [resGo, List.length_cons] at *
  omega
theorem resolveS_length (l : List Span) : (resolveS l).length ≤ 2 * l.length := by
 have := resGo_length l (piecesS l) []
 have := piecesS_length l
 simp [resolveS] at *
 omega
theorem cutL_length : ∀ (l : List Span) (a b : Int), (cutL l a b).length ≤ l.length
 | [], _, _ => by simp [cutL]
 | s :: l, a, b => by
  unfold cutL
  have := cutL_length l a b
  cases decide ((clipS s a b).from_ < (clipS s a b).to_) <;> simp <;> omega
theorem atIdx_lt {l : List Span} {t : Int} (h : anyIn l t = true) : 0 ≤ atIdx l t ∧ atIdx l t < (l.length : Int) := by
 unfold anyIn at h
 unfold atIdx
 rw [List.any_eq_true] at h
 have := List.findIdx_lt_length_of_exists (p := fun s => inS s t) (by simpa using h)
 omega
theorem pieceS_nil (l : List Span) (a b : Int) : pieceS l [] a b = cond (decide (weightI l a < 0)) [] [⟨a, b, (l.getD (weightI l a).toNat span0).mode, 0⟩] := by
 simp [pieceS]
theorem pieceS_snoc (l q : List Span) (p : Span) (a b : Int) : pieceS l (q ++ [p]) a b = cond (decide (weightI l a < 0)) (q ++ [p])
  (cond (p.to_ == a && p.mode == (l.getD (weightI l a).toNat span0).mode) (q ++ [⟨p.from_, b, p.mode, p.prio⟩]) (q ++ [p] ++ [⟨a, b, (l.getD (weightI l a).toNat span0).mode, 0⟩])) := by
 simp [pieceS]
end Go.Proofs.YtfhepbbkggdlcaaGreatDoor.Px


namespace Go.Proofs.YtfhepbbkggdlcaaGreatDoor.Px
open Go
def modeAt : List Span → Int → Option Int
 | [], _ => none
 | s :: l, t => cond (inS s t) (some s.mode) (modeAt l t)
def Beh (a b : Span) : Prop := a.to_ ≤ b.from_ ∧ (a.to_ = b.from_ → a.mode ≠ b.mode)
structure Norm (l : List Span) : Prop where
 one : ∀ s ∈ l, s.from_ < s.to_ ∧ s.prio = 0
 two : l.Pairwise Beh
theorem inS_iff {s : Span} {t : Int} : inS s t = true ↔ s.from_ ≤ t ∧ t < s.to_ := by simp [inS]
theorem inS_not {s : Span} {t : Int} : inS s t = false ↔ ¬ (s.from_ ≤ t ∧ t < s.to_) := by rw [← inS_iff]; simp
theorem modeAt_none {l : List Span} {t : Int} (h : ∀ s ∈ l, inS s t = false) : modeAt l t = none := by
 induction l with
 | nil => rfl
 | cons s l ih => simp only [modeAt, h s (by simp), cond_false]; exact ih fun x hx => h x (by simp [hx])
theorem modeAt_some {l : List Span} {t m : Int} (h : modeAt l t = some m) : ∃ s ∈ l, inS s t = true ∧ s.mode = m := by
 induction l with
 | nil => cases h
 | cons s l ih =>
  unfold modeAt at h
  cases hs : inS s t
  ·rw [hs, cond_false] at h
   obtain ⟨x, hx, h1, h2⟩ := ih h
   exact ⟨x, by simp [hx], h1, h2⟩
  ·rw [hs, cond_true] at h
   exact ⟨s, by simp, hs, by simpa using h⟩
theorem modeAt_append (l r : List Span) (t : Int) : modeAt (l ++ r) t = (modeAt l t).or (modeAt r t) := by
 induction l with
 | nil => simp [modeAt]
 | cons s l ih =>
  simp only [List.cons_append, modeAt, ih]
  cases inS s t <;> simp
theorem Norm.tail {s : Span} {l : List Span} (h : Norm (s :: l)) : Norm l := ⟨fun x hx => h.one x (List.mem_cons_of_mem _ hx), (List.pairwise_cons.1 h.two).2⟩
theorem Norm.nil : Norm [] := ⟨fun _ h => (by cases h), List.Pairwise.nil⟩
theorem Norm.beh {s : Span} {l : List Span} (h : Norm (s :: l)) : ∀ x ∈ l, Beh s x := (List.pairwise_cons.1 h.two).1
theorem Norm.uniq : ∀ {l r : List Span}, Norm l → Norm r → (∀ t, modeAt l t = modeAt r t) → l = r
 | [], [], _, _, _ => rfl
 | [], s :: r, _, hr, h => by
  have h1 := (hr.one s (by simp)).1
  have := h s.from_
  have hi : inS s s.from_ = true := inS_iff.2 ⟨Int.le_refl _, h1⟩
  simp [modeAt, hi] at this
 | s :: l, [], hl, _, h => by
  have h1 := (hl.one s (by simp)).1
  have := h s.from_
  have hi : inS s s.from_ = true := inS_iff.2 ⟨Int.le_refl _, h1⟩
  simp [modeAt, hi] at this
 | s :: l, u :: r, hl, hr, h => by
  have hs := hl.one s (by simp)
  have hu := hr.one u (by simp)
  have early : ∀ {s : Span} {l : List Span}, Norm (s :: l) → ∀ t, t < s.from_ → modeAt (s :: l) t = none := by
   intro s l hn t ht
   refine modeAt_none fun x hx => inS_not.2 fun hx' => ?_
   rcases List.mem_cons.1 hx with rfl | hx
   ·omega
   ·have := (hn.beh x hx).1
    have := (hn.one s (by simp)).1
    omega
  have head : ∀ {s : Span} {l : List Span} {t : Int}, s.from_ ≤ t → t < s.to_ → modeAt (s :: l) t = some s.mode := by
   intro s l t h1 h2
   simp [modeAt, inS_iff.2 ⟨h1, h2⟩]
  have e1 : s.from_ = u.from_ := by
   rcases Int.lt_trichotomy s.from_ u.from_ with e | e | e
   ·have := h s.from_
    rw [early hr _ e, head (Int.le_refl _) hs.1] at this
    cases this
   ·exact e
   ·have := h u.from_
    rw [early hl _ e, head (Int.le_refl _) hu.1] at this
    cases this
  have e2 : s.mode = u.mode := by
   have := h s.from_
   rw [head (Int.le_refl _) hs.1, head (by omega) (by omega)] at this
   simpa using this
  have ends : ∀ {s u : Span} {l r : List Span}, Norm (s :: l) → Norm (u :: r) → s.from_ = u.from_ → s.mode = u.mode → (∀ t, modeAt (s :: l) t = modeAt (u :: r) t) → ¬ s.to_ < u.to_ := by
   intro s u l r hl hr e1 e2 h hlt
   have h1 := (hl.one s (by simp)).1
   have := h s.to_
   rw [head (s := u) (by omega) hlt] at this
   obtain ⟨x, hx, i1, i2⟩ := modeAt_some this
   rw [inS_iff] at i1
   rcases List.mem_cons.1 hx with rfl | hx
   ·omega
   ·obtain ⟨b1, b2⟩ := hl.beh x hx
    exact b2 (by omega) (by rw [e2, i2])
  have e3 : s.to_ = u.to_ := by
   have a := ends hl hr e1 e2 h
   have b := ends hr hl e1.symm e2.symm (fun t => (h t).symm)
   omega
  have e4 : s = u := by
   obtain ⟨a, b, c, d⟩ := s
   obtain ⟨a', b', c', d'⟩ := u
   simp only at *
   rw [e1, e2, e3, hs.2, hu.2]
  subst e4
  congr 1
  refine Norm.uniq hl.tail hr.tail fun t => ?_
  by_cases ht : t < s.to_
  ·rw [modeAt_none fun x hx => inS_not.2 fun h => by have := (hl.beh x hx).1; omega, modeAt_none fun x hx => inS_not.2 fun h => by have := (hr.beh x hx).1; omega]
  ·have := h t
   have hi : inS s t = false := inS_not.2 fun h => by omega
   simpa [modeAt, hi] using this
def topGo (t : Int) : List Span → Option Span → Option Span
 | [], b => b
 | s :: l, b => topGo t l (cond (inS s t && (match b with
  | none => true
  | some x => !lessS s x)) (some s) b)
def topMode (l : List Span) (t : Int) : Option Int := (topGo t l none).map (·.mode)
def atPl (L : List Span) (i : Int) : Option Span := cond (decide (i < 0)) none (some (L.getD i.toNat span0))
theorem wGo_top (t : Int) : ∀ (suf pre : List Span) (best : Int), -1 ≤ best → best < (pre.length : Int) → atPl (pre ++ suf) (wGo (pre ++ suf) t suf (pre.length : Int) best) = topGo t suf (atPl (pre ++ suf) best)
 | [], pre, best, _, _ => by simp [wGo, topGo]
 | s :: suf, pre, best, h1, h2 => by
  unfold wGo topGo
  have e : ((pre.length : Nat) : Int) + 1 = (((pre ++ [s]).length : Nat) : Int) := by simp
  have ha : pre ++ s :: suf = (pre ++ [s]) ++ suf := by simp
  have hm : (match atPl (pre ++ s :: suf) best with
   | none => true
   | some x => !lessS s x) = (decide (best < 0) || !lessS s ((pre ++ s :: suf).getD best.toNat span0)) := by
   unfold atPl
   cases decide (best < 0) <;> simp
  rw [hm, e]
  cases (inS s t && (decide (best < 0) || !lessS s ((pre ++ s :: suf).getD best.toNat span0)))
  ·rw [cond_false, cond_false]
   have := wGo_top t suf (pre ++ [s]) best h1 (by simp; omega)
   rw [← ha] at this
   exact this
  ·rw [cond_true, cond_true]
   have := wGo_top t suf (pre ++ [s]) ((pre.length : Nat) : Int) (by omega) (by simp; omega)
   rw [← ha] at this
   rw [this]
   congr 1
   have hd : decide (((pre.length : Nat) : Int) < 0) = false := by simp
   unfold atPl
   rw [hd]
   simp
theorem weightI_top (l : List Span) (t : Int) : atPl l (weightI l t) = topGo t l none := by
 have := wGo_top t l [] (-1) (by omega) (by simp)
 have h2 : atPl l (-1) = none := rfl
 rw [List.nil_append, h2] at this
 exact this
theorem topMode_w (l : List Span) (t : Int) : topMode l t = cond (decide (weightI l t < 0)) none (some (l.getD (weightI l t).toNat span0).mode) := by
 unfold topMode
 rw [← weightI_top]
 unfold atPl
 cases decide (weightI l t < 0) <;> rfl
theorem topGo_none {t : Int} : ∀ {l : List Span} (b : Option Span), (∀ s ∈ l, inS s t = false) → topGo t l b = b
 | [], _, _ => rfl
 | s :: l, b, h => by
  unfold topGo
  rw [h s (by simp), Bool.false_and, cond_false]
  exact topGo_none b fun x hx => h x (by simp [hx])
theorem topGo_congr {t u : Int} : ∀ {l : List Span} (b : Option Span), (∀ s ∈ l, inS s t = inS s u) → topGo t l b = topGo u l b
 | [], _, _ => rfl
 | s :: l, b, h => by
  unfold topGo
  rw [h s (by simp)]
  exact topGo_congr _ fun x hx => h x (by simp [hx])
theorem Norm.apart {l : List Span} (h : Norm l) : l.Pairwise fun a b => a.to_ ≤ b.from_ := h.two.imp fun h => h.1
theorem comp_mem : ∀ (l : List Int) (p : Int), l.Pairwise (· ≤ ·) → (∀ y ∈ l, p ≤ y) → (∀ x, x ∈ compGo (some p) l ↔ x ∈ l ∧ x ≠ p) ∧ (compGo (some p) l).Pairwise (· < ·) ∧ ∀ x ∈ compGo (some p) l, p < x
 | [], p, _, _ => by simp [compGo]
 | x :: l, p, h1, h2 => by
  rw [List.pairwise_cons] at h1
  obtain ⟨a, b, c⟩ := comp_mem l x h1.2 h1.1
  have hpx := h2 x (by simp)
  unfold compGo
  by_cases e : x = p
  ·subst e
   simp only [beq_self_eq_true, cond_true]
   refine ⟨fun z => ?_, b, c⟩
   rw [a, List.mem_cons]
   constructor
   ·rintro ⟨h, h'⟩; exact ⟨.inr h, h'⟩
   ·rintro ⟨h | h, h'⟩
    ·exact absurd h h'
    ·exact ⟨h, h'⟩
  ·have : (x == p) = false := by simpa using e
   rw [this, cond_false]
   refine ⟨fun z => ?_, List.pairwise_cons.2 ⟨c, b⟩, fun z hz => ?_⟩
   ·rw [List.mem_cons, List.mem_cons, a]
    constructor
    ·rintro (rfl | ⟨h, h'⟩)
     ·exact ⟨.inl rfl, e⟩
     ·have := h1.1 z h
      exact ⟨.inr h, by omega⟩
    ·rintro ⟨rfl | h, h'⟩
     ·exact .inl rfl
     ·by_cases hz : z = x
      ·exact .inl hz
      ·exact .inr ⟨h, hz⟩
   ·rcases List.mem_cons.1 hz with rfl | hz
    ·omega
    ·have := c z hz
     omega
theorem piecesS_spec (l : List Span) : (∀ x, x ∈ piecesS l ↔ x ∈ endsS l) ∧ (piecesS l).Pairwise (· < ·) := by
 have hs := sortI_sorted (endsS l)
 have hm : ∀ x, x ∈ sortI (endsS l) ↔ x ∈ endsS l := fun x => (sortI_perm _).mem_iff
 unfold piecesS compI
 cases h : sortI (endsS l) with
 | nil =>
  rw [h] at hm
  exact ⟨fun x => by rw [← hm]; simp [compGo], List.Pairwise.nil⟩
 | cons y r =>
  rw [h] at hs hm
  rw [List.pairwise_cons] at hs
  obtain ⟨a, b, c⟩ := comp_mem r y hs.2 hs.1
  refine ⟨fun x => ?_, List.pairwise_cons.2 ⟨c, b⟩⟩
  rw [← hm]
  show x ∈ y :: compGo (some y) r ↔ _
  rw [List.mem_cons, List.mem_cons, a]
  constructor
  ·rintro (h | ⟨h, _⟩)
   ·exact .inl h
   ·exact .inr h
  ·rintro (h | h)
   ·exact .inl h
   ·by_cases e : x = y
    ·exact .inl e
    ·exact .inr ⟨h, e⟩
theorem ends_mem {l : List Span} {e : Int} : e ∈ endsS l ↔ ∃ s ∈ l, e = s.from_ ∨ e = s.to_ := by
 induction l with
 | nil => simp [endsS]
 | cons s l ih =>
  simp only [endsS, List.mem_cons, ih]
  constructor
  ·rintro (h | h | ⟨x, hx, h⟩)
   ·exact ⟨s, .inl rfl, .inl h⟩
   ·exact ⟨s, .inl rfl, .inr h⟩
   ·exact ⟨x, .inr hx, h⟩
  ·rintro ⟨x, rfl | hx, h⟩
   ·rcases h with h | h
    ·exact .inl h
    ·exact .inr (.inl h)
   ·exact .inr (.inr ⟨x, hx, h⟩)
theorem inS_same {l : List Span} {a t : Int} (h : ∀ e ∈ endsS l, ¬ (a < e ∧ e ≤ t)) (hat : a ≤ t) : ∀ s ∈ l, inS s t = inS s a := by
 intro s hs
 have h1 := h s.from_ (ends_mem.2 ⟨s, hs, .inl rfl⟩)
 have h2 := h s.to_ (ends_mem.2 ⟨s, hs, .inr rfl⟩)
 rw [Bool.eq_iff_iff, inS_iff, inS_iff]
 omega
theorem topMode_same {l : List Span} {a t : Int} (h : ∀ e ∈ endsS l, ¬ (a < e ∧ e ≤ t)) (hat : a ≤ t) : topMode l t = topMode l a := by
 unfold topMode
 rw [topGo_congr none (inS_same h hat)]
structure SoFar (l out : List Span) (a : Int) : Prop where
 norm : Norm out
 le : ∀ s ∈ out, s.to_ ≤ a
 modes : ∀ t, t < a → modeAt out t = topMode l t
theorem modeAt_one (s : Span) (t : Int) : modeAt [s] t = cond (inS s t) (some s.mode) none := rfl
theorem SoFar.next {l out : List Span} {a b : Int} (h : SoFar l out a) (hab : a < b) (hb : ∀ e ∈ endsS l, a < e → b ≤ e) : SoFar l (pieceS l out a b) b := by
 have same : ∀ t, a ≤ t → t < b → topMode l t = topMode l a := fun t h1 h2 => topMode_same (fun e he hh => by have := hb e he hh.1; omega) h1
 have none' : ∀ t, a ≤ t → modeAt out t = none := fun t ht => modeAt_none fun s hs => inS_not.2 fun hh => by have := h.le s hs; omega
 have hw := topMode_w l a
 cases hd : decide (weightI l a < 0) with
 | true =>
  rw [hd, cond_true] at hw
  have e : pieceS l out a b = out := by unfold pieceS; rw [hd]; rfl
  rw [e]
  refine ⟨h.norm, fun s hs => by have := h.le s hs; omega, fun t ht => ?_⟩
  by_cases hta : t < a
  ·exact h.modes t hta
  ·rw [none' t (by omega), same t (by omega) ht, hw]
 | false =>
  rw [hd, cond_false] at hw
  generalize hm : (l.getD (weightI l a).toNat span0).mode = m at hw
  have app : (∀ s ∈ out, s.to_ = a → s.mode ≠ m) → SoFar l (out ++ [⟨a, b, m, 0⟩]) b := by
   intro hno
   refine ⟨⟨fun s hs => ?_, ?_⟩, fun s hs => ?_, fun t ht => ?_⟩
   ·rcases List.mem_append.1 hs with hs | hs
    ·exact h.norm.one s hs
    ·rw [List.mem_singleton] at hs
     subst hs
     exact ⟨hab, rfl⟩
   ·rw [List.pairwise_append]
    refine ⟨h.norm.two, List.pairwise_singleton _ _, fun x hx y hy => ?_⟩
    rw [List.mem_singleton] at hy
    subst hy
    exact ⟨h.le x hx, fun e => hno x hx e⟩
   ·rcases List.mem_append.1 hs with hs | hs
    ·have := h.le s hs; omega
    ·rw [List.mem_singleton] at hs
     subst hs
     exact Int.le_refl _
   ·rw [modeAt_append, modeAt_one]
    by_cases hta : t < a
    ·have : inS ⟨a, b, m, 0⟩ t = false := inS_not.2 fun hh => by simp only at hh; omega
     rw [this, cond_false, h.modes t hta]
     cases topMode l t <;> rfl
    ·have : inS ⟨a, b, m, 0⟩ t = true := inS_iff.2 ⟨by simp only; omega, ht⟩
     rw [this, cond_true, none' t (by omega), same t (by omega) ht, hw]
     rfl
  rcases nil_or_snoc out with rfl | ⟨q, p, rfl⟩
  ·rw [pieceS_nil, hd, cond_false, hm]
   exact app (fun s hs => by cases hs)
  ·rw [pieceS_snoc, hd, cond_false, hm]
   have hp := h.norm.one p (by simp)
   have hpa := h.le p (by simp)
   have hq := List.pairwise_append.1 h.norm.two
   cases hc : (p.to_ == a && p.mode == m) with
   | true =>
    simp only [Bool.and_eq_true, beq_iff_eq] at hc
    rw [cond_true]
    refine ⟨⟨fun s hs => ?_, ?_⟩, fun s hs => ?_, fun t ht => ?_⟩
    ·rcases List.mem_append.1 hs with hs | hs
     ·exact h.norm.one s (by simp [hs])
     ·rw [List.mem_singleton] at hs
      subst hs
      exact ⟨by simp only; omega, hp.2⟩
    ·rw [List.pairwise_append]
     refine ⟨hq.1, List.pairwise_singleton _ _, fun x hx y hy => ?_⟩
     rw [List.mem_singleton] at hy
     subst hy
     exact hq.2.2 x hx p (by simp)
    ·rcases List.mem_append.1 hs with hs | hs
     ·have := h.le s (by simp [hs]); omega
     ·rw [List.mem_singleton] at hs
      subst hs
      exact Int.le_refl _
    ·rw [modeAt_append, modeAt_one]
     by_cases hta : t < a
     ·have h1 := h.modes t hta
      rw [modeAt_append, modeAt_one] at h1
      rw [← h1]
      have : inS ⟨p.from_, b, p.mode, p.prio⟩ t = inS p t := by
       rw [Bool.eq_iff_iff, inS_iff, inS_iff]
       simp only
       omega
      rw [this]
     ·have : inS ⟨p.from_, b, p.mode, p.prio⟩ t = true := inS_iff.2 ⟨by simp only; omega, ht⟩
      have hn := none' t (by omega)
      rw [modeAt_append] at hn
      have hn1 : modeAt q t = none := by
       cases hh : modeAt q t with
       | none => rfl
       | some x => rw [hh] at hn; simp at hn
      rw [this, hn1, cond_true, same t (by omega) ht, hw, hc.2]
      rfl
   | false =>
    rw [cond_false]
    refine app (fun s hs e => ?_)
    rcases List.mem_append.1 hs with hs | hs
    ·have := (hq.2.2 s hs p (by simp)).1
     omega
    ·rw [List.mem_singleton] at hs
     subst hs
     intro e2
     simp [e, e2] at hc
theorem topMode_none {l : List Span} {t : Int} (h : ∀ s ∈ l, inS s t = false) : topMode l t = none := by
 unfold topMode
 rw [topGo_none none h]
 rfl
theorem SoFar.all {l : List Span} : ∀ (rest : List Int) (a : Int) (out : List Span), (a :: rest).Pairwise (· < ·) → (∀ e ∈ endsS l, a < e → e ∈ rest) → SoFar l out a → Norm (resGo l (a :: rest) out) ∧ ∀ t, modeAt (resGo l (a :: rest) out) t = topMode l t
 | [], a, out, _, hm, h => by
  refine ⟨h.norm, fun t => ?_⟩
  by_cases ht : t < a
  ·exact h.modes t ht
  ·show modeAt out t = _
   rw [modeAt_none fun s hs => inS_not.2 fun hh => by have := h.le s hs; omega, topMode_none]
   intro s hs
   refine inS_not.2 fun hh => ?_
   have := hm s.to_ (ends_mem.2 ⟨s, hs, .inr rfl⟩) (by omega)
   cases this
 | b :: rest, a, out, hp, hm, h => by
  rw [List.pairwise_cons] at hp
  have hab := hp.1 b (by simp)
  have hp2 := List.pairwise_cons.1 hp.2
  refine SoFar.all rest b (pieceS l out a b) hp.2 (fun e he hbe => ?_) (h.next hab fun e he hae => ?_)
  ·have := hm e he (by omega)
   rcases List.mem_cons.1 this with rfl | h
   ·omega
   ·exact h
  ·have := hm e he hae
   rcases List.mem_cons.1 this with rfl | h
   ·exact Int.le_refl _
   ·have := hp2.1 e h; omega
theorem resolveS_spec (l : List Span) : Norm (resolveS l) ∧ ∀ t, modeAt (resolveS l) t = topMode l t := by
 obtain ⟨hm, hp⟩ := piecesS_spec l
 unfold resolveS
 cases h : piecesS l with
 | nil =>
  rw [h] at hm
  have : l = [] := by
   cases l with
   | nil => rfl
   | cons s l =>
    have := (hm s.from_).2 (by simp [endsS])
    cases this
  subst this
  exact ⟨Norm.nil, fun t => rfl⟩
 | cons a rest =>
  rw [h] at hm hp
  refine SoFar.all rest a [] hp (fun e he hae => ?_) ⟨Norm.nil, (fun s hs => by cases hs), fun t ht => ?_⟩
  ·have := (hm e).2 he
   rcases List.mem_cons.1 this with rfl | h
   ·omega
   ·exact h
  ·rw [topMode_none]
   ·rfl
   ·intro s hs
    refine inS_not.2 fun hh => ?_
    have := (hm s.from_).2 (ends_mem.2 ⟨s, hs, .inl rfl⟩)
    rcases List.mem_cons.1 this with e | h
    ·omega
    ·have := (List.pairwise_cons.1 hp).1 _ h
     omega
end Go.Proofs.YtfhepbbkggdlcaaGreatDoor.Px


namespace Go.Proofs.YtfhepbbkggdlcaaGreatDoor.Px
open Go
theorem findS_cons (s : Span) (l : List Span) (t : Int) : findS (s :: l) t = cond (inS s t) (s, true) (findS l t) := by
 unfold findS anyIn atIdx
 rw [List.any_cons, List.findIdx_cons]
 cases inS s t
 ·simp only [Bool.false_or, cond_false]
  rw [show (((List.findIdx (fun s => inS s t) l + 1 : Nat) : Int)).toNat = List.findIdx (fun s => inS s t) l + 1 from rfl]
  rfl
 ·rfl
theorem findS_modeAt (t : Int) : ∀ l : List Span, (modeAt l t = none ∧ findS l t = (span0, false)) ∨ (∃ s ∈ l, inS s t = true ∧ modeAt l t = some s.mode ∧ findS l t = (s, true))
 | [] => .inl ⟨rfl, rfl⟩
 | s :: l => by
  rw [findS_cons]
  unfold modeAt
  cases hs : inS s t
  ·rcases findS_modeAt t l with h | ⟨x, hx, h⟩
   ·exact .inl h
   ·exact .inr ⟨x, by simp [hx], h⟩
  ·exact .inr ⟨s, by simp, hs, rfl, rfl⟩
theorem Norm.may {l : List Span} (h : Norm l) (hl : l.length ≤ 500) : mayS l = true := by
 unfold mayS
 simp only [Bool.and_eq_true, List.all_eq_true, decide_eq_true_eq]
 refine ⟨fun s hs => ?_, hl⟩
 have := (h.one s hs).1
 simp [oddS]
 omega
theorem clipS_from (s : Span) (a b : Int) : (clipS s a b).from_ = max s.from_ a := by
 unfold clipS
 by_cases h : a > s.from_
 ·simp only [h, decide_true, cond_true]; omega
 ·simp only [h, decide_false, cond_false]; omega
theorem clipS_to (s : Span) (a b : Int) : (clipS s a b).to_ = min s.to_ b := by
 unfold clipS
 by_cases h : b < s.to_
 ·simp only [h, decide_true, cond_true]; omega
 ·simp only [h, decide_false, cond_false]; omega
theorem cutL_mem {l : List Span} {a b : Int} {x : Span} (h : x ∈ cutL l a b) : ∃ s ∈ l, x = clipS s a b ∧ x.from_ < x.to_ := by
 induction l with
 | nil => cases h
 | cons s l ih =>
  unfold cutL at h
  by_cases hc : (clipS s a b).from_ < (clipS s a b).to_
  ·simp only [hc, decide_true, cond_true, List.mem_cons] at h
   rcases h with rfl | h
   ·exact ⟨s, by simp, rfl, hc⟩
   ·obtain ⟨u, hu, h2⟩ := ih h
    exact ⟨u, by simp [hu], h2⟩
  ·simp only [hc, decide_false, cond_false] at h
   obtain ⟨u, hu, h2⟩ := ih h
   exact ⟨u, by simp [hu], h2⟩
theorem Norm.cut {l : List Span} (h : Norm l) (a b : Int) : Norm (cutL l a b) := by
 refine ⟨fun x hx => ?_, ?_⟩
 ·obtain ⟨s, hs, rfl, h2⟩ := cutL_mem hx
  exact ⟨h2, (h.one s hs).2⟩
 ·induction l with
  | nil => exact List.Pairwise.nil
  | cons s l ih =>
   unfold cutL
   by_cases hc : (clipS s a b).from_ < (clipS s a b).to_
   ·simp only [hc, decide_true, cond_true, List.pairwise_cons]
    refine ⟨fun x hx => ?_, ih h.tail⟩
    obtain ⟨u, hu, rfl, h2⟩ := cutL_mem hx
    obtain ⟨b1, b2⟩ := h.beh u hu
    rw [clipS_from, clipS_to] at *
    refine ⟨by rw [clipS_to, clipS_from]; omega, fun e => ?_⟩
    rw [clipS_to, clipS_from] at e
    exact b2 (by omega)
   ·simp only [hc, decide_false, cond_false]
    exact ih h.tail
theorem modeAt_cut (l : List Span) (a b t : Int) : modeAt (cutL l a b) t = cond (decide (a ≤ t) && decide (t < b)) (modeAt l t) none := by
 induction l with
 | nil => cases (decide (a ≤ t) && decide (t < b)) <;> rfl
 | cons s l ih =>
  have hi : inS (clipS s a b) t = (inS s t && (decide (a ≤ t) && decide (t < b))) := by
   rw [Bool.eq_iff_iff, inS_iff, clipS_from, clipS_to]
   simp only [Bool.and_eq_true, inS_iff, decide_eq_true_eq]
   omega
  unfold cutL
  by_cases hc : (clipS s a b).from_ < (clipS s a b).to_
  ·simp only [hc, decide_true, cond_true, modeAt, hi, ih]
   cases inS s t <;> cases (decide (a ≤ t) && decide (t < b)) <;> rfl
  ·simp only [hc, decide_false, cond_false, ih, modeAt]
   have : (inS s t && (decide (a ≤ t) && decide (t < b))) = false := by
    rw [← hi, inS_not]
    omega
   cases h1 : inS s t <;> cases h2 : (decide (a ≤ t) && decide (t < b)) <;> simp [h1, h2] at this ⊢
theorem all_append {l r : List Span} (h1 : l.all (fun s => !oddS s) = true) (h2 : r.all (fun s => !oddS s) = true) : (l ++ r).all (fun s => !oddS s) = true := by
 rw [List.all_append, h1, h2]; rfl
theorem Norm.all {l : List Span} (h : Norm l) : l.all (fun s => !oddS s) = true := by
 rw [List.all_eq_true]
 intro s hs
 have := (h.one s hs).1
 simp [oddS]
 omega
theorem Norm.modes {l : List Span} (h : Norm l) : modesL l = l := by
 unfold modesL
 conv => rhs; rw [← List.map_id l]
 refine List.map_congr_left fun s hs => ?_
 have := (h.one s hs).2
 obtain ⟨a, b, c, d⟩ := s
 simp only at this
 subst this
 rfl
end Go.Proofs.YtfhepbbkggdlcaaGreatDoor.Px


namespace Go.Proofs.YtfhepbbkggdlcaaGreatDoor.Px
open Go
def checkG (z : Zone) (t : Int) : Int := cond (zone_Check z != 0) (zone_Check z) (cond (!inB t 576000 5258879999) 63 0)
def toldG (z : Zone) (t : Int) : Int := t + z.base + shiftG z t
def localG (z : Zone) (t : Int) : Int × Int × Int := cond (checkG z t != 0) (0, 0, checkG z t) (toldG z t / 1440, toldG z t % 1440, 0)
def winSpans (c : Config) (d : Int) : List Window → List Span
 | [] => []
 | w :: ws => cond (spanG c w d).2.1 ((spanG c w d).1 :: winSpans c d ws) (winSpans c d ws)
def dayGo (c : Config) : Nat → Int → List Span
 | 0, _ => []
 | k + 1, d => winSpans c d c.windows ++ dayGo c k (d + 1)
def daysIn (a b : Int) : Bool := decide (402 ≤ a) && (decide (b ≤ 3651990) && (decide (a ≤ b) && decide (b - a ≤ 30)))
def spansG (c : Config) (a b : Int) : List Span × Int := cond (config_Check c != 0) ([], config_Check c) (cond (daysIn a b) (dayGo c (b - a + 1).toNat a, 0) ([], 140))
def aboutG (c : Config) (d : Int) : List Span × Int := cond ((spansG c (d - 9) (d + 1)).2 != 0) ([], (spansG c (d - 9) (d + 1)).2) (span_Resolve (spansG c (d - 9) (d + 1)).1)
def tabRow (c : Config) (d : Int) : List Span × Int := cond (config_Check c != 0) ([], config_Check c) (cond (decide (d < 411) || decide (d > 3651988)) ([], 140)
 (cond ((aboutG c d).2 != 0) ([], (aboutG c d).2) (cutL (aboutG c d).1 (momG c.zone d 0).1 (momG c.zone (d + 1) 0).1, 0)))
def servedG (c : Config) (t : Int) : Bool := inB t 576000 5258879999 && ((ofG ((t + c.zone.base) / 1440)).2 == 0 && (decide (1900 ≤ (ofG ((t + c.zone.base) / 1440)).1.year) && decide ((ofG ((t + c.zone.base) / 1440)).1.year ≤ 2399)))
def atG (c : Config) (t : Int) : Span × Bool := findS (aboutG c (localG c.zone t).1).1 t
def modeG (c : Config) (t : Int) : Int × Int × Int := cond (config_Check c != 0) (0, 0, config_Check c) (cond (servedG c t) (cond (atG c t).2 ((atG c t).1.mode, (atG c t).1.from_, 0) (0, 0, 0)) (3, 0, 0))
def timeB (t : Int) : Bool := inB t 576000 5258879999
def small2C (c : Config) (_ : Int) : Bool := smallC c
def aboutOk (c : Config) (d : Int) : Bool := smallC c && big d
def small3C (c : Config) (_ _ : Int) : Bool := smallC c
def servedOk (c : Config) (_ : Int) : Bool := config_Check c == 0
def fewDays (a b : Int) : Bool := decide (402 ≤ a) && (decide (b ≤ 3651990) && decide (b - a ≤ 30))
end Go.Proofs.YtfhepbbkggdlcaaGreatDoor.Px


namespace Go.Proofs.YtfhepbbkggdlcaaGreatDoor.Px
open Go
theorem win_length (c : Config) (d : Int) : ∀ l : List Window, (winSpans c d l).length ≤ l.length
 | [] => Nat.le_refl _
 | w :: l => by
  have := win_length c d l
  unfold winSpans
  cases (spanG c w d).2.1
  ·rw [cond_false, List.length_cons]; omega
  ·rw [cond_true, List.length_cons, List.length_cons]; omega
theorem day_length (c : Config) : ∀ (k : Nat) (d : Int), (dayGo c k d).length ≤ k * c.windows.length
 | 0, _ => by simp [dayGo]
 | k + 1, d => by
  have h1 := win_length c d c.windows
  have h2 := day_length c k (d + 1)
  simp only [dayGo, List.length_append]
  rw [Nat.add_mul, Nat.one_mul]
  omega
theorem win_few {c : Config} (h : config_Check c = 0) : c.windows.length ≤ 16 := by
 unfold config_Check orE at h
 cases h1 : config_size c == 0
 ·rw [h1] at h; simp only [cond_false] at h; rw [h] at h1; cases h1
 rw [h1, cond_true] at h
 cases h2 : config_stops c == 0
 ·rw [h2] at h; simp only [cond_false] at h; rw [h] at h2; cases h2
 rw [h2, cond_true] at h
 cases h3 : config_times c == 0
 ·rw [h3] at h; simp only [cond_false] at h; rw [h] at h3; cases h3
 rw [h3, cond_true] at h
 cases h4 : zone_Check c.zone == 0
 ·rw [h4] at h; simp only [cond_false] at h; rw [h] at h4; cases h4
 rw [h4, cond_true] at h
 cases h5 : sunset_Check c.sun == 0
 ·rw [h5] at h; simp only [cond_false] at h; rw [h] at h5; cases h5
 rw [h5, cond_true] at h
 unfold config_windows at h
 by_cases hl : c.windows.length ≤ 16
 ·exact hl
 ·rw [decide_eq_true (by omega : c.windows.length > 16)] at h
  cases h
theorem days_in {a b : Int} (h : daysIn a b = true) : 402 ≤ a ∧ b ≤ 3651990 ∧ a ≤ b ∧ b - a ≤ 30 := by
 simpa only [daysIn, Bool.and_eq_true, decide_eq_true_eq] using h
theorem spans_length (c : Config) (a b : Int) : (spansG c a b).1.length ≤ 496 := by
 unfold spansG
 cases hc : config_Check c != 0 with
 | true => simp
 | false =>
  cases hd : daysIn a b with
  | false => simp
  | true =>
   obtain ⟨h1, h2, h3, h4⟩ := days_in hd
   have hw := win_few (show config_Check c = 0 by simpa using hc)
   have := day_length c (b - a + 1).toNat a
   have h5 : (b - a + 1).toNat * c.windows.length ≤ 31 * 16 := Nat.mul_le_mul (by omega) hw
   rw [cond_false, cond_true]
   show (dayGo c (b - a + 1).toNat a).length ≤ 496
   omega
theorem resolve_length (l : List Span) : (span_Resolve l).1.length ≤ 1000 := by
 unfold span_Resolve
 cases hm : mayS l with
 | false => simp
 | true =>
  have := resolveS_length l
  simp only [mayS, Bool.and_eq_true, decide_eq_true_eq] at hm
  rw [cond_true]
  show (resolveS l).length ≤ 1000
  omega
theorem about_length (c : Config) (d : Int) : (aboutG c d).1.length ≤ 1000 := by
 unfold aboutG
 cases (spansG c (d - 9) (d + 1)).2 != 0
 ·exact resolve_length _
 ·simp
theorem before_1900 : beforeG 1900 = 693595 := by decide
theorem before_2400 : beforeG 2400 = 876216 := by decide
theorem served_iff {c : Config} {t : Int} (h : config_Check c = 0) : servedG c t = true ↔ 998778240 - c.zone.base ≤ t ∧ t < 1261752480 - c.zone.base := by
 obtain ⟨z1, _⟩ := zone_facts (check_parts h).1
 unfold servedG
 simp only [Bool.and_eq_true, inB_iff, beq_iff_eq, decide_eq_true_eq]
 generalize hn : (t + c.zone.base) / 1440 = n
 constructor
 ·rintro ⟨⟨h1, h2⟩, h3, h4, h5⟩
  have hd : dayOk n = true := by
   cases hd : dayOk n with
   | true => rfl
   | false =>
    exfalso
    unfold ofG at h3
    rw [show (decide (n < 1) || decide (n > 3652059)) = true by
     have hh : ¬ (1 ≤ n ∧ n ≤ 3652059) := fun hh => by rw [dayOk_iff.2 hh] at hd; cases hd
     rw [Bool.or_eq_true, decide_eq_true_eq, decide_eq_true_eq]
     omega] at h3
    cases h3
  have hd' := dayOk_iff.1 hd
  obtain ⟨y1, y2, l1, l2, e1, e2⟩ := of_spec hd'.1 hd'.2
  have e : ofG n = (⟨yrG n, ((monG n : Nat) : Int), lfG n - sumG (yrG n) (monG n - 1) + 1⟩, 0) := by
   unfold ofG
   rw [show (decide (n < 1) || decide (n > 3652059)) = false by simp; omega]
   rfl
  rw [e] at h4 h5
  dsimp only at h4 h5
  have a := before_mono (y := 1900) (z := yrG n) (by omega) h4
  have b := before_mono (y := yrG n + 1) (z := 2400) (by omega) (by omega)
  rw [before_1900] at a
  rw [before_2400] at b
  omega
 ·rintro ⟨h1, h2⟩
  have hd : dayOk n = true := dayOk_iff.2 (by omega)
  obtain ⟨y1, y2, l1, l2, e1, e2⟩ := of_spec (n := n) (by omega) (by omega)
  have e : ofG n = (⟨yrG n, ((monG n : Nat) : Int), lfG n - sumG (yrG n) (monG n - 1) + 1⟩, 0) := by
   unfold ofG
   rw [show (decide (n < 1) || decide (n > 3652059)) = false by simp; omega]
   rfl
  rw [e]
  dsimp only
  refine ⟨⟨by omega, by omega⟩, rfl, ?_, ?_⟩
  ·by_cases hy : 1900 ≤ yrG n
   ·exact hy
   ·have := before_mono (y := yrG n + 1) (z := 1900) (by omega) (by omega)
    rw [before_1900] at this
    omega
  ·by_cases hy : yrG n ≤ 2399
   ·exact hy
   ·have := before_mono (y := 2400) (z := yrG n) (by omega) (by omega)
    rw [before_2400] at this
    omega
theorem mode_ok {c : Config} (t : Int) (hc : config_Check c = 0) : (modeG c t).2.2 = 0 := by
 unfold modeG
 rw [hc]
 cases servedG c t
 ·rfl
 ·cases (atG c t).2 <;> rfl
end Go.Proofs.YtfhepbbkggdlcaaGreatDoor.Px


namespace Go.Proofs.YtfhepbbkggdlcaaGreatDoor.Px
open Go
theorem win_mem {c : Config} {k : Int} {s : Span} : ∀ {l : List Window}, s ∈ winSpans c k l → ∃ w ∈ l, (spanG c w k).2.1 = true ∧ s = (spanG c w k).1
 | [], h => by cases h
 | w :: l, h => by
  unfold winSpans at h
  cases hw : (spanG c w k).2.1 with
  | true =>
   rw [hw, cond_true] at h
   rcases List.mem_cons.1 h with rfl | h
   ·exact ⟨w, List.mem_cons_self, hw, rfl⟩
   ·obtain ⟨v, v1, v2⟩ := win_mem h
    exact ⟨v, List.mem_cons_of_mem _ v1, v2⟩
  | false =>
   rw [hw, cond_false] at h
   obtain ⟨v, v1, v2⟩ := win_mem h
   exact ⟨v, List.mem_cons_of_mem _ v1, v2⟩
theorem days_mem {c : Config} {s : Span} : ∀ {n : Nat} {k : Int}, s ∈ dayGo c n k → ∃ (d : Int) (w : Window), (k ≤ d ∧ d < k + n) ∧ w ∈ c.windows ∧ (spanG c w d).2.1 = true ∧ s = (spanG c w d).1
 | 0, k, h => by cases h
 | n + 1, k, h => by
  unfold dayGo at h
  rcases List.mem_append.1 h with h | h
  ·obtain ⟨w, w1, w2, w3⟩ := win_mem h
   exact ⟨k, w, ⟨by omega, by omega⟩, w1, w2, w3⟩
  ·obtain ⟨d, w, d1, w1⟩ := days_mem h
   exact ⟨d, w, ⟨by omega, by omega⟩, w1⟩
theorem span_facts {c : Config} {w : Window} {d : Int} (h : (spanG c w d).2.1 = true) : (spanG c w d).1.from_ < (spanG c w d).1.to_ ∧ (spanG c w d).1.mode = w.mode ∧ (spanG c w d).1.prio = w.prio := by
 rcases span_cases c w d with ⟨_, e⟩ | ⟨⟨h1, h2, h3⟩, e⟩
 ·rw [e] at h; cases h
 ·cases ho : (opens c w d).2.2 with
  | false => rw [e, ho] at h; cases h
  | true =>
   rw [ho, cond_true] at e
   rw [e]
   refine ⟨?_, rfl, rfl⟩
   dsimp only
   have hd := (rec_iff _).1 h3
   by_cases hk : w.kind = 4
   ·obtain ⟨L, m, n, _, l1, m1, n1, f1, f2, o1, o2⟩ := (rest_open hk h1 h2 h3).2 ho
    rw [o1, o2]; omega
   ·obtain ⟨m1, m2, m3, o1, o2⟩ := timed_open hk h1 h2 h3
    rw [o1, o2]; omega
theorem days_may {c : Config} (hc : config_Check c = 0) {a b : Int} (h : daysIn a b = true) : mayS (dayGo c (b - a + 1).toNat a) = true := by
 have hl := spans_length c a b
 unfold spansG at hl
 rw [hc, h] at hl
 unfold mayS
 simp only [Bool.and_eq_true, List.all_eq_true, decide_eq_true_eq]
 refine ⟨fun s hs => ?_, Nat.le_trans hl (by omega)⟩
 obtain ⟨d, w, _, w1, w2, rfl⟩ := days_mem hs
 have := (span_facts w2).1
 simp [oddS]
 omega
theorem shift_small {z : Zone} (t : Int) (hs : 0 ≤ z.shift ∧ z.shift ≤ 120) : 0 ≤ shiftG z t ∧ shiftG z t ≤ 120 := by
 unfold shiftG
 cases z.shift == 0
 ·cases sumB t (whenG z z.on (yearOf z t)) (whenG z z.off (yearOf z t))
  ·simp
  ·exact hs
 ·simp
theorem local_day {z : Zone} {t : Int} (hz : zone_Check z = 0) (h1 : 576000 ≤ t) (h2 : t ≤ 5258879999) : ∃ s : Int, 0 ≤ s ∧ s ≤ 120 ∧ (localG z t).1 = (t + z.base + s) / 1440 := by
 obtain ⟨_, z2, _⟩ := zone_facts hz
 have hr := shift_small t z2
 refine ⟨shiftG z t, hr.1, hr.2, ?_⟩
 unfold localG checkG
 rw [hz, inB_true h1 h2]
 rfl
end Go.Proofs.YtfhepbbkggdlcaaGreatDoor.Px


namespace Go.Proofs.YtfhepbbkggdlcaaGreatDoor.Px
open Go
def startG (z : Zone) (y : Int) : Int := (beforeG y + 1) * 1440 - z.base
theorem year_in {z : Zone} {t : Int} (h : dayOk ((t + z.base) / 1440) = true) : startG z (yearOf z t) ≤ t ∧ t < startG z (yearOf z t + 1) := by
 obtain ⟨e, _⟩ := year_of h
 have h' := dayOk_iff.1 h
 obtain ⟨_, _, l1, _, e1, e2⟩ := of_spec h'.1 h'.2
 rw [e]
 unfold startG
 omega
theorem start_long {z : Zone} {y : Int} (h : 1 ≤ y) : startG z y + 525600 ≤ startG z (y + 1) := by
 have := long_before h
 have hl : 365 ≤ rLong y := by unfold rLong; cases leapG y <;> decide
 unfold startG
 omega
theorem start_mono {z : Zone} {y v : Int} (h : 1 ≤ y) (hv : y ≤ v) : startG z y ≤ startG z v := by
 have := before_mono h hv
 unfold startG
 omega
theorem month_ok {y : Int} {x : Turn} (hx : turnB x = true) (h1 : 1 ≤ y) (h2 : y ≤ 9999) : monthB y x.month = true := by
 obtain ⟨a, _⟩ := turn_parts hx
 simp only [monthB, Bool.and_eq_true, decide_eq_true_eq]
 omega
theorem when_in {z : Zone} {x : Turn} {y : Int} (hx : turnB x = true) (h1 : 1 ≤ y) (h2 : y ≤ 9999) :
  firstG y x.month * 1440 - z.base ≤ whenG z x y ∧ whenG z x y < (firstG y x.month + daysG y x.month) * 1440 - z.base := by
 obtain ⟨_, a2, a3, a4⟩ := turn_parts hx
 have := nth_in (month_ok hx h1 h2) a3 a2
 unfold whenG
 omega
theorem month_end {y m : Int} (h : monthB y m = true) : firstG y m + daysG y m ≤ beforeG (y + 1) + 1 ∧ beforeG y + 1 ≤ firstG y m := by
 have h' := h
 simp only [monthB, Bool.and_eq_true, decide_eq_true_eq] at h'
 have e := first_next h
 have s := sum_mono y (i := (m + 1 - 1).toNat) (j := 12) (by omega)
 have s0 := sumG_range y (m - 1).toNat
 rw [← e, long_before h'.1, ← sum_year h'.1 h'.2.1]
 unfold firstG
 omega
theorem when_year {z : Zone} {x : Turn} {y : Int} (hx : turnB x = true) (h1 : 1 ≤ y) (h2 : y ≤ 9999) : startG z y ≤ whenG z x y ∧ whenG z x y < startG z (y + 1) := by
 have a := when_in (z := z) hx h1 h2
 have b := month_end (month_ok hx h1 h2)
 unfold startG
 omega
theorem year_far {y m n : Int} (hm : monthB y m = true) (hn : monthB (y + 1) n = true) (h : m - n ≤ 10) : firstG y m + daysG y m + 28 ≤ firstG (y + 1) n := by
 have hm' := hm
 have hn' := hn
 simp only [monthB, Bool.and_eq_true, decide_eq_true_eq] at hm' hn'
 rw [← first_next hm]
 have e1 := long_before hm'.1
 rw [← sum_year hm'.1 hm'.2.1] at e1
 have e2 : sumG y 12 = sumG y 11 + daysG y 12 := rfl
 have e3 := days_month (y := y) (m := 12) (by simp only [monthB, Bool.and_eq_true, decide_eq_true_eq]; omega)
 have e4 : sumG (y + 1) 1 = sumG (y + 1) 0 + daysG (y + 1) 1 := rfl
 have e5 : sumG (y + 1) 0 = 0 := rfl
 have e6 := days_month (y := y + 1) (m := 1) (by simp only [monthB, Bool.and_eq_true, decide_eq_true_eq]; omega)
 have e7 := sumG_range (y + 1) (n - 1).toNat
 unfold firstG
 rw [e1]
 by_cases hc : m ≤ 11
 ·have := sum_mono y (i := (m + 1 - 1).toNat) (j := 11) (by omega)
  omega
 ·have a := sum_mono y (i := (m + 1 - 1).toNat) (j := 12) (by omega)
  have b := sum_mono (y + 1) (i := 1) (j := (n - 1).toNat) (by omega)
  omega
theorem months_near {z : Zone} (h : turnsB z = true) : z.on.month - z.off.month ≤ 10 ∧ z.off.month - z.on.month ≤ 10 := by
 simp only [turnsB, Bool.and_eq_true, inB_iff] at h
 have := h.2
 unfold apart at this
 split at this <;> omega
theorem turns_far {z : Zone} {y v : Int} (h : turnsB z = true) (y1 : 1 ≤ y) (y2 : y ≤ 9999) (v1 : 1 ≤ v) (v2 : v ≤ 9999) : whenG z z.on y + 20000 ≤ whenG z z.off v ∨ whenG z z.off v + 20000 ≤ whenG z z.on y := by
 obtain ⟨a, b, c⟩ := turns_parts h
 have hn := months_near h
 have wa := when_in (z := z) a y1 y2
 have wb := when_in (z := z) b v1 v2
 have ya := when_year (z := z) a y1 y2
 have yb := when_year (z := z) b v1 v2
 rcases Int.lt_trichotomy y v with hlt | rfl | hlt
 ·by_cases hc : v = y + 1
  ·subst hc
   have := year_far (month_ok a y1 y2) (month_ok b v1 v2) hn.1
   left; omega
  ·have s1 := start_long (z := z) (y := y + 1) (by omega)
   have s2 := start_mono (z := z) (y := y + 1 + 1) (v := v) (by omega) (by omega)
   left; omega
 ·have := when_apart h y1 y2
  rcases c with c | c
  ·left; exact this.1 c
  ·right; exact this.2 c
 ·by_cases hc : y = v + 1
  ·subst hc
   have := year_far (month_ok b v1 v2) (month_ok a y1 y2) hn.2
   right; omega
  ·have s1 := start_long (z := z) (y := v + 1) (by omega)
   have s2 := start_mono (z := z) (y := v + 1 + 1) (v := y) (by omega) (by omega)
   right; omega
theorem shift_sum {z : Zone} {t : Int} (hs : z.shift ≠ 0) : (shiftG z t = z.shift ↔ ((whenG z z.on (yearOf z t) < whenG z z.off (yearOf z t) ∧ whenG z z.on (yearOf z t) ≤ t ∧ t < whenG z z.off (yearOf z t)) ∨ (whenG z z.off (yearOf z t) < whenG z z.on (yearOf z t) ∧ (t < whenG z z.off (yearOf z t) ∨ whenG z z.on (yearOf z t) ≤ t)))) ∧ (shiftG z t = 0 ∨ shiftG z t = z.shift) := by
 unfold shiftG
 rw [show (z.shift == 0) = false by rw [beq_eq_false_iff_ne]; exact hs, cond_false]
 cases hb : sumB t (whenG z z.on (yearOf z t)) (whenG z z.off (yearOf z t)) with
 | false =>
  rw [cond_false]
  refine ⟨⟨fun h => absurd h.symm hs, fun h => ?_⟩, .inl rfl⟩
  simp [sumB] at hb
  omega
 | true =>
  rw [cond_true]
  refine ⟨⟨fun _ => ?_, fun _ => rfl⟩, .inr rfl⟩
  simpa [sumB] using hb
theorem turn_between {z : Zone} {p q : Int} (h : turnsB z = true) (hs : z.shift ≠ 0) (hp : dayOk ((p + z.base) / 1440) = true) (hq : dayOk ((q + z.base) / 1440) = true) (hl : p < q) (hn : q - p < 20000) :
  (shiftG z p = 0 → shiftG z q = z.shift → ∃ y, 1 ≤ y ∧ y ≤ 9999 ∧ p < whenG z z.on y ∧ whenG z z.on y ≤ q) ∧ (shiftG z p = z.shift → shiftG z q = 0 → ∃ y, 1 ≤ y ∧ y ≤ 9999 ∧ p < whenG z z.off y ∧ whenG z z.off y ≤ q) := by
 obtain ⟨a, b, c⟩ := turns_parts h
 obtain ⟨_, p1, p2⟩ := year_of hp
 obtain ⟨_, q1, q2⟩ := year_of hq
 have ip := year_in hp
 have iq := year_in hq
 have sp := (shift_sum (z := z) (t := p) hs).1
 have sq := (shift_sum (z := z) (t := q) hs).1
 have zp : shiftG z p = 0 → ¬ shiftG z p = z.shift := fun e e' => hs (by rw [← e', e])
 have zq : shiftG z q = 0 → ¬ shiftG z q = z.shift := fun e e' => hs (by rw [← e', e])
 have ap := when_apart h p1 p2
 have aq := when_apart h q1 q2
 have wap := when_year (z := z) a p1 p2
 have wbp := when_year (z := z) b p1 p2
 have waq := when_year (z := z) a q1 q2
 have wbq := when_year (z := z) b q1 q2
 have hy : yearOf z p = yearOf z q ∨ yearOf z q = yearOf z p + 1 := by
  rcases Int.lt_trichotomy (yearOf z p) (yearOf z q) with hlt | e | hlt
  ·right
   by_cases e : yearOf z q = yearOf z p + 1
   ·exact e
   ·have s1 := start_long (z := z) (y := yearOf z p + 1) (by omega)
    have s2 := start_mono (z := z) (y := yearOf z p + 1 + 1) (v := yearOf z q) (by omega) (by omega)
    omega
  ·exact .inl e
  ·have := start_mono (z := z) (y := yearOf z q + 1) (v := yearOf z p) (by omega) (by omega)
   omega
 refine ⟨fun e1 e2 => ?_, fun e1 e2 => ?_⟩
 ·have n1 := mt sp.2 (zp e1)
  have n2 := sq.1 e2
  clear sp sq zp zq
  rcases hy with hy | hy
  ·rw [← hy] at n2
   refine ⟨yearOf z p, p1, p2, ?_⟩
   rcases c with c | c
   ·have := ap.1 c; omega
   ·have := ap.2 c; omega
  ·rcases c with c | c
   ·refine ⟨yearOf z q, q1, q2, ?_⟩
    have := ap.1 c; have := aq.1 c
    rw [← hy] at ip
    omega
   ·refine ⟨yearOf z p, p1, p2, ?_⟩
    have := ap.2 c; have := aq.2 c
    rw [← hy] at ip wap
    omega
 ·have n1 := sp.1 e1
  have n2 := mt sq.2 (zq e2)
  clear sp sq zp zq
  rcases hy with hy | hy
  ·rw [← hy] at n2
   refine ⟨yearOf z p, p1, p2, ?_⟩
   rcases c with c | c
   ·have := ap.1 c; omega
   ·have := ap.2 c; omega
  ·rcases c with c | c
   ·refine ⟨yearOf z p, p1, p2, ?_⟩
    have := ap.1 c; have := aq.1 c
    rw [← hy] at ip wbp
    omega
   ·refine ⟨yearOf z q, q1, q2, ?_⟩
    have := ap.2 c; have := aq.2 c
    rw [← hy] at ip
    omega
theorem no_two {z : Zone} {p q r : Int} (h : turnsB z = true) (hs : z.shift ≠ 0) (hp : dayOk ((p + z.base) / 1440) = true) (hq : dayOk ((q + z.base) / 1440) = true) (hr : dayOk ((r + z.base) / 1440) = true) (h1 : p < q) (h2 : q < r) (hn : r - p < 20000) :
  ¬ (shiftG z p = 0 ∧ shiftG z q = z.shift ∧ shiftG z r = 0) ∧ ¬ (shiftG z p = z.shift ∧ shiftG z q = 0 ∧ shiftG z r = z.shift) := by
 have a := turn_between h hs hp hq h1 (by omega)
 have b := turn_between h hs hq hr h2 (by omega)
 refine ⟨fun ⟨e1, e2, e3⟩ => ?_, fun ⟨e1, e2, e3⟩ => ?_⟩
 ·obtain ⟨y, y1, y2, y3, y4⟩ := a.1 e1 e2
  obtain ⟨v, v1, v2, v3, v4⟩ := b.2 e2 e3
  have := turns_far h y1 y2 v1 v2
  omega
 ·obtain ⟨v, v1, v2, v3, v4⟩ := a.2 e1 e2
  obtain ⟨y, y1, y2, y3, y4⟩ := b.1 e2 e3
  have := turns_far h y1 y2 v1 v2
  omega
theorem where_least {f : Int → List Int} : ∀ {k : Nat} {t j : Int}, t ≤ j → j < whereIn f k t → (f j).isEmpty = true
 | 0, t, j, h1, h2 => by simp only [whereIn] at h2; omega
 | k + 1, t, j, h1, h2 => by
  simp only [whereIn] at h2
  cases he : (f t).isEmpty with
  | false => rw [he, cond_false] at h2; omega
  | true =>
   rw [he, cond_true] at h2
   by_cases e : j = t
   ·rw [e]; exact he
   ·exact where_least (k := k) (t := t + 1) (by omega) h2
def headG (z : Zone) (t : Int) : Int := (rowG z t).getD 0 0
theorem row_cases {z : Zone} {t : Int} (hz : zone_Check z = 0) (h1 : 578880 ≤ t) (h2 : t ≤ 5258868000) :
  (z.shift ≠ 0 ∧ shiftG z (t - z.base - z.shift) = z.shift ∧ (rowG z t).isEmpty = false ∧ headG z t = t - z.base - z.shift) ∨
  ((z.shift = 0 ∨ shiftG z (t - z.base - z.shift) = 0) ∧ shiftG z (t - z.base) = 0 ∧ (rowG z t).isEmpty = false ∧ headG z t = t - z.base) ∨
  (z.shift ≠ 0 ∧ shiftG z (t - z.base - z.shift) = 0 ∧ shiftG z (t - z.base) = z.shift ∧ (rowG z t).isEmpty = true) := by
 obtain ⟨hb, hs, _⟩ := zone_facts hz
 have o1 := (summer_shift hz (day_in (x := t - z.base - z.shift) hz h1 h2 (by omega) (by omega))).2
 have o2 := (summer_shift hz (day_in (x := t - z.base) hz h1 h2 (by omega) (by omega))).2
 have e := (row_same hz h1 h2).2
 unfold headG
 by_cases h0 : z.shift = 0
 ·right; left
  have s2 : shiftG z (t - z.base) = 0 := by omega
  rw [show decide (z.shift > 0) = false by simp; omega, s2] at e
  rw [e]
  exact ⟨.inl h0, s2, rfl, rfl⟩
 ·rw [show decide (z.shift > 0) = true by simp; omega, Bool.true_and] at e
  rcases o1 with a | a
  ·rw [a, show decide ((0 : Int) > 0) = false from rfl] at e
   rcases o2 with c | c
   ·right; left
    rw [c] at e
    rw [e]
    exact ⟨.inr a, c, rfl, rfl⟩
   ·right; right
    rw [c, show (z.shift == 0) = false by rw [beq_eq_false_iff_ne]; exact h0] at e
    rw [e]
    exact ⟨h0, a, c, rfl⟩
  ·left
   rw [a, show decide (z.shift > 0) = true by simp; omega] at e
   rw [e]
   exact ⟨h0, a, rfl, rfl⟩
end Go.Proofs.YtfhepbbkggdlcaaGreatDoor.Px


namespace Go.Proofs.YtfhepbbkggdlcaaGreatDoor.Px
open Go
theorem mom_before {c : Config} {t : Int} (hz : zone_Check c.zone = 0) (h1 : 900000000 ≤ t) (h2 : t ≤ 1300000000) : (momG c.zone (localG c.zone t).1 0).1 ≤ t := by
 obtain ⟨z1, z2, _, htb⟩ := zone_facts hz
 have hsh := summer_shift (z := c.zone) (t := t) hz (dayOk_iff.2 (by omega))
 have hr := shift_small (z := c.zone) t z2
 have hD : (localG c.zone t).1 = toldG c.zone t / 1440 := by
  unfold localG checkG
  rw [hz, inB_true (by omega) (by omega)]
  rfl
 rw [hD]
 have ht : toldG c.zone t = t + c.zone.base + shiftG c.zone t := rfl
 have hw1 : toldG c.zone t / 1440 * 1440 + 0 ≤ toldG c.zone t := by omega
 have hrd : recG (toldG c.zone t / 1440) = true := (rec_iff _).2 (by omega)
 have ho : momOk (toldG c.zone t / 1440) 0 = true := by unfold momOk; rw [hrd]; rfl
 have hto := told_ok ho
 have e : momG c.zone (toldG c.zone t / 1440) 0 = (firstIn (rowG c.zone) 200 (toldG c.zone t / 1440 * 1440 + 0), 0) := by
  unfold momG
  rw [hz, ho]
  rfl
 rw [e]
 show firstIn (rowG c.zone) 200 (toldG c.zone t / 1440 * 1440 + 0) ≤ t
 have hfo := where_found (reach_G hz hto)
 have hwr := where_range (rowG c.zone) 200 (toldG c.zone t / 1440 * 1440 + 0)
 have hleast : ∀ j, toldG c.zone t / 1440 * 1440 + 0 ≤ j → j < whereIn (rowG c.zone) 200 (toldG c.zone t / 1440 * 1440 + 0) → (rowG c.zone j).isEmpty = true := fun j a b => where_least a b
 have hfi : firstIn (rowG c.zone) 200 (toldG c.zone t / 1440 * 1440 + 0) = headG c.zone (whereIn (rowG c.zone) 200 (toldG c.zone t / 1440 * 1440 + 0)) := rfl
 rw [hfi]
 generalize whereIn (rowG c.zone) 200 (toldG c.zone t / 1440 * 1440 + 0) = W at *
 -- the minute that is told at t is told
 have hrowt : (rowG c.zone (toldG c.zone t)).isEmpty = false := by
  have hrow := (row_same (t := toldG c.zone t) hz (by omega) (by omega)).2
  rw [hrow]
  rcases hsh.2 with h0 | h0
  ·have : toldG c.zone t - c.zone.base = t := by omega
   rw [this, h0]
   cases (decide (c.zone.shift > 0) && decide (shiftG c.zone (t - c.zone.shift) > 0)) <;> rfl
  ·by_cases hs0 : c.zone.shift = 0
   ·have : toldG c.zone t - c.zone.base = t := by omega
    rw [this, h0, hs0]
    rfl
   ·have : toldG c.zone t - c.zone.base - c.zone.shift = t := by omega
    rw [this, h0, decide_eq_true (by omega : c.zone.shift > 0)]
    rfl
 have hWt : W ≤ toldG c.zone t := by
  by_cases hW : W ≤ toldG c.zone t
  ·exact hW
  ·have := hleast (toldG c.zone t) (by omega) (by omega)
   rw [this] at hrowt
   cases hrowt
 rcases row_cases (t := W) hz (by omega) (by omega) with ⟨s0, c1, _, c3⟩ | ⟨_, c2, _, c3⟩ | ⟨_, _, _, c3⟩
 ·rw [c3]; omega
 ·rw [c3]
  rcases hsh.2 with h0 | h0
  ·omega
  ·by_cases hs0 : c.zone.shift = 0
   ·omega
   ·by_cases hle : W - c.zone.base ≤ t
    ·exact hle
    ·exfalso
     have hp : shiftG c.zone (W - c.zone.base - c.zone.shift) = 0 := by
      rcases row_cases (t := W) hz (by omega) (by omega) with ⟨_, d1, _, d3⟩ | ⟨d1, _, _, _⟩ | ⟨_, _, _, d3⟩
      ·omega
      ·exact d1.resolve_left hs0
      ·rw [d3] at hfo; cases hfo
     by_cases hpt : W - c.zone.base - c.zone.shift = t
     ·rw [hpt, h0] at hp; exact hs0 hp
     ·exact (no_two (htb hs0) hs0 (dayOk_iff.2 (by omega)) (dayOk_iff.2 (by omega)) (dayOk_iff.2 (by omega)) (show W - c.zone.base - c.zone.shift < t by omega) (show t < W - c.zone.base by omega) (by omega)).1 ⟨hp, h0, c2⟩
 ·rw [c3] at hfo; cases hfo
theorem norm_one {t : Int} {x y : Span} (hx : inS x t = true) (hy : inS y t = true) : ∀ {l : List Span}, Norm l → x ∈ l → y ∈ l → x = y
 | [], _, h, _ => by cases h
 | s :: l, hn, h1, h2 => by
  have hx' := inS_iff.1 hx
  have hy' := inS_iff.1 hy
  rcases List.mem_cons.1 h1 with e1 | k1
  ·rcases List.mem_cons.1 h2 with e2 | k2
   ·rw [e1, e2]
   ·have := (hn.beh y k2).1
    rw [e1] at hx'
    omega
  ·rcases List.mem_cons.1 h2 with e2 | k2
   ·have := (hn.beh x k1).1
    rw [e2] at hy'
    omega
   ·exact norm_one hx hy hn.tail k1 k2
theorem day_law {c : Config} {t : Int} (hc : config_Check c = 0) (hs : servedG c t = true) : (localG c.zone t).2.2 = 0 ∧ (-1000000000 ≤ (localG c.zone t).1 ∧ (localG c.zone t).1 ≤ 1000000000) ∧ (tabRow c (localG c.zone t).1).2 = 0 ∧ (momG c.zone ((localG c.zone t).1 + 1) 0).2 = 0 ∧
  (t ≥ (momG c.zone ((localG c.zone t).1 + 1) 0).1 → (findS (tabRow c (localG c.zone t).1).1 t).2 = false) ∧
  (t < (momG c.zone ((localG c.zone t).1 + 1) 0).1 → (findS (tabRow c (localG c.zone t).1).1 t).2 = false → modeG c t = (0, 0, 0)) ∧
  (t < (momG c.zone ((localG c.zone t).1 + 1) 0).1 → (findS (tabRow c (localG c.zone t).1).1 t).2 = true → (modeG c t).1 = (findS (tabRow c (localG c.zone t).1).1 t).1.mode ∧ (modeG c t).2.1 ≤ (findS (tabRow c (localG c.zone t).1).1 t).1.from_ ∧ (modeG c t).2.1 ≤ t) := by
 obtain ⟨hz, _⟩ := check_parts hc
 obtain ⟨z1, z2, _⟩ := zone_facts hz
 have hsv := (served_iff hc).1 hs
 obtain ⟨s, s1, s2, e⟩ := local_day (t := t) hz (by omega) (by omega)
 have herr : (localG c.zone t).2.2 = 0 := by
  unfold localG checkG
  rw [hz, inB_true (by omega) (by omega)]
  rfl
 have hF := mom_before (c := c) (t := t) hz (by omega) (by omega)
 refine ⟨herr, ?_⟩
 have hmode : modeG c t = cond (atG c t).2 ((atG c t).1.mode, (atG c t).1.from_, 0) (0, 0, 0) := by
  unfold modeG
  rw [hc, hs]
  rfl
 generalize hD : (localG c.zone t).1 = D at *
 have hd2 : daysIn (D - 9) (D + 1) = true := by simp only [daysIn, Bool.and_eq_true, decide_eq_true_eq]; omega
 have hm := days_may hc hd2
 have e11 : ((D + 1) - (D - 9) + 1).toNat = 11 := by omega
 rw [e11] at hm
 have ea : aboutG c D = (resolveS (dayGo c 11 (D - 9)), 0) := by
  unfold aboutG spansG
  rw [hc, hd2, e11]
  show span_Resolve (dayGo c 11 (D - 9)) = _
  unfold span_Resolve
  rw [hm]
  rfl
 have et : atG c t = findS (resolveS (dayGo c 11 (D - 9))) t := by
  unfold atG
  rw [hD, ea]
 have hN := (resolveS_spec (dayGo c 11 (D - 9))).1
 generalize resolveS (dayGo c 11 (D - 9)) = R at *
 have hrow : tabRow c D = (cutL R (momG c.zone D 0).1 (momG c.zone (D + 1) 0).1, 0) := by
  unfold tabRow
  rw [hc, ea, decide_eq_false (by omega : ¬ D < 411), decide_eq_false (by omega : ¬ D > 3651988)]
  rfl
 rw [hrow]
 dsimp only
 have hmo := mom_ok (z := c.zone) (d := D + 1) (m := 0) hz ((rec_iff _).2 (by omega)) (by omega)
 generalize hE : (momG c.zone (D + 1) 0).1 = E at *
 generalize (momG c.zone D 0).1 = F at *
 have hcut := modeAt_cut R F E t
 refine ⟨by omega, rfl, hmo.1, fun h => ?_, fun h hf => ?_, fun h hf => ?_⟩
 ·rw [decide_eq_false (by omega : ¬ t < E), Bool.and_false, cond_false] at hcut
  rcases findS_modeAt t (cutL R F E) with ⟨f1, f2⟩ | ⟨x, _, _, f1, f2⟩
  ·rw [f2]
  ·rw [f1] at hcut; cases hcut
 ·rw [decide_eq_true (by omega : F ≤ t), decide_eq_true h, Bool.and_self, cond_true] at hcut
  rcases findS_modeAt t (cutL R F E) with ⟨f1, f2⟩ | ⟨x, _, _, f1, f2⟩
  ·rw [f1] at hcut
   rcases findS_modeAt t R with ⟨g1, g2⟩ | ⟨y, _, _, g1, g2⟩
   ·rw [hmode, et, g2]; rfl
   ·rw [g1] at hcut; cases hcut
  ·rw [f2] at hf; cases hf
 ·rcases findS_modeAt t (cutL R F E) with ⟨f1, f2⟩ | ⟨x, x1, x2, f1, f2⟩
  ·rw [f2] at hf; cases hf
  ·obtain ⟨y, y1, y2, y3⟩ := cutL_mem x1
   have hx := inS_iff.1 x2
   have c1 := clipS_from y F E
   have c2 := clipS_to y F E
   rw [← y2] at c1 c2
   have hy : inS y t = true := inS_iff.2 (by omega)
   rcases findS_modeAt t R with ⟨g1, g2⟩ | ⟨u, u1, u2, g1, g2⟩
   ·rw [decide_eq_true (by omega : F ≤ t), decide_eq_true h, Bool.and_self, cond_true, f1, g1] at hcut
    cases hcut
   ·have huy := norm_one u2 hy hN u1 y1
    subst huy
    have hu := inS_iff.1 u2
    rw [hmode, et, g2, f2]
    have hmd : x.mode = u.mode := by rw [y2]; rfl
    refine ⟨hmd.symm, ?_, ?_⟩
    ·show u.from_ ≤ x.from_
     omega
    ·show u.from_ ≤ t
     omega
end Go.Proofs.YtfhepbbkggdlcaaGreatDoor.Px
