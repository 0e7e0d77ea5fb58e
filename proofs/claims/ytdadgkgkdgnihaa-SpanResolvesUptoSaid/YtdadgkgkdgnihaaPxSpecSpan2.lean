/- Spans: how long rows are, and where places lie. -/
import Derived.Test.YtdadgkgkdgnihaaPxSpecSpan
import Derived.Test.YtdadgkgkdgnihaaPxIdx
set_option linter.unusedVariables false
set_option linter.unusedSimpArgs false
namespace Go.Proofs.Ytdadgkgkdgnihaa.Px
open Go
set_option linter.unusedSimpArgs false
set_option linter.unusedVariables false

theorem spanEq (x y : Span) : (x.from_ == y.from_ && (x.to_ == y.to_ && (x.mode == y.mode && (x.prio == y.prio && true)))) = decide (x = y) := by
  rw [Bool.eq_iff_iff]
  obtain ⟨a, b, c, d⟩ := x
  obtain ⟨a', b', c', d'⟩ := y
  simp

theorem wGo_range (L : List Span) (t : Int) : ∀ (l : List Span) (i : Nat) (best : Int), -1 ≤ best → best < i → -1 ≤ wGo L t l i best ∧ wGo L t l i best < ((i + l.length : Nat) : Int)
  | [], i, best, h1, h2 => by simp [wGo]; omega
  | s :: l, i, best, h1, h2 => by
    unfold wGo
    have e : (i : Int) + 1 = ((i + 1 : Nat) : Int) := by simp
    rw [e]
    cases hc : (inS s t && (decide (best < 0) || !lessS s (L.getD best.toNat span0)))
    · have := wGo_range L t l (i + 1) best h1 (by omega)
      simp only [cond_false, List.length_cons]
      refine ⟨this.1, ?_⟩
      have := this.2
      omega
    · have := wGo_range L t l (i + 1) i (by omega) (by omega)
      simp only [cond_true, List.length_cons]
      refine ⟨this.1, ?_⟩
      have := this.2
      omega

theorem weightI_range (l : List Span) (t : Int) : -1 ≤ weightI l t ∧ weightI l t < (l.length : Int) := by
  have := wGo_range l t l 0 (-1) (by omega) (by omega)
  simpa [weightI] using this

theorem endsS_length : ∀ l : List Span, (endsS l).length = 2 * l.length
  | [] => rfl
  | s :: l => by simp [endsS, endsS_length l]; omega

theorem sortI_length (l : List Int) : (sortI l).length = l.length := (sortI_perm l).length_eq

theorem compGo_length : ∀ (l : List Int) (o : Option Int), (compGo o l).length ≤ l.length
  | [], o => by cases o <;> simp [compGo]
  | x :: l, none => by simp [compGo, compGo_length l]
  | x :: l, some p => by
    unfold compGo
    have := compGo_length l (some x)
    cases x == p <;> simp <;> omega

theorem piecesS_length (l : List Span) : (piecesS l).length ≤ 2 * l.length := by
  have := compGo_length (sortI (endsS l)) none
  rw [sortI_length, endsS_length] at this
  exact this

theorem pieceS_length (l out : List Span) (a b : Int) : (pieceS l out a b).length ≤ out.length + 1 := by
  unfold pieceS
  cases decide (weightI l a < 0)
  · simp only [cond_false]
    cases (decide (out.length > 0) && ((out.getD (out.length - 1) span0).to_ == a && (out.getD (out.length - 1) span0).mode == (l.getD (weightI l a).toNat span0).mode)) <;> simp
  · simp

theorem resGo_length (l : List Span) : ∀ (es : List Int) (out : List Span), (resGo l es out).length ≤ out.length + es.length
  | [], out => by simp [resGo]
  | [a], out => by simp [resGo]
  | a :: b :: es, out => by
    have := resGo_length l (b :: es) (pieceS l out a b)
    have := pieceS_length l out a b
    simp only [resGo, List.length_cons] at *
    omega

theorem resolveS_length (l : List Span) : (resolveS l).length ≤ 2 * l.length := by
  have := resGo_length l (piecesS l) []
  have := piecesS_length l
  simp [resolveS] at *
  omega

theorem cutL_length : ∀ (l : List Span) (a b : Int), (cutL l a b).length ≤ l.length
  | [], _, _ => by simp [cutL]
  | s :: l, a, b => by
    unfold cutL
    have := cutL_length l a b
    cases decide ((clipS s a b).from_ < (clipS s a b).to_) <;> simp <;> omega

theorem atIdx_lt {l : List Span} {t : Int} (h : anyIn l t = true) : 0 ≤ atIdx l t ∧ atIdx l t < (l.length : Int) := by
  unfold anyIn at h
  unfold atIdx
  rw [List.any_eq_true] at h
  have := List.findIdx_lt_length_of_exists (p := fun s => inS s t) (by simpa using h)
  omega

theorem lGo_eq (l : List Span) : leastS l = lGo l (l.getD 0 span0).from_ := rfl

theorem nP_spec (t e n : Int) (h : Bool) (hn : h = true → n > t) : (nP2 t e n h = true ↔ h = true ∨ e > t) ∧ (nP2 t e n h = true → nP1 t e n h > t ∧ (nP1 t e n h = e ∨ (nP1 t e n h = n ∧ h = true)) ∧ (h = true → nP1 t e n h ≤ n) ∧ (e > t → nP1 t e n h ≤ e)) := by
  unfold nP1 nP2
  by_cases h1 : e > t <;> cases h <;> by_cases h2 : e < n <;> simp [h1, h2] <;> (try have := hn rfl) <;> omega

theorem nGo_spec (t : Int) : ∀ (l : List Span) (n : Int) (h : Bool), (h = true → n > t) → ((nGo t l n h).2 = true ↔ h = true ∨ ∃ e ∈ endsS l, e > t) ∧
    ((nGo t l n h).2 = true → (nGo t l n h).1 > t ∧ ((nGo t l n h).1 ∈ endsS l ∨ ((nGo t l n h).1 = n ∧ h = true)) ∧ (h = true → (nGo t l n h).1 ≤ n) ∧ ∀ e ∈ endsS l, e > t → (nGo t l n h).1 ≤ e)
  | [], n, h, hn => by simp [nGo, endsS]; exact fun e => ⟨hn e, e⟩
  | s :: l, n, h, hn => by
    obtain ⟨p1, p2⟩ := nP_spec t s.from_ n h hn
    obtain ⟨q1, q2⟩ := nP_spec t s.to_ (nP1 t s.from_ n h) (nP2 t s.from_ n h) (fun e => (p2 e).1)
    obtain ⟨r1, r2⟩ := nGo_spec t l (nP1 t s.to_ (nP1 t s.from_ n h) (nP2 t s.from_ n h)) (nP2 t s.to_ (nP1 t s.from_ n h) (nP2 t s.from_ n h)) (fun e => (q2 e).1)
    simp only [nGo, endsS, List.mem_cons]
    generalize nGo t l (nP1 t s.to_ (nP1 t s.from_ n h) (nP2 t s.from_ n h)) (nP2 t s.to_ (nP1 t s.from_ n h) (nP2 t s.from_ n h)) = r at *
    generalize nP2 t s.to_ (nP1 t s.from_ n h) (nP2 t s.from_ n h) = h2 at *
    generalize nP1 t s.to_ (nP1 t s.from_ n h) (nP2 t s.from_ n h) = n2 at *
    generalize nP2 t s.from_ n h = h1 at *
    generalize nP1 t s.from_ n h = n1 at *
    constructor
    · rw [r1, q1, p1]
      constructor
      · rintro (((h | h) | h) | ⟨e, he, h⟩)
        · exact .inl h
        · exact .inr ⟨_, .inl rfl, h⟩
        · exact .inr ⟨_, .inr (.inl rfl), h⟩
        · exact .inr ⟨e, .inr (.inr he), h⟩
      · rintro (h | ⟨e, rfl | rfl | he, h⟩)
        · exact .inl (.inl (.inl h))
        · exact .inl (.inl (.inr h))
        · exact .inl (.inr h)
        · exact .inr ⟨e, he, h⟩
    · intro hr
      obtain ⟨a1, a2, a3, a4⟩ := r2 hr
      refine ⟨a1, ?_, fun hh => ?_, ?_⟩
      · rcases a2 with a2 | ⟨a2, a2'⟩
        · exact .inl (.inr (.inr a2))
        · obtain ⟨b1, b2, b3, b4⟩ := q2 a2'
          rcases b2 with b2 | ⟨b2, b2'⟩
          · exact .inl (.inr (.inl (by rw [a2, b2])))
          · obtain ⟨c1, c2, c3, c4⟩ := p2 b2'
            rcases c2 with c2 | ⟨c2, c2'⟩
            · exact .inl (.inl (by rw [a2, b2, c2]))
            · exact .inr ⟨by rw [a2, b2, c2], c2'⟩
      · have e1 : h1 = true := p1.2 (.inl hh)
        have e2 : h2 = true := q1.2 (.inl e1)
        have := (p2 e1).2.2.1 hh
        have := (q2 e2).2.2.1 e1
        have := a3 e2
        omega
      · rintro e (rfl | rfl | he) hgt
        · have e1 : h1 = true := p1.2 (.inr hgt)
          have e2 : h2 = true := q1.2 (.inl e1)
          have := (p2 e1).2.2.2 hgt
          have := (q2 e2).2.2.1 e1
          have := a3 e2
          omega
        · have e2 : h2 = true := q1.2 (.inr hgt)
          have := (q2 e2).2.2.2 hgt
          have := a3 e2
          omega
        · exact a4 e he hgt

theorem nextS_iff (l : List Span) (t : Int) : (nextS l t).2 = true ↔ ∃ e ∈ endsS l, e > t := by
  have := (nGo_spec t l 0 false (fun e => by cases e)).1
  simpa [nextS] using this

theorem nextS_spec {l : List Span} {t : Int} (h : (nextS l t).2 = true) : (nextS l t).1 > t ∧ (nextS l t).1 ∈ endsS l ∧ ∀ e ∈ endsS l, e > t → (nextS l t).1 ≤ e := by
  obtain ⟨a, b, _, d⟩ := (nGo_spec t l 0 false (fun e => by cases e)).2 h
  refine ⟨a, ?_, d⟩
  rcases b with b | ⟨_, b⟩
  · exact b
  · cases b

/-- How many beginnings and ends are above. -/
def cntS (l : List Span) (a : Int) : Nat := ((endsS l).filter fun e => decide (e > a)).length

theorem cntS_le (l : List Span) (a : Int) : cntS l a ≤ (endsS l).length := List.length_filter_le _ _

theorem cntS_zero {l : List Span} {a : Int} (h : cntS l a = 0) : (nextS l a).2 = false := by
  rw [Bool.eq_false_iff]
  intro h'
  obtain ⟨e, h1, h2⟩ := (nextS_iff l a).1 h'
  have := List.length_eq_zero_iff.1 h
  rw [List.filter_eq_nil_iff] at this
  exact this e h1 (by simpa using h2)

theorem filter_le {α : Type} {p q : α → Bool} (hpq : ∀ y, q y = true → p y = true) : ∀ l : List α, (l.filter q).length ≤ (l.filter p).length
  | [] => by simp
  | z :: l => by
    have ih := filter_le hpq l
    cases h1 : q z
    · cases h2 : p z <;> simp [List.filter_cons, h1, h2] <;> omega
    · simp [List.filter_cons, h1, hpq z h1, ih]

theorem filter_lt {α : Type} {p q : α → Bool} (hpq : ∀ y, q y = true → p y = true) : ∀ {l : List α} {x : α}, x ∈ l → p x = true → q x = false → (l.filter q).length < (l.filter p).length
  | [], x, hx, _, _ => by cases hx
  | y :: l, x, hx, hp, hq => by
    rcases List.mem_cons.1 hx with rfl | hx
    · have := filter_le hpq l
      simp [List.filter_cons, hp, hq]
      omega
    · have ih := filter_lt hpq hx hp hq
      cases h1 : q y
      · cases h2 : p y <;> simp [List.filter_cons, h1, h2] <;> omega
      · simp [List.filter_cons, h1, hpq y h1, ih]

theorem cntS_next {l : List Span} {a : Int} (h : (nextS l a).2 = true) : cntS l (nextS l a).1 < cntS l a := by
  obtain ⟨h1, h2, h3⟩ := nextS_spec h
  exact filter_lt (fun y hy => by simp at hy ⊢; omega) h2 (by simpa using h1) (by simp)

theorem leastS_go : ∀ (l : List Span) (n : Int), (lGo l n = n ∨ ∃ s ∈ l, lGo l n = s.from_) ∧ lGo l n ≤ n ∧ ∀ s ∈ l, lGo l n ≤ s.from_
  | [], n => by simp [lGo]
  | s :: l, n => by
    unfold lGo
    by_cases h : s.from_ < n
    · simp only [h, decide_true, cond_true]
      obtain ⟨a, b, c⟩ := leastS_go l s.from_
      refine ⟨.inr ?_, by omega, fun x hx => ?_⟩
      · rcases a with a | ⟨x, hx, a⟩
        · exact ⟨s, by simp, a⟩
        · exact ⟨x, by simp [hx], a⟩
      · rcases List.mem_cons.1 hx with rfl | hx
        · exact b
        · exact c x hx
    · simp only [h, decide_false, cond_false]
      obtain ⟨a, b, c⟩ := leastS_go l n
      refine ⟨?_, b, fun x hx => ?_⟩
      · rcases a with a | ⟨x, hx, a⟩
        · exact .inl a
        · exact .inr ⟨x, by simp [hx], a⟩
      · rcases List.mem_cons.1 hx with rfl | hx
        · omega
        · exact c x hx

theorem pieceS_nil (l : List Span) (a b : Int) : pieceS l [] a b = cond (decide (weightI l a < 0)) [] [⟨a, b, (l.getD (weightI l a).toNat span0).mode, 0⟩] := by
  simp [pieceS]

theorem pieceS_snoc (l q : List Span) (p : Span) (a b : Int) : pieceS l (q ++ [p]) a b = cond (decide (weightI l a < 0)) (q ++ [p])
    (cond (p.to_ == a && p.mode == (l.getD (weightI l a).toNat span0).mode) (q ++ [⟨p.from_, b, p.mode, p.prio⟩]) (q ++ [p] ++ [⟨a, b, (l.getD (weightI l a).toNat span0).mode, 0⟩])) := by
  simp [pieceS]

theorem or_imp' {g h : Bool} (hh : h = true → g = true) : (g || !h) = true := by cases g <;> cases h <;> simp at hh ⊢
end Go.Proofs.Ytdadgkgkdgnihaa.Px
