/- Spans: rows in which one stands behind the other, and what they say of an instant. -/
import Derived.Test.YtdadgkgkdgnihaaPxSpecSpan2
set_option linter.unusedVariables false
set_option linter.unusedSimpArgs false
namespace Go.Proofs.Ytdadgkgkdgnihaa.Px
open Go
set_option linter.unusedSimpArgs false
set_option linter.unusedVariables false

/-- The mode at an instant. -/
def modeAt : List Span → Int → Option Int
  | [], _ => none
  | s :: l, t => cond (inS s t) (some s.mode) (modeAt l t)

def Beh (a b : Span) : Prop := a.to_ ≤ b.from_ ∧ (a.to_ = b.from_ → a.mode ≠ b.mode)
/-- One behind the other, without weights; where two touch, their modes differ. -/
structure Norm (l : List Span) : Prop where
  one : ∀ s ∈ l, s.from_ < s.to_ ∧ s.prio = 0
  two : l.Pairwise Beh

theorem inS_iff {s : Span} {t : Int} : inS s t = true ↔ s.from_ ≤ t ∧ t < s.to_ := by simp [inS]
theorem inS_not {s : Span} {t : Int} : inS s t = false ↔ ¬ (s.from_ ≤ t ∧ t < s.to_) := by rw [← inS_iff]; simp

theorem modeAt_none {l : List Span} {t : Int} (h : ∀ s ∈ l, inS s t = false) : modeAt l t = none := by
  induction l with
  | nil => rfl
  | cons s l ih => simp only [modeAt, h s (by simp), cond_false]; exact ih fun x hx => h x (by simp [hx])

theorem modeAt_some {l : List Span} {t m : Int} (h : modeAt l t = some m) : ∃ s ∈ l, inS s t = true ∧ s.mode = m := by
  induction l with
  | nil => cases h
  | cons s l ih =>
    unfold modeAt at h
    cases hs : inS s t
    · rw [hs, cond_false] at h
      obtain ⟨x, hx, h1, h2⟩ := ih h
      exact ⟨x, by simp [hx], h1, h2⟩
    · rw [hs, cond_true] at h
      exact ⟨s, by simp, hs, by simpa using h⟩

theorem modeAt_append (l r : List Span) (t : Int) : modeAt (l ++ r) t = (modeAt l t).or (modeAt r t) := by
  induction l with
  | nil => simp [modeAt]
  | cons s l ih =>
    simp only [List.cons_append, modeAt, ih]
    cases inS s t <;> simp

theorem Norm.tail {s : Span} {l : List Span} (h : Norm (s :: l)) : Norm l := ⟨fun x hx => h.one x (List.mem_cons_of_mem _ hx), (List.pairwise_cons.1 h.two).2⟩
theorem Norm.nil : Norm [] := ⟨fun _ h => (by cases h), List.Pairwise.nil⟩
theorem Norm.beh {s : Span} {l : List Span} (h : Norm (s :: l)) : ∀ x ∈ l, Beh s x := (List.pairwise_cons.1 h.two).1

/-- Two such rows that say the same are the same. -/
theorem Norm.uniq : ∀ {l r : List Span}, Norm l → Norm r → (∀ t, modeAt l t = modeAt r t) → l = r
  | [], [], _, _, _ => rfl
  | [], s :: r, _, hr, h => by
    have h1 := (hr.one s (by simp)).1
    have := h s.from_
    have hi : inS s s.from_ = true := inS_iff.2 ⟨Int.le_refl _, h1⟩
    simp [modeAt, hi] at this
  | s :: l, [], hl, _, h => by
    have h1 := (hl.one s (by simp)).1
    have := h s.from_
    have hi : inS s s.from_ = true := inS_iff.2 ⟨Int.le_refl _, h1⟩
    simp [modeAt, hi] at this
  | s :: l, u :: r, hl, hr, h => by
    have hs := hl.one s (by simp)
    have hu := hr.one u (by simp)
    have early : ∀ {s : Span} {l : List Span}, Norm (s :: l) → ∀ t, t < s.from_ → modeAt (s :: l) t = none := by
      intro s l hn t ht
      refine modeAt_none fun x hx => inS_not.2 fun hx' => ?_
      rcases List.mem_cons.1 hx with rfl | hx
      · omega
      · have := (hn.beh x hx).1
        have := (hn.one s (by simp)).1
        omega
    have head : ∀ {s : Span} {l : List Span} {t : Int}, s.from_ ≤ t → t < s.to_ → modeAt (s :: l) t = some s.mode := by
      intro s l t h1 h2
      simp [modeAt, inS_iff.2 ⟨h1, h2⟩]
    have e1 : s.from_ = u.from_ := by
      rcases Int.lt_trichotomy s.from_ u.from_ with e | e | e
      · have := h s.from_
        rw [early hr _ e, head (Int.le_refl _) hs.1] at this
        cases this
      · exact e
      · have := h u.from_
        rw [early hl _ e, head (Int.le_refl _) hu.1] at this
        cases this
    have e2 : s.mode = u.mode := by
      have := h s.from_
      rw [head (Int.le_refl _) hs.1, head (by omega) (by omega)] at this
      simpa using this
    have ends : ∀ {s u : Span} {l r : List Span}, Norm (s :: l) → Norm (u :: r) → s.from_ = u.from_ → s.mode = u.mode → (∀ t, modeAt (s :: l) t = modeAt (u :: r) t) → ¬ s.to_ < u.to_ := by
      intro s u l r hl hr e1 e2 h hlt
      have h1 := (hl.one s (by simp)).1
      have := h s.to_
      rw [head (s := u) (by omega) hlt] at this
      obtain ⟨x, hx, i1, i2⟩ := modeAt_some this
      rw [inS_iff] at i1
      rcases List.mem_cons.1 hx with rfl | hx
      · omega
      · obtain ⟨b1, b2⟩ := hl.beh x hx
        exact b2 (by omega) (by rw [e2, i2])
    have e3 : s.to_ = u.to_ := by
      have a := ends hl hr e1 e2 h
      have b := ends hr hl e1.symm e2.symm (fun t => (h t).symm)
      omega
    have e4 : s = u := by
      obtain ⟨a, b, c, d⟩ := s
      obtain ⟨a', b', c', d'⟩ := u
      simp only at *
      rw [e1, e2, e3, hs.2, hu.2]
    subst e4
    congr 1
    refine Norm.uniq hl.tail hr.tail fun t => ?_
    by_cases ht : t < s.to_
    · rw [modeAt_none fun x hx => inS_not.2 fun h => by have := (hl.beh x hx).1; omega, modeAt_none fun x hx => inS_not.2 fun h => by have := (hr.beh x hx).1; omega]
    · have := h t
      have hi : inS s t = false := inS_not.2 fun h => by omega
      simpa [modeAt, hi] using this

/-! The weightiest one. -/
def topGo (t : Int) : List Span → Option Span → Option Span
  | [], b => b
  | s :: l, b => topGo t l (cond (inS s t && (match b with
    | none => true
    | some x => !lessS s x)) (some s) b)
def topMode (l : List Span) (t : Int) : Option Int := (topGo t l none).map (·.mode)
def atPl (L : List Span) (i : Int) : Option Span := cond (decide (i < 0)) none (some (L.getD i.toNat span0))

theorem wGo_top (t : Int) : ∀ (suf pre : List Span) (best : Int), -1 ≤ best → best < (pre.length : Int) → atPl (pre ++ suf) (wGo (pre ++ suf) t suf (pre.length : Int) best) = topGo t suf (atPl (pre ++ suf) best)
  | [], pre, best, _, _ => by simp [wGo, topGo]
  | s :: suf, pre, best, h1, h2 => by
    unfold wGo topGo
    have e : ((pre.length : Nat) : Int) + 1 = (((pre ++ [s]).length : Nat) : Int) := by simp
    have ha : pre ++ s :: suf = (pre ++ [s]) ++ suf := by simp
    have hm : (match atPl (pre ++ s :: suf) best with
      | none => true
      | some x => !lessS s x) = (decide (best < 0) || !lessS s ((pre ++ s :: suf).getD best.toNat span0)) := by
      unfold atPl
      cases decide (best < 0) <;> simp
    rw [hm, e]
    cases (inS s t && (decide (best < 0) || !lessS s ((pre ++ s :: suf).getD best.toNat span0)))
    · rw [cond_false, cond_false]
      have := wGo_top t suf (pre ++ [s]) best h1 (by simp; omega)
      rw [← ha] at this
      exact this
    · rw [cond_true, cond_true]
      have := wGo_top t suf (pre ++ [s]) ((pre.length : Nat) : Int) (by omega) (by simp; omega)
      rw [← ha] at this
      rw [this]
      congr 1
      have hd : decide (((pre.length : Nat) : Int) < 0) = false := by simp
      unfold atPl
      rw [hd]
      simp

theorem weightI_top (l : List Span) (t : Int) : atPl l (weightI l t) = topGo t l none := by
  have := wGo_top t l [] (-1) (by omega) (by simp)
  have h2 : atPl l (-1) = none := rfl
  rw [List.nil_append, h2] at this
  exact this

theorem topMode_w (l : List Span) (t : Int) : topMode l t = cond (decide (weightI l t < 0)) none (some (l.getD (weightI l t).toNat span0).mode) := by
  unfold topMode
  rw [← weightI_top]
  unfold atPl
  cases decide (weightI l t < 0) <;> rfl

theorem topGo_append (t : Int) : ∀ (l r : List Span) (b : Option Span), topGo t (l ++ r) b = topGo t r (topGo t l b)
  | [], r, b => rfl
  | s :: l, r, b => topGo_append t l r _

theorem topGo_none {t : Int} : ∀ {l : List Span} (b : Option Span), (∀ s ∈ l, inS s t = false) → topGo t l b = b
  | [], _, _ => rfl
  | s :: l, b, h => by
    unfold topGo
    rw [h s (by simp), Bool.false_and, cond_false]
    exact topGo_none b fun x hx => h x (by simp [hx])

theorem topGo_congr {t u : Int} : ∀ {l : List Span} (b : Option Span), (∀ s ∈ l, inS s t = inS s u) → topGo t l b = topGo u l b
  | [], _, _ => rfl
  | s :: l, b, h => by
    unfold topGo
    rw [h s (by simp)]
    exact topGo_congr _ fun x hx => h x (by simp [hx])

/-- Where one goes ahead of all others, it is the one. -/
theorem topGo_keeps {t : Int} {m : Span} : ∀ {l : List Span}, (∀ s ∈ l, s.prio < m.prio) → topGo t l (some m) = some m
  | [], _ => rfl
  | s :: l, h => by
    unfold topGo
    have : lessS s m = true := by simp [lessS, h s (by simp)]
    simp only [this, Bool.not_true, Bool.and_false, cond_false]
    exact topGo_keeps fun x hx => h x (by simp [hx])

theorem topGo_mem {t : Int} : ∀ {l : List Span} {b : Option Span} {x : Span}, topGo t l b = some x → b = some x ∨ (x ∈ l ∧ inS x t = true)
  | [], b, x, h => .inl h
  | s :: l, b, x, h => by
    unfold topGo at h
    rcases topGo_mem h with h | ⟨h1, h2⟩
    · cases hi : inS s t with
      | false => rw [hi, Bool.false_and, cond_false] at h; exact .inl h
      | true =>
        rw [hi, Bool.true_and] at h
        by_cases hx : x = s
        · subst hx; exact .inr ⟨by simp, hi⟩
        · left
          revert h
          generalize (match b with
            | none => true
            | some x => !lessS s x) = c
          cases c
          · exact fun h => h
          · intro h
            simp only [cond_true, Option.some.injEq] at h
            exact absurd h.symm hx
    · exact .inr ⟨by simp [h1], h2⟩

/-- In a row with no overlaps it is the first one. -/
theorem topMode_row {l : List Span} (t : Int) (h : l.Pairwise fun a b => a.to_ ≤ b.from_) : topMode l t = modeAt l t := by
  induction l with
  | nil => rfl
  | cons s l ih =>
    rw [List.pairwise_cons] at h
    unfold modeAt
    cases hs : inS s t
    · rw [cond_false, ← ih h.2]
      show (topGo t (s :: l) none).map _ = _
      have : topGo t (s :: l) none = topGo t l none := by
        conv => lhs; unfold topGo
        rw [hs]; rfl
      rw [this]
      rfl
    · rw [cond_true]
      show (topGo t (s :: l) none).map _ = _
      have : topGo t (s :: l) none = topGo t l (some s) := by
        conv => lhs; unfold topGo
        rw [hs]; rfl
      rw [this, topGo_none]
      · rfl
      · intro x hx
        rw [inS_iff] at hs
        exact inS_not.2 fun h' => by have := h.1 x hx; omega

theorem Norm.apart {l : List Span} (h : Norm l) : l.Pairwise fun a b => a.to_ ≤ b.from_ := h.two.imp fun h => h.1

/-! Where spans begin and end, in order. -/
theorem comp_mem : ∀ (l : List Int) (p : Int), l.Pairwise (· ≤ ·) → (∀ y ∈ l, p ≤ y) → (∀ x, x ∈ compGo (some p) l ↔ x ∈ l ∧ x ≠ p) ∧ (compGo (some p) l).Pairwise (· < ·) ∧ ∀ x ∈ compGo (some p) l, p < x
  | [], p, _, _ => by simp [compGo]
  | x :: l, p, h1, h2 => by
    rw [List.pairwise_cons] at h1
    obtain ⟨a, b, c⟩ := comp_mem l x h1.2 h1.1
    have hpx := h2 x (by simp)
    unfold compGo
    by_cases e : x = p
    · subst e
      simp only [beq_self_eq_true, cond_true]
      refine ⟨fun z => ?_, b, c⟩
      rw [a, List.mem_cons]
      constructor
      · rintro ⟨h, h'⟩; exact ⟨.inr h, h'⟩
      · rintro ⟨h | h, h'⟩
        · exact absurd h h'
        · exact ⟨h, h'⟩
    · have : (x == p) = false := by simpa using e
      rw [this, cond_false]
      refine ⟨fun z => ?_, List.pairwise_cons.2 ⟨c, b⟩, fun z hz => ?_⟩
      · rw [List.mem_cons, List.mem_cons, a]
        constructor
        · rintro (rfl | ⟨h, h'⟩)
          · exact ⟨.inl rfl, e⟩
          · have := h1.1 z h
            exact ⟨.inr h, by omega⟩
        · rintro ⟨rfl | h, h'⟩
          · exact .inl rfl
          · by_cases hz : z = x
            · exact .inl hz
            · exact .inr ⟨h, hz⟩
      · rcases List.mem_cons.1 hz with rfl | hz
        · omega
        · have := c z hz
          omega

theorem piecesS_spec (l : List Span) : (∀ x, x ∈ piecesS l ↔ x ∈ endsS l) ∧ (piecesS l).Pairwise (· < ·) := by
  have hs := sortI_sorted (endsS l)
  have hm : ∀ x, x ∈ sortI (endsS l) ↔ x ∈ endsS l := fun x => (sortI_perm _).mem_iff
  unfold piecesS compI
  cases h : sortI (endsS l) with
  | nil =>
    rw [h] at hm
    exact ⟨fun x => by rw [← hm]; simp [compGo], List.Pairwise.nil⟩
  | cons y r =>
    rw [h] at hs hm
    rw [List.pairwise_cons] at hs
    obtain ⟨a, b, c⟩ := comp_mem r y hs.2 hs.1
    refine ⟨fun x => ?_, List.pairwise_cons.2 ⟨c, b⟩⟩
    rw [← hm]
    show x ∈ y :: compGo (some y) r ↔ _
    rw [List.mem_cons, List.mem_cons, a]
    constructor
    · rintro (h | ⟨h, _⟩)
      · exact .inl h
      · exact .inr h
    · rintro (h | h)
      · exact .inl h
      · by_cases e : x = y
        · exact .inl e
        · exact .inr ⟨h, e⟩

theorem ends_mem {l : List Span} {e : Int} : e ∈ endsS l ↔ ∃ s ∈ l, e = s.from_ ∨ e = s.to_ := by
  induction l with
  | nil => simp [endsS]
  | cons s l ih =>
    simp only [endsS, List.mem_cons, ih]
    constructor
    · rintro (h | h | ⟨x, hx, h⟩)
      · exact ⟨s, .inl rfl, .inl h⟩
      · exact ⟨s, .inl rfl, .inr h⟩
      · exact ⟨x, .inr hx, h⟩
    · rintro ⟨x, rfl | hx, h⟩
      · rcases h with h | h
        · exact .inl h
        · exact .inr (.inl h)
      · exact .inr (.inr ⟨x, hx, h⟩)

/-- Between two ends that follow each other nothing changes. -/
theorem inS_same {l : List Span} {a t : Int} (h : ∀ e ∈ endsS l, ¬ (a < e ∧ e ≤ t)) (hat : a ≤ t) : ∀ s ∈ l, inS s t = inS s a := by
  intro s hs
  have h1 := h s.from_ (ends_mem.2 ⟨s, hs, .inl rfl⟩)
  have h2 := h s.to_ (ends_mem.2 ⟨s, hs, .inr rfl⟩)
  rw [Bool.eq_iff_iff, inS_iff, inS_iff]
  omega

theorem topMode_same {l : List Span} {a t : Int} (h : ∀ e ∈ endsS l, ¬ (a < e ∧ e ≤ t)) (hat : a ≤ t) : topMode l t = topMode l a := by
  unfold topMode
  rw [topGo_congr none (inS_same h hat)]

/-- What has come so far. -/
structure SoFar (l out : List Span) (a : Int) : Prop where
  norm : Norm out
  le : ∀ s ∈ out, s.to_ ≤ a
  modes : ∀ t, t < a → modeAt out t = topMode l t

theorem modeAt_one (s : Span) (t : Int) : modeAt [s] t = cond (inS s t) (some s.mode) none := rfl

theorem SoFar.next {l out : List Span} {a b : Int} (h : SoFar l out a) (hab : a < b) (hb : ∀ e ∈ endsS l, a < e → b ≤ e) : SoFar l (pieceS l out a b) b := by
  have same : ∀ t, a ≤ t → t < b → topMode l t = topMode l a := fun t h1 h2 => topMode_same (fun e he hh => by have := hb e he hh.1; omega) h1
  have none' : ∀ t, a ≤ t → modeAt out t = none := fun t ht => modeAt_none fun s hs => inS_not.2 fun hh => by have := h.le s hs; omega
  have hw := topMode_w l a
  cases hd : decide (weightI l a < 0) with
  | true =>
    rw [hd, cond_true] at hw
    have e : pieceS l out a b = out := by unfold pieceS; rw [hd]; rfl
    rw [e]
    refine ⟨h.norm, fun s hs => by have := h.le s hs; omega, fun t ht => ?_⟩
    by_cases hta : t < a
    · exact h.modes t hta
    · rw [none' t (by omega), same t (by omega) ht, hw]
  | false =>
    rw [hd, cond_false] at hw
    generalize hm : (l.getD (weightI l a).toNat span0).mode = m at hw
    have app : (∀ s ∈ out, s.to_ = a → s.mode ≠ m) → SoFar l (out ++ [⟨a, b, m, 0⟩]) b := by
      intro hno
      refine ⟨⟨fun s hs => ?_, ?_⟩, fun s hs => ?_, fun t ht => ?_⟩
      · rcases List.mem_append.1 hs with hs | hs
        · exact h.norm.one s hs
        · rw [List.mem_singleton] at hs
          subst hs
          exact ⟨hab, rfl⟩
      · rw [List.pairwise_append]
        refine ⟨h.norm.two, List.pairwise_singleton _ _, fun x hx y hy => ?_⟩
        rw [List.mem_singleton] at hy
        subst hy
        exact ⟨h.le x hx, fun e => hno x hx e⟩
      · rcases List.mem_append.1 hs with hs | hs
        · have := h.le s hs; omega
        · rw [List.mem_singleton] at hs
          subst hs
          exact Int.le_refl _
      · rw [modeAt_append, modeAt_one]
        by_cases hta : t < a
        · have : inS ⟨a, b, m, 0⟩ t = false := inS_not.2 fun hh => by simp only at hh; omega
          rw [this, cond_false, h.modes t hta]
          cases topMode l t <;> rfl
        · have : inS ⟨a, b, m, 0⟩ t = true := inS_iff.2 ⟨by simp only; omega, ht⟩
          rw [this, cond_true, none' t (by omega), same t (by omega) ht, hw]
          rfl
    rcases nil_or_snoc out with rfl | ⟨q, p, rfl⟩
    · rw [pieceS_nil, hd, cond_false, hm]
      exact app (fun s hs => by cases hs)
    · rw [pieceS_snoc, hd, cond_false, hm]
      have hp := h.norm.one p (by simp)
      have hpa := h.le p (by simp)
      have hq := List.pairwise_append.1 h.norm.two
      cases hc : (p.to_ == a && p.mode == m) with
      | true =>
        simp only [Bool.and_eq_true, beq_iff_eq] at hc
        rw [cond_true]
        refine ⟨⟨fun s hs => ?_, ?_⟩, fun s hs => ?_, fun t ht => ?_⟩
        · rcases List.mem_append.1 hs with hs | hs
          · exact h.norm.one s (by simp [hs])
          · rw [List.mem_singleton] at hs
            subst hs
            exact ⟨by simp only; omega, hp.2⟩
        · rw [List.pairwise_append]
          refine ⟨hq.1, List.pairwise_singleton _ _, fun x hx y hy => ?_⟩
          rw [List.mem_singleton] at hy
          subst hy
          exact hq.2.2 x hx p (by simp)
        · rcases List.mem_append.1 hs with hs | hs
          · have := h.le s (by simp [hs]); omega
          · rw [List.mem_singleton] at hs
            subst hs
            exact Int.le_refl _
        · rw [modeAt_append, modeAt_one]
          by_cases hta : t < a
          · have h1 := h.modes t hta
            rw [modeAt_append, modeAt_one] at h1
            rw [← h1]
            have : inS ⟨p.from_, b, p.mode, p.prio⟩ t = inS p t := by
              rw [Bool.eq_iff_iff, inS_iff, inS_iff]
              simp only
              omega
            rw [this]
          · have : inS ⟨p.from_, b, p.mode, p.prio⟩ t = true := inS_iff.2 ⟨by simp only; omega, ht⟩
            have hn := none' t (by omega)
            rw [modeAt_append] at hn
            have hn1 : modeAt q t = none := by
              cases hh : modeAt q t with
              | none => rfl
              | some x => rw [hh] at hn; simp at hn
            rw [this, hn1, cond_true, same t (by omega) ht, hw, hc.2]
            rfl
      | false =>
        rw [cond_false]
        refine app (fun s hs e => ?_)
        rcases List.mem_append.1 hs with hs | hs
        · have := (hq.2.2 s hs p (by simp)).1
          omega
        · rw [List.mem_singleton] at hs
          subst hs
          intro e2
          simp [e, e2] at hc

theorem topMode_none {l : List Span} {t : Int} (h : ∀ s ∈ l, inS s t = false) : topMode l t = none := by
  unfold topMode
  rw [topGo_none none h]
  rfl

theorem SoFar.all {l : List Span} : ∀ (rest : List Int) (a : Int) (out : List Span), (a :: rest).Pairwise (· < ·) → (∀ e ∈ endsS l, a < e → e ∈ rest) → SoFar l out a → Norm (resGo l (a :: rest) out) ∧ ∀ t, modeAt (resGo l (a :: rest) out) t = topMode l t
  | [], a, out, _, hm, h => by
    refine ⟨h.norm, fun t => ?_⟩
    by_cases ht : t < a
    · exact h.modes t ht
    · show modeAt out t = _
      rw [modeAt_none fun s hs => inS_not.2 fun hh => by have := h.le s hs; omega, topMode_none]
      intro s hs
      refine inS_not.2 fun hh => ?_
      have := hm s.to_ (ends_mem.2 ⟨s, hs, .inr rfl⟩) (by omega)
      cases this
  | b :: rest, a, out, hp, hm, h => by
    rw [List.pairwise_cons] at hp
    have hab := hp.1 b (by simp)
    have hp2 := List.pairwise_cons.1 hp.2
    refine SoFar.all rest b (pieceS l out a b) hp.2 (fun e he hbe => ?_) (h.next hab fun e he hae => ?_)
    · have := hm e he (by omega)
      rcases List.mem_cons.1 this with rfl | h
      · omega
      · exact h
    · have := hm e he hae
      rcases List.mem_cons.1 this with rfl | h
      · exact Int.le_refl _
      · have := hp2.1 e h; omega

/-- What spans come to says of each instant the weightiest one's mode. -/
theorem resolveS_spec (l : List Span) : Norm (resolveS l) ∧ ∀ t, modeAt (resolveS l) t = topMode l t := by
  obtain ⟨hm, hp⟩ := piecesS_spec l
  unfold resolveS
  cases h : piecesS l with
  | nil =>
    rw [h] at hm
    have : l = [] := by
      cases l with
      | nil => rfl
      | cons s l =>
        have := (hm s.from_).2 (by simp [endsS])
        cases this
    subst this
    exact ⟨Norm.nil, fun t => rfl⟩
  | cons a rest =>
    rw [h] at hm hp
    refine SoFar.all rest a [] hp (fun e he hae => ?_) ⟨Norm.nil, (fun s hs => by cases hs), fun t ht => ?_⟩
    · have := (hm e).2 he
      rcases List.mem_cons.1 this with rfl | h
      · omega
      · exact h
    · rw [topMode_none]
      · rfl
      · intro s hs
        refine inS_not.2 fun hh => ?_
        have := (hm s.from_).2 (ends_mem.2 ⟨s, hs, .inl rfl⟩)
        rcases List.mem_cons.1 this with e | h
        · omega
        · have := (List.pairwise_cons.1 hp).1 _ h
          omega

/-! The document's way. -/
theorem refGo_eq {l : List Span} : ∀ (rest k : List Int) (a : Int) (out : List Span), (a :: rest).Pairwise (· < ·) → (∀ e, e ∈ rest ↔ (e ∈ endsS l ∧ a < e)) → rest.length ≤ k.length →
    refGo l k a (nextS l a).1 (nextS l a).2 out = resGo l (a :: rest) out
  | [], k, a, out, _, hm, _ => by
    have : (nextS l a).2 = false := by
      rw [Bool.eq_false_iff]
      intro h
      obtain ⟨e, h1, h2⟩ := (nextS_iff l a).1 h
      have := (hm e).2 ⟨h1, h2⟩
      cases this
    rw [this]
    cases k <;> rfl
  | b :: rest, k, a, out, hp, hm, hk => by
    cases k with
    | nil => simp at hk
    | cons y k =>
      rw [List.pairwise_cons] at hp
      have hp2 := List.pairwise_cons.1 hp.2
      have hb := (hm b).1 (by simp)
      have h2 : (nextS l a).2 = true := (nextS_iff l a).2 ⟨b, hb.1, hb.2⟩
      obtain ⟨n1, n2, n3⟩ := nextS_spec h2
      have h1 : (nextS l a).1 = b := by
        have := n3 b hb.1 hb.2
        have := (hm _).2 ⟨n2, n1⟩
        rcases List.mem_cons.1 this with e | e
        · exact e
        · have := hp2.1 _ e; omega
      unfold refGo
      rw [h2, h1, cond_true]
      refine refGo_eq rest k b (pieceS l out a b) hp.2 (fun e => ?_) (by simpa using hk)
      constructor
      · intro he
        have := (hm e).1 (by simp [he])
        exact ⟨this.1, hp2.1 e he⟩
      · rintro ⟨h3, h4⟩
        have := (hm e).2 ⟨h3, by omega⟩
        rcases List.mem_cons.1 this with rfl | h
        · omega
        · exact h

theorem refS_eq {l : List Span} (h : mayS l = true) : refS l = resolveS l := by
  unfold mayS at h
  simp only [Bool.and_eq_true, List.all_eq_true] at h
  obtain ⟨hm, hp⟩ := piecesS_spec l
  unfold refS resolveS
  cases l with
  | nil => rfl
  | cons s r =>
    simp only [List.length_cons, gt_iff_lt, Nat.zero_lt_succ, decide_true, cond_true]
    cases hc : piecesS (s :: r) with
    | nil =>
      rw [hc] at hm
      have := (hm s.from_).2 (by simp [endsS])
      cases this
    | cons a rest =>
      rw [hc] at hm hp
      obtain ⟨g1, g2, g3⟩ := leastS_go (s :: r) ((s :: r).getD 0 span0).from_
      have hmem : ∃ x ∈ s :: r, leastS (s :: r) = x.from_ := by
        rcases g1 with g | g
        · exact ⟨s, by simp, by unfold leastS; rw [g]; rfl⟩
        · exact g
      obtain ⟨x, hx, hxe⟩ := hmem
      have ha : leastS (s :: r) = a := by
        have h1 := (hm x.from_).2 (ends_mem.2 ⟨x, hx, .inl rfl⟩)
        rw [← hxe] at h1
        have h2 := (hm a).1 (by simp)
        obtain ⟨y, hy, hya⟩ := ends_mem.1 h2
        have h3 := g3 y hy
        have h4 := h.1 y hy
        have h5 : y.from_ < y.to_ := by simpa [oddS] using h4
        have h6 : leastS (s :: r) ≤ a := by
          show lGo (s :: r) ((s :: r).getD 0 span0).from_ ≤ a
          rcases hya with e | e <;> omega
        rcases List.mem_cons.1 h1 with e | e
        · exact e
        · have := (List.pairwise_cons.1 hp).1 _ e; omega
      rw [ha]
      refine refGo_eq rest (endsS (s :: r)) a [] hp (fun e => ?_) ?_
      · constructor
        · intro he
          exact ⟨(hm e).1 (by simp [he]), (List.pairwise_cons.1 hp).1 e he⟩
        · rintro ⟨h1, h2⟩
          rcases List.mem_cons.1 ((hm e).2 h1) with rfl | h
          · omega
          · exact h
      · have := piecesS_length (s :: r)
        rw [hc] at this
        rw [endsS_length]
        simp only [List.length_cons] at *
        omega
end Go.Proofs.Ytdadgkgkdgnihaa.Px
