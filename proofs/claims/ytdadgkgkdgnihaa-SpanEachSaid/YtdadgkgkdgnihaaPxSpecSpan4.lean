/- Spans: cutting, putting together, and one that is weightier than all. -/
import Derived.Test.YtdadgkgkdgnihaaPxSpecSpan3
set_option linter.unusedVariables false
set_option linter.unusedSimpArgs false
namespace Go.Proofs.Ytdadgkgkdgnihaa.Px
open Go
set_option linter.unusedSimpArgs false
set_option linter.unusedVariables false

theorem findS_cons (s : Span) (l : List Span) (t : Int) : findS (s :: l) t = cond (inS s t) (s, true) (findS l t) := by
  unfold findS anyIn atIdx
  rw [List.any_cons, List.findIdx_cons]
  cases inS s t
  · simp only [Bool.false_or, cond_false]
    rw [show (((List.findIdx (fun s => inS s t) l + 1 : Nat) : Int)).toNat = List.findIdx (fun s => inS s t) l + 1 from rfl]
    rfl
  · rfl

theorem findS_modeAt (t : Int) : ∀ l : List Span, (modeAt l t = none ∧ findS l t = (span0, false)) ∨ (∃ s ∈ l, inS s t = true ∧ modeAt l t = some s.mode ∧ findS l t = (s, true))
  | [] => .inl ⟨rfl, rfl⟩
  | s :: l => by
    rw [findS_cons]
    unfold modeAt
    cases hs : inS s t
    · rcases findS_modeAt t l with h | ⟨x, hx, h⟩
      · exact .inl h
      · exact .inr ⟨x, by simp [hx], h⟩
    · exact .inr ⟨s, by simp, hs, rfl, rfl⟩

theorem Norm.may {l : List Span} (h : Norm l) (hl : l.length ≤ 500) : mayS l = true := by
  unfold mayS
  simp only [Bool.and_eq_true, List.all_eq_true, decide_eq_true_eq]
  refine ⟨fun s hs => ?_, hl⟩
  have := (h.one s hs).1
  simp [oddS]
  omega

/-- Once more it is the same. -/
theorem Norm.again {l : List Span} (h : Norm l) : resolveS l = l := by
  obtain ⟨h1, h2⟩ := resolveS_spec l
  exact h1.uniq h fun t => by rw [h2, topMode_row t h.apart]

theorem Norm.rowB : ∀ {l : List Span}, Norm l → ∀ (p : Option Span), (∀ q, p = some q → ∀ s ∈ l, Beh q s) → Px.rowB p l = true
  | [], _, p, _ => by cases p <;> rfl
  | s :: l, h, p, hp => by
    have h1 := (h.one s (by simp)).1
    have ho : oddS s = false := by simp [oddS]; omega
    have ih := Norm.rowB h.tail (some s) (fun q e x hx => by simp only [Option.some.injEq] at e; subst e; exact h.beh x hx)
    cases p with
    | none => simp [Px.rowB, ho, ih]
    | some q =>
      obtain ⟨b1, b2⟩ := hp q rfl s (by simp)
      have e1 : decide (s.from_ < q.to_) = false := by simp; omega
      have e2 : (s.from_ == q.to_ && s.mode == q.mode) = false := by
        cases hc : (s.from_ == q.to_ && s.mode == q.mode) with
        | false => rfl
        | true =>
          simp only [Bool.and_eq_true, beq_iff_eq] at hc
          exact absurd hc.2.symm (b2 hc.1.symm)
      simp [Px.rowB, ho, ih, e1, e2]

theorem res_zero {l : List Span} (h : (span_Resolve l).2 = 0) : mayS l = true ∧ span_Resolve l = (resolveS l, 0) := by
  unfold span_Resolve at *
  cases hm : mayS l
  · rw [hm] at h; cases h
  · exact ⟨rfl, rfl⟩

theorem res_other {l : List Span} (h : (span_Resolve l).2 ≠ 0) : mayS l = false ∧ span_Resolve l = ([], 130) := by
  unfold span_Resolve at *
  cases hm : mayS l
  · exact ⟨rfl, rfl⟩
  · rw [hm] at h; exact absurd rfl h

theorem res_norm (l : List Span) : Norm (span_Resolve l).1 := by
  unfold span_Resolve
  cases mayS l
  · exact Norm.nil
  · exact (resolveS_spec l).1

/-! ### Cutting -/
theorem clipS_from (s : Span) (a b : Int) : (clipS s a b).from_ = max s.from_ a := by
  unfold clipS
  by_cases h : a > s.from_
  · simp only [h, decide_true, cond_true]; omega
  · simp only [h, decide_false, cond_false]; omega
theorem clipS_to (s : Span) (a b : Int) : (clipS s a b).to_ = min s.to_ b := by
  unfold clipS
  by_cases h : b < s.to_
  · simp only [h, decide_true, cond_true]; omega
  · simp only [h, decide_false, cond_false]; omega

theorem cutL_mem {l : List Span} {a b : Int} {x : Span} (h : x ∈ cutL l a b) : ∃ s ∈ l, x = clipS s a b ∧ x.from_ < x.to_ := by
  induction l with
  | nil => cases h
  | cons s l ih =>
    unfold cutL at h
    by_cases hc : (clipS s a b).from_ < (clipS s a b).to_
    · simp only [hc, decide_true, cond_true, List.mem_cons] at h
      rcases h with rfl | h
      · exact ⟨s, by simp, rfl, hc⟩
      · obtain ⟨u, hu, h2⟩ := ih h
        exact ⟨u, by simp [hu], h2⟩
    · simp only [hc, decide_false, cond_false] at h
      obtain ⟨u, hu, h2⟩ := ih h
      exact ⟨u, by simp [hu], h2⟩

theorem Norm.cut {l : List Span} (h : Norm l) (a b : Int) : Norm (cutL l a b) := by
  refine ⟨fun x hx => ?_, ?_⟩
  · obtain ⟨s, hs, rfl, h2⟩ := cutL_mem hx
    exact ⟨h2, (h.one s hs).2⟩
  · induction l with
    | nil => exact List.Pairwise.nil
    | cons s l ih =>
      unfold cutL
      by_cases hc : (clipS s a b).from_ < (clipS s a b).to_
      · simp only [hc, decide_true, cond_true, List.pairwise_cons]
        refine ⟨fun x hx => ?_, ih h.tail⟩
        obtain ⟨u, hu, rfl, h2⟩ := cutL_mem hx
        obtain ⟨b1, b2⟩ := h.beh u hu
        rw [clipS_from, clipS_to] at *
        refine ⟨by rw [clipS_to, clipS_from]; omega, fun e => ?_⟩
        rw [clipS_to, clipS_from] at e
        exact b2 (by omega)
      · simp only [hc, decide_false, cond_false]
        exact ih h.tail

theorem modeAt_cut (l : List Span) (a b t : Int) : modeAt (cutL l a b) t = cond (decide (a ≤ t) && decide (t < b)) (modeAt l t) none := by
  induction l with
  | nil => cases (decide (a ≤ t) && decide (t < b)) <;> rfl
  | cons s l ih =>
    have hi : inS (clipS s a b) t = (inS s t && (decide (a ≤ t) && decide (t < b))) := by
      rw [Bool.eq_iff_iff, inS_iff, clipS_from, clipS_to]
      simp only [Bool.and_eq_true, inS_iff, decide_eq_true_eq]
      omega
    unfold cutL
    by_cases hc : (clipS s a b).from_ < (clipS s a b).to_
    · simp only [hc, decide_true, cond_true, modeAt, hi, ih]
      cases inS s t <;> cases (decide (a ≤ t) && decide (t < b)) <;> rfl
    · simp only [hc, decide_false, cond_false, ih, modeAt]
      have : (inS s t && (decide (a ≤ t) && decide (t < b))) = false := by
        rw [← hi, inS_not]
        omega
      cases h1 : inS s t <;> cases h2 : (decide (a ≤ t) && decide (t < b)) <;> simp [h1, h2] at this ⊢

theorem cut_bounds {l : List Span} {a b : Int} {x : Span} (h : x ∈ cutL l a b) : a ≤ x.from_ ∧ x.to_ ≤ b := by
  obtain ⟨s, _, rfl, _⟩ := cutL_mem h
  rw [clipS_from, clipS_to]
  omega

/-- What is cut in two, and put together. -/
theorem cut_join {r : List Span} (h : Norm r) {a m b : Int} (h1 : a ≤ m) (h2 : m ≤ b) : resolveS (cutL r a m ++ cutL r m b) = cutL r a b := by
  obtain ⟨n1, n2⟩ := resolveS_spec (cutL r a m ++ cutL r m b)
  refine n1.uniq (h.cut a b) fun t => ?_
  have hp : (cutL r a m ++ cutL r m b).Pairwise fun a b => a.to_ ≤ b.from_ := by
    rw [List.pairwise_append]
    refine ⟨(h.cut a m).apart, (h.cut m b).apart, fun x hx y hy => ?_⟩
    have := cut_bounds hx
    have := cut_bounds hy
    omega
  rw [n2, topMode_row t hp, modeAt_append, modeAt_cut, modeAt_cut, modeAt_cut]
  by_cases e1 : a ≤ t <;> by_cases e2 : t < m <;> by_cases e3 : t < b <;> by_cases e4 : m ≤ t <;> first | omega | (simp [e1, e2, e3, e4])

theorem all_append {l r : List Span} (h1 : l.all (fun s => !oddS s) = true) (h2 : r.all (fun s => !oddS s) = true) : (l ++ r).all (fun s => !oddS s) = true := by
  rw [List.all_append, h1, h2]; rfl

theorem Norm.all {l : List Span} (h : Norm l) : l.all (fun s => !oddS s) = true := by
  rw [List.all_eq_true]
  intro s hs
  have := (h.one s hs).1
  simp [oddS]
  omega

/-! ### One that is weightier than all -/
theorem topP_ge : ∀ (l : List Span) (n : Int), n ≤ topP l n ∧ ∀ s ∈ l, s.prio ≤ topP l n
  | [], n => by simp [topP]
  | s :: l, n => by
    unfold topP
    by_cases h : s.prio > n
    · simp only [h, decide_true, cond_true]
      obtain ⟨a, b⟩ := topP_ge l s.prio
      refine ⟨by omega, fun x hx => ?_⟩
      rcases List.mem_cons.1 hx with rfl | hx
      · exact a
      · exact b x hx
    · simp only [h, decide_false, cond_false]
      obtain ⟨a, b⟩ := topP_ge l n
      refine ⟨a, fun x hx => ?_⟩
      rcases List.mem_cons.1 hx with rfl | hx
      · omega
      · exact b x hx

theorem topMode_last {l : List Span} {m : Span} (h : ∀ s ∈ l, s.prio < m.prio) (t : Int) : topMode (l ++ [m]) t = cond (inS m t) (some m.mode) (topMode l t) := by
  unfold topMode
  rw [topGo_append]
  cases hm : inS m t
  · rw [topGo_none]
    · rfl
    · intro s hs
      rw [List.mem_singleton] at hs
      rw [hs, hm]
  · have : topGo t [m] (topGo t l none) = some m := by
      cases hb : topGo t l none with
      | none => simp [topGo, hm]
      | some x =>
        have hx : x.prio < m.prio := by
          rcases topGo_mem hb with e | ⟨e, _⟩
          · cases e
          · exact h x e
        have hl : lessS m x = false := by simp [lessS]; omega
        simp [topGo, hm, hl]
    rw [this]
    rfl

theorem topMode_first {l : List Span} {m : Span} (h : ∀ s ∈ l, s.prio < m.prio) (t : Int) : topMode (m :: l) t = cond (inS m t) (some m.mode) (topMode l t) := by
  unfold topMode
  have e : topGo t (m :: l) none = topGo t l (cond (inS m t) (some m) none) := by
    conv => lhs; unfold topGo
    cases inS m t <;> rfl
  rw [e]
  cases inS m t
  · rfl
  · rw [cond_true, topGo_keeps h]
    rfl

theorem turned_same {l : List Span} {m : Span} (h : ∀ s ∈ l, s.prio < m.prio) : resolveS (l ++ [m]) = resolveS (m :: l) := by
  obtain ⟨a1, a2⟩ := resolveS_spec (l ++ [m])
  obtain ⟨b1, b2⟩ := resolveS_spec (m :: l)
  exact a1.uniq b1 fun t => by rw [a2, b2, topMode_last h, topMode_first h]

theorem turned_mid {l : List Span} {m : Span} (h : ∀ s ∈ l, s.prio < m.prio) (hm : m.from_ < m.to_) : cutL (resolveS (l ++ [m])) m.from_ m.to_ = [⟨m.from_, m.to_, m.mode, 0⟩] := by
  obtain ⟨a1, a2⟩ := resolveS_spec (l ++ [m])
  refine (a1.cut _ _).uniq ⟨fun s hs => ?_, List.pairwise_singleton _ _⟩ fun t => ?_
  · rw [List.mem_singleton] at hs
    subst hs
    exact ⟨hm, rfl⟩
  · rw [modeAt_cut, a2, topMode_last h, modeAt_one]
    show cond (inS m t) _ _ = cond (inS m t) _ _
    cases hi : inS m t <;> rfl

theorem turned_ahead {l : List Span} {m : Span} (h : ∀ s ∈ l, s.prio < m.prio) (a : Int) : cutL (resolveS (l ++ [m])) a m.from_ = cutL (resolveS l) a m.from_ := by
  obtain ⟨a1, a2⟩ := resolveS_spec (l ++ [m])
  obtain ⟨b1, b2⟩ := resolveS_spec l
  refine (a1.cut _ _).uniq (b1.cut _ _) fun t => ?_
  rw [modeAt_cut, modeAt_cut, a2, b2, topMode_last h]
  by_cases e : t < m.from_
  · have : inS m t = false := inS_not.2 fun hh => by omega
    rw [this, cond_false]
  · simp [e]

theorem Norm.modes {l : List Span} (h : Norm l) : modesL l = l := by
  unfold modesL
  conv => rhs; rw [← List.map_id l]
  refine List.map_congr_left fun s hs => ?_
  have := (h.one s hs).2
  obtain ⟨a, b, c, d⟩ := s
  simp only at this
  subst this
  rfl
end Go.Proofs.Ytdadgkgkdgnihaa.Px
