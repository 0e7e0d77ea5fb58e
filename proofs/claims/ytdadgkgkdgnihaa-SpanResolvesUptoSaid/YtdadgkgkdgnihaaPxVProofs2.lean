/- Spans: what they come to. -/
import Derived.Test.YtdadgkgkdgnihaaPxVProofs
set_option linter.unusedVariables false
set_option linter.unusedSimpArgs false
namespace Go.Proofs.Ytdadgkgkdgnihaa.Px.PxV
open Go Go.Proofs
set_option linter.unusedSimpArgs false
set_option linter.unusedVariables false

theorem wrap_m1 : IntKind.wrap IntKind.i64 (((([] : List Span).length : Nat) : Int) - 1) = -1 := by rfl
theorem wrap_sn {q : List Span} {p : Span} (h : (q ++ [p]).length ≤ 1048576) : IntKind.wrap IntKind.i64 ((((q ++ [p]).length : Nat) : Int) - 1) = ((q.length : Nat) : Int) := by
  rw [IntWalk.i64_in _ (by simp at h ⊢; omega)]; simp
theorem get_sn {q : List Span} {p z : Span} : List.getD (q ++ [p]) (0 + Int.toNat ((q.length : Nat) : Int)) z = p := by simp
theorem set_sn {q : List Span} {p z : Span} : List.set (q ++ [p]) (0 + Int.toNat ((q.length : Nat) : Int)) z = q ++ [z] := by simp
theorem lt2_sn {q : List Span} {p : Span} : decide (((q.length : Nat) : Int) < (((q ++ [p]).length : Nat) : Int)) = true := by simp; omega
theorem lt_sn {q : List Span} {p : Span} : decide (0 + Int.toNat ((q.length : Nat) : Int) < (q ++ [p]).length) = true := by simp
theorem ge_sn {q : List Span} : decide (((q.length : Nat) : Int) ≥ 0) = true := by simp
theorem zz : (⟨0, 0, 0, 0⟩ : Span) = span0 := rfl

theorem go_pcs (l0 : List (Span)) (l4 : List (Int)) (l7 : List (Span)) (v3 : Int) (F d : Nat) (hL : l0.length ≤ 1048576) : ∀ (es pre : List Int) (a : Int) (out : List Span) (n : Nat), es.length < n → (pre ++ a :: es).length ≤ 1000 → out.length ≤ pre.length →
    I_pcs F (d + 3) n (S_pcs l0 (pre ++ a :: es) out ((pre.length + 1 : Nat) : Int)) = some (.exit 0, (X_pcs_0 l0 (pre ++ a :: es) (resGo l0 (a :: es) out))) := by
  intro es
  induction es with
  | nil =>
    intro pre a out n hn hl ho
    obtain ⟨n, rfl⟩ : ∃ k, n = k + 1 := ⟨n - 1, by omega⟩
    have : decide (((pre.length + 1 : Nat) : Int) < (((pre ++ [a]).length : Nat) : Int)) = false := by simp
    rw [step_pcs, this, cond_false]
    rfl
  | cons b es ih =>
    intro pre a out n hn hl ho
    obtain ⟨n, rfl⟩ : ∃ k, n = k + 1 := ⟨n - 1, by omega⟩
    have hpl : pre.length + (es.length + 1 + 1) ≤ 1000 := by simpa using hl
    have ih' := fun o ho => ih (pre ++ [a]) b o n (by simp at hn; omega) (by simpa using hl) ho
    have e0 : IntKind.wrap .i64 (((pre.length + 1 : Nat) : Int) - 1) = ((pre.length : Nat) : Int) := by rw [IntWalk.i64_in _ (by omega)]; simp
    have t1 : decide (((pre.length + 1 : Nat) : Int) < (((pre ++ a :: b :: es).length : Nat) : Int)) = true := by simp <;> omega
    have t3 : decide (0 + Int.toNat ((pre.length + 1 : Nat) : Int) < (pre ++ a :: b :: es).length) = true := by simp
    have gb : List.getD (pre ++ a :: b :: es) (0 + Int.toNat ((pre.length + 1 : Nat) : Int)) 0 = b := by
      simp
    have e4 : IntKind.wrap .i64 (((pre.length + 1 : Nat) : Int) + 1) = (((pre ++ [a]).length + 1 : Nat) : Int) := by rw [IntWalk.i64_in _ (by omega)]; simp
    rw [← idx_step] at ih'
    have hs : smallST l0 a = true := by simpa [smallST, smallS] using hL
    have hol : Nat.ble out.length 1048576 = true := by simp; omega
    rw [step_pcs]
    simp only [t1, t3, e0, gb, e4, idx_lt, idx_ge, Bool.and_self, cond_true, idx_nat, idx_at, beqn, ble0, hs, hol, Bool.and_true, Bool.true_and]
    have hgo : resGo l0 (a :: b :: es) out = resGo l0 (b :: es) (pieceS l0 out a b) := rfl
    rw [hgo]
    obtain ⟨w1, w2⟩ := weightI_range l0 a
    have ih2 := ih' (pieceS l0 out a b) (by have := pieceS_length l0 out a b; simp; omega)
    rw [← ih2]
    cases hw : decide (weightI l0 a < 0) with
    | true =>
      rw [cond_true]
      rcases nil_or_snoc out with rfl | ⟨q, p, rfl⟩
      · rw [pieceS_nil, hw]; rfl
      · rw [pieceS_snoc, hw]; rfl
    | false =>
      simp only [decide_eq_false_iff_not] at hw
      have i1 : (decide (0 ≤ weightI l0 a) && decide (weightI l0 a < ((l0.length : Nat) : Int))) = true := by simp; omega
      have i2 : decide (0 + Int.toNat (weightI l0 a) < l0.length) = true := by simp; omega
      have i3 : decide (weightI l0 a < 0) = false := by simpa using hw
      rw [cond_false]
      simp only [i1, i2, Bool.true_or, cond_true, and_false', zz]
      rcases nil_or_snoc out with rfl | ⟨q, p, rfl⟩
      · simp only [wrap_m1, pieceS_nil, i3, cond_false]
        simp
      · simp only [wrap_sn (Nat.le_trans ho (by omega)), get_sn, set_sn, lt2_sn, lt_sn, ge_sn, Bool.true_or, cond_true, Bool.true_and]
        simp only [pieceS_snoc, i3, cond_false, Nat.zero_add]
        cases hc : (p.to_ == a && p.mode == (l0.getD (weightI l0 a).toNat span0).mode)
        · simp only [cond_false]
        · simp only [cond_true, List.length_append, List.length_singleton, beqn]

theorem main_pcs (l0 : List (Span)) (l4 : List (Int)) (l7 : List (Span)) (v3 : Int) (hg : (decide (l0.length ≤ 1048576) && (decide (l4.length ≤ 1000) && (v3 == 1 && l7.length == 0))) = true) : ∃ N d, I_pcs N d N (S_pcs l0 l4 l7 v3) = some (altK Prod.mk [] (.exit 0) (X_pcs_0 l0 l4 (resGo l0 l4 []))) := by
  simp only [Bool.and_eq_true, decide_eq_true_eq, beq_iff_eq] at hg
  obtain ⟨h1, h2, rfl, h4⟩ := hg
  have h5 : l7 = [] := List.length_eq_zero_iff.1 h4
  subst h5
  cases l4 with
  | nil =>
    refine ⟨1, 3, ?_⟩
    rw [step_pcs]
    simp [altK, resGo]
  | cons a es =>
    have := go_pcs l0 [] [] 0 ((a :: es).length + 3) 0 h1 es [] a [] ((a :: es).length + 3) (by simp; omega) (by simpa using h2) (by simp)
    exact ⟨(a :: es).length + 3, 3, by simpa [altK] using this⟩

theorem run_span_Resolve (a0 : List Span) (hg : smallS a0 = true) : ∃ F d, runO k18 F d 10 Try.f10 s_span_Resolve r_span_Resolve (a0, ()) = some (span_Resolve a0) := by
  refine ⟨200, 6, ?_⟩
  rw [tree_span_Resolve]
  simp only [smallS, decide_eq_true_eq] at hg
  have hfin : ∀ (hl : a0.length ≤ 500), (Nat.ble (endsS a0).length 1048576 = true ∧ Nat.beq (endsS a0).length (sortI (endsS a0)).length = true ∧ Nat.ble (sortI (endsS a0)).length 1048576 = true ∧ decide ((compI (sortI (endsS a0))).length ≤ 1000) = true ∧ decide (a0.length ≤ 1000) = true) := by
    intro hl
    have := endsS_length a0
    have := sortI_length (endsS a0)
    have := piecesS_length a0
    unfold piecesS at this
    refine ⟨by simp; omega, by simp; omega, by simp; omega, by simp; omega, by simp; omega⟩
  by_cases hl : a0.length ≤ 500
  · obtain ⟨k1, k2, k3, k4, k5⟩ := hfin hl
    have e1 : decide (((a0.length : Nat) : Int) > 500) = false := by simp; omega
    simp only [e1, Bool.not_false, Bool.not_true, cond_true, cond_false, beqn, ble0, hg, k1, k2, k3, k4, k5, decide_true, Bool.true_and, Bool.and_true, Bool.and_self, beq_self_eq_true]
    cases hc : (a0.all fun s => !oddS s)
    · simp [span_Resolve, mayS, hc]
    · simp [span_Resolve, mayS, hc, hl, resolveS, piecesS]
  · have e1 : decide (((a0.length : Nat) : Int) > 500) = true := by simp; omega
    simp only [e1, Bool.not_false, Bool.not_true, cond_true, cond_false]
    simp [span_Resolve, mayS, hl]

theorem go_may (l0 : List (Span)) (v3 : Int) (F d : Nat) : ∀ (suf pre : List Span) (n : Nat), suf.length < n → (pre ++ suf).length ≤ 1048576 →
    I_may F (d + 3) n (S_may (pre ++ suf) ((pre.length : Nat) : Int)) = cond (suf.all fun s => !oddS s) (some (.exit 0, (X_may_1 (pre ++ suf)))) (some (.ret, (X_may_0 (pre ++ suf)))) := by
  intro suf
  induction suf with
  | nil =>
    intro pre n hn hl
    obtain ⟨n, rfl⟩ : ∃ k, n = k + 1 := ⟨n - 1, by omega⟩
    rw [step_may, idx_end, cond_false]
    rfl
  | cons x suf ih =>
    intro pre n hn hl
    obtain ⟨n, rfl⟩ : ∃ k, n = k + 1 := ⟨n - 1, by omega⟩
    have ih' := ih (pre ++ [x]) n (by simp at hn; omega) (by simpa using hl)
    rw [step_may]
    simp only [idx_lt, idx_ge, Bool.and_self, cond_true, idx_nat, idx_at, idx_next hl]
    rw [← idx_step] at ih'
    have hi : decide (x.from_ ≥ x.to_) = oddS x := rfl
    rw [hi]
    cases hw : oddS x
    · rw [cond_false, ih']
      simp only [List.all_cons, hw, Bool.not_false, Bool.true_and]
    · simp [hw]

theorem main_may (l0 : List (Span)) (v3 : Int) (hg : (decide (l0.length ≤ 1048576) && v3 == 0) = true) : ∃ N d, I_may N d N (S_may l0 v3) = some (altK Prod.mk [(l0.all fun s => !oddS s, .exit 0, (X_may_1 l0))] (.ret) (X_may_0 l0)) := by
  simp only [Bool.and_eq_true, decide_eq_true_eq, beq_iff_eq] at hg
  obtain ⟨h1, rfl⟩ := hg
  have := go_may l0 0 (l0.length + 3) 0 l0 [] (l0.length + 3) (by omega) (by simpa using h1)
  refine ⟨l0.length + 3, 3, ?_⟩
  simp only [List.nil_append, List.length_nil, Nat.zero_add] at this
  rw [show ((0 : Nat) : Int) = 0 from rfl] at this
  rw [this]
  cases h : (l0.all fun s => !oddS s) <;> simp [altK, h]

theorem run_newelref13_May (a0 : List Span) (hg : smallS a0 = true) : ∃ F d, run k20 F d 12 Try.f12 s_newelref13_May (a0, ()) = some (r_newelref13_May.enc (mayS a0)) := by
  refine ⟨200, 6, ?_⟩
  rw [tree_newelref13_May]
  simp only [smallS, decide_eq_true_eq] at hg
  simp only [beqn, hg, decide_true, Bool.true_and, Bool.and_true, Bool.and_self, beq_self_eq_true, cond_true]
  have e : decide (((a0.length : Nat) : Int) ≤ 500) = decide (a0.length ≤ 500) := by rw [Bool.eq_iff_iff]; simp; omega
  cases h : (a0.all fun s => !oddS s)
  · simp only [cond_false, mayS, h, Bool.false_and]
    rfl
  · simp only [cond_true, mayS, h, Bool.true_and, e]
    rfl

theorem run_newelref13_over (a0 : Span) (a1 : Span) : ∃ F d, run k21 F d 34 Try.f34 s_newelref13_over (a0, a1, ()) = some (r_newelref13_over.enc (overS a0 a1)) := by
  refine ⟨200, 6, ?_⟩
  rw [tree_newelref13_over]
  have : overS a0 a1 = cond (a0.prio != a1.prio) (decide (a0.prio > a1.prio)) (decide (a0.from_ ≥ a1.from_)) := by
    rw [Bool.eq_iff_iff]
    by_cases h : a0.prio = a1.prio
    · simp [overS, lessS, h]
    · have hb : (a0.prio != a1.prio) = true := by simpa using h
      have hb2 : (a0.prio == a1.prio) = false := by simpa using h
      simp [overS, lessS, hb, hb2]
      omega
  rw [this]
  cases (a0.prio != a1.prio) <;> rfl

theorem go_rw (l0 : List (Span)) (v1 v5 v6 : Int) (F d : Nat) : ∀ (suf pre : List Span) (best : Int) (n : Nat), suf.length < n → (pre ++ suf).length ≤ 1048576 → -1 ≤ best → best < (pre.length : Int) →
    I_rw F (d + 3) n (S_rw (pre ++ suf) v1 best ((pre.length : Nat) : Int)) = some (.exit 0, (X_rw_0 (pre ++ suf) (wGo (pre ++ suf) v1 suf ((pre.length : Nat) : Int) best))) := by
  intro suf
  induction suf with
  | nil =>
    intro pre best n hn hl h1 h2
    obtain ⟨n, rfl⟩ : ∃ k, n = k + 1 := ⟨n - 1, by omega⟩
    rw [step_rw, idx_end, cond_false]
    rfl
  | cons x suf ih =>
    intro pre best n hn hl h1 h2
    obtain ⟨n, rfl⟩ : ∃ k, n = k + 1 := ⟨n - 1, by omega⟩
    have ih' := fun b h1 h2 => ih (pre ++ [x]) b n (by simp at hn; omega) (by simpa using hl) h1 h2
    rw [step_rw]
    simp only [idx_lt, idx_ge, Bool.and_self, cond_true, idx_nat, idx_at, idx_next hl, Bool.true_or, or_true']
    rw [← idx_step] at ih'
    conv => rhs; unfold wGo
    have hin : (decide (v1 < x.from_) || decide (v1 ≥ x.to_)) = !inS x v1 := by
      rw [Bool.eq_iff_iff]; simp [inS] <;> omega
    rw [hin]
    have e3 : (((pre ++ [x]).length : Nat) : Int) = ((pre.length : Nat) : Int) + 1 := by simp
    cases hx : inS x v1
    · simp only [Bool.not_false, cond_true, Bool.false_and, cond_false]
      rw [ih' best h1 (by rw [e3]; omega), e3]
    · simp only [Bool.not_true, cond_false, Bool.true_and]
      by_cases hb : best < 0
      · simp only [hb, decide_true, cond_true, Bool.true_or]
        rw [ih' _ (by omega) (by rw [e3]; omega), e3]
      · have i1 : (decide (0 ≤ best) && decide (best < (((pre ++ x :: suf).length : Nat) : Int))) = true := by simp; omega
        have i2 : decide (0 + Int.toNat best < (pre ++ x :: suf).length) = true := by simp; omega
        simp only [hb, decide_false, cond_false, i1, i2, cond_true, Bool.false_or, overS, zz]
        simp only [Nat.zero_add]
        cases (!lessS x (List.getD (pre ++ x :: suf) best.toNat span0))
        · rw [cond_false, cond_false, ih' best h1 (by rw [e3]; omega), e3]
        · rw [cond_true, cond_true, ih' _ (by omega) (by rw [e3]; omega), e3]

theorem main_rw (l0 : List (Span)) (v1 v5 v6 : Int) (hg : (decide (l0.length ≤ 1048576) && (v5 == -1 && v6 == 0)) = true) : ∃ N d, I_rw N d N (S_rw l0 v1 v5 v6) = some (altK Prod.mk [] (.exit 0) (X_rw_0 l0 (weightI l0 v1))) := by
  simp only [Bool.and_eq_true, decide_eq_true_eq, beq_iff_eq] at hg
  obtain ⟨h1, rfl, rfl⟩ := hg
  have := go_rw l0 v1 (-1) 0 (l0.length + 3) 0 l0 [] (-1) (l0.length + 3) (by omega) (by simpa using h1) (by omega) (by simp)
  exact ⟨l0.length + 3, 3, by simpa [altK, weightI] using this⟩

theorem run_newelref13_Weightiest (a0 : List Span) (a1 : Int) (hg : smallST a0 a1 = true) : ∃ F d, run k23 F d 26 Try.f26 s_newelref13_Weightiest (a0, a1, ()) = some (r_newelref13_Weightiest.enc (weightI a0 a1)) := by
  refine ⟨200, 6, ?_⟩
  rw [tree_newelref13_Weightiest]
  simp only [smallST, smallS, decide_eq_true_eq] at hg
  simp only [beqn, hg, decide_true, Bool.true_and, Bool.and_true, Bool.and_self, beq_self_eq_true, cond_true]
  rfl

theorem go_nxt (l0 : List (Span)) (v1 v6 : Int) (v7 : Bool) (v8 : Int) (F d : Nat) : ∀ (suf pre : List Span) (m : Int) (h : Bool) (n : Nat), suf.length < n → (pre ++ suf).length ≤ 1048576 →
    I_nxt F (d + 3) n (S_nxt (pre ++ suf) v1 m h ((pre.length : Nat) : Int)) = some (.exit 0, (X_nxt_0 (pre ++ suf) (nGo v1 suf m h).1 (nGo v1 suf m h).2)) := by
  intro suf
  induction suf with
  | nil =>
    intro pre m h n hn hl
    obtain ⟨n, rfl⟩ : ∃ k, n = k + 1 := ⟨n - 1, by omega⟩
    rw [step_nxt, idx_end, cond_false]
    rfl
  | cons x suf ih =>
    intro pre m h n hn hl
    obtain ⟨n, rfl⟩ : ∃ k, n = k + 1 := ⟨n - 1, by omega⟩
    have ih' := fun m h => ih (pre ++ [x]) m h n (by simp at hn; omega) (by simpa using hl)
    rw [step_nxt]
    simp only [idx_lt, idx_ge, Bool.and_self, cond_true, idx_nat, idx_at, idx_next hl, Bool.true_or, or_true', and_false', cond_false]
    rw [← idx_step] at ih'
    have hgo : nGo v1 (x :: suf) m h = nGo v1 suf (nP1 v1 x.to_ (nP1 v1 x.from_ m h) (nP2 v1 x.from_ m h)) (nP2 v1 x.to_ (nP1 v1 x.from_ m h) (nP2 v1 x.from_ m h)) := rfl
    rw [hgo, ← ih']
    cases h1 : (decide (x.from_ > v1) && (!h || decide (x.from_ < m)))
    · have p1 : nP1 v1 x.from_ m h = m := by simp only [nP1, h1, cond_false]
      have p2 : nP2 v1 x.from_ m h = h := by simp only [nP2, h1, cond_false]
      rw [p1, p2, cond_false]
      cases h2 : (decide (x.to_ > v1) && (!h || decide (x.to_ < m)))
      · simp only [nP1, nP2, h2, cond_false]
      · simp only [nP1, nP2, h2, cond_true]
    · have p1 : nP1 v1 x.from_ m h = x.from_ := by simp only [nP1, h1, cond_true]
      have p2 : nP2 v1 x.from_ m h = true := by simp only [nP2, h1, cond_true]
      rw [p1, p2, cond_true]
      cases h2 : (decide (x.to_ > v1) && decide (x.to_ < x.from_))
      · simp only [nP1, nP2, Bool.not_true, Bool.false_or, h2, cond_false]
      · simp only [nP1, nP2, Bool.not_true, Bool.false_or, h2, cond_true]

theorem main_nxt (l0 : List (Span)) (v1 v6 : Int) (v7 : Bool) (v8 : Int) (hg : (decide (l0.length ≤ 1048576) && (v6 == 0 && (v7 == false && v8 == 0))) = true) : ∃ N d, I_nxt N d N (S_nxt l0 v1 v6 v7 v8) = some (altK Prod.mk [] (.exit 0) (X_nxt_0 l0 (nextS l0 v1).1 (nextS l0 v1).2)) := by
  simp only [Bool.and_eq_true, decide_eq_true_eq, beq_iff_eq] at hg
  obtain ⟨h1, rfl, rfl, rfl⟩ := hg
  have := go_nxt l0 v1 0 false 0 (l0.length + 3) 0 l0 [] 0 false (l0.length + 3) (by omega) (by simpa using h1)
  exact ⟨l0.length + 3, 3, by simpa [altK, nextS] using this⟩

theorem run_newelref13_next (a0 : List Span) (a1 : Int) (hg : smallST a0 a1 = true) : ∃ F d, run k25 F d 25 Try.f25 s_newelref13_next (a0, a1, ()) = some (r_newelref13_next.enc (nextS a0 a1)) := by
  refine ⟨200, 6, ?_⟩
  rw [tree_newelref13_next]
  simp only [smallST, smallS, decide_eq_true_eq] at hg
  simp only [beqn, hg, decide_true, Bool.true_and, Bool.and_true, Bool.and_self, beq_self_eq_true, cond_true]
  rfl

theorem go_lea (l0 : List (Span)) (v3 v4 : Int) (F d : Nat) : ∀ (suf pre : List Span) (m : Int) (n : Nat), suf.length < n → (pre ++ suf).length ≤ 1048576 →
    I_lea F (d + 3) n (S_lea (pre ++ suf) m ((pre.length : Nat) : Int)) = some (.exit 0, (X_lea_0 (pre ++ suf) (lGo suf m))) := by
  intro suf
  induction suf with
  | nil =>
    intro pre m n hn hl
    obtain ⟨n, rfl⟩ : ∃ k, n = k + 1 := ⟨n - 1, by omega⟩
    rw [step_lea, idx_end, cond_false]
    rfl
  | cons x suf ih =>
    intro pre m n hn hl
    obtain ⟨n, rfl⟩ : ∃ k, n = k + 1 := ⟨n - 1, by omega⟩
    have ih' := fun m => ih (pre ++ [x]) m n (by simp at hn; omega) (by simpa using hl)
    rw [step_lea]
    simp only [idx_lt, idx_ge, Bool.and_self, cond_true, idx_nat, idx_at, idx_next hl]
    rw [← idx_step] at ih'
    conv => rhs; unfold lGo
    cases decide (x.from_ < m)
    · rw [cond_false, cond_false, ih']
    · rw [cond_true, cond_true, ih']

theorem main_lea (l0 : List (Span)) (v3 v4 : Int) (hg : (decide (l0.length ≤ 1048576) && v4 == 0) = true) : ∃ N d, I_lea N d N (S_lea l0 v3 v4) = some (altK Prod.mk [] (.exit 0) (X_lea_0 l0 (lGo l0 v3))) := by
  simp only [Bool.and_eq_true, decide_eq_true_eq, beq_iff_eq] at hg
  obtain ⟨h1, rfl⟩ := hg
  have := go_lea l0 v3 0 (l0.length + 3) 0 l0 [] v3 (l0.length + 3) (by omega) (by simpa using h1)
  exact ⟨l0.length + 3, 3, by simpa [altK] using this⟩

theorem run_newelref13_least (a0 : List Span) (hg : someS a0 = true) : ∃ F d, run k27 F d 24 Try.f24 s_newelref13_least (a0, ()) = some (r_newelref13_least.enc (leastS a0)) := by
  refine ⟨200, 6, ?_⟩
  rw [tree_newelref13_least]
  simp only [someS, smallS, Bool.and_eq_true, decide_eq_true_eq] at hg
  have e1 : decide ((0 : Int) < ((a0.length : Nat) : Int)) = true := by simp; omega
  simp only [beqn, hg.1, hg.2, e1, gt_iff_lt, decide_true, Bool.true_and, Bool.and_true, Bool.and_self, beq_self_eq_true, cond_true]
  rfl

theorem go_rres (l0 l1 : List (Span)) (v4 v5 : Int) (v6 : Bool) (F d : Nat) (hL : l0.length ≤ 500) : ∀ (k : List Int) (a : Int) (out : List Span) (n : Nat), cntS l0 a ≤ k.length → k.length < n → out.length + k.length ≤ 1048576 →
    I_rres F (d + 3) n (S_rres l0 out a (nextS l0 a).1 (nextS l0 a).2) = some (.exit 0, (X_rres_0 l0 (refGo l0 k a (nextS l0 a).1 (nextS l0 a).2 out))) := by
  intro k
  induction k with
  | nil =>
    intro a out n hc hn ho
    obtain ⟨n, rfl⟩ : ∃ k, n = k + 1 := ⟨n - 1, by omega⟩
    rw [step_rres, cntS_zero (by simpa using hc), cond_false]
    rfl
  | cons y k ih =>
    intro a out n hc hn ho
    obtain ⟨n, rfl⟩ : ∃ k, n = k + 1 := ⟨n - 1, by omega⟩
    conv => rhs; unfold refGo
    cases hm : (nextS l0 a).2 with
    | false => rw [step_rres, cond_false]; rfl
    | true =>
      have hcn := cntS_next hm
      have hol1 : out.length + (k.length + 1) ≤ 1048576 := by simpa using ho
      have ih2 := ih (nextS l0 a).1 (pieceS l0 out a (nextS l0 a).1) n (by simp at hc; omega) (by simp at hn; omega) (by have := pieceS_length l0 out a (nextS l0 a).1; omega)
      have hs : ∀ t, smallST l0 t = true := fun t => by simp [smallST, smallS]; omega
      have hol : Nat.ble out.length 1048576 = true := by simp; omega
      rw [step_rres, cond_true, cond_true, ← ih2]
      simp only [beqn, ble0, hs, hol, Bool.and_true, Bool.true_and, Bool.and_self, cond_true, and_false']
      obtain ⟨w1, w2⟩ := weightI_range l0 a
      cases hw : decide (weightI l0 a < 0) with
      | true =>
        have hg : decide (weightI l0 a ≥ 0) = false := by simp at hw ⊢; omega
        simp only [hg, Bool.false_and, Bool.not_false, Bool.or_true, cond_true, cond_false]
        rcases nil_or_snoc out with rfl | ⟨q, p, rfl⟩
        · rw [pieceS_nil, hw]; rfl
        · rw [pieceS_snoc, hw]; rfl
      | false =>
        have hw' : ¬ weightI l0 a < 0 := by simpa using hw
        have hg : decide (weightI l0 a ≥ 0) = true := by simp; omega
        have i1 : decide (weightI l0 a < ((l0.length : Nat) : Int)) = true := by simp; omega
        have i2 : decide (0 + Int.toNat (weightI l0 a) < l0.length) = true := by simp; omega
        simp only [hg, i1, Bool.and_self, i2, Bool.true_or, cond_true, Bool.true_and, zz]
        rcases nil_or_snoc out with rfl | ⟨q, p, rfl⟩
        · simp only [wrap_m1, pieceS_nil, hw, cond_false]
          simp
        · simp only [wrap_sn (show (q ++ [p]).length ≤ 1048576 by omega), get_sn, set_sn, lt2_sn, lt_sn, ge_sn, Bool.true_or, cond_true, Bool.true_and]
          simp only [pieceS_snoc, hw, cond_false, Nat.zero_add]
          cases hc : (p.to_ == a && p.mode == (l0.getD (weightI l0 a).toNat span0).mode)
          · simp only [cond_false]
          · simp only [cond_true, List.length_append, List.length_singleton, beqn]

theorem main_rres (l0 l1 : List (Span)) (v4 v5 : Int) (v6 : Bool) (hg : (decide (l0.length ≤ 500) && (l1.length == 0 && (v5 == (nextS l0 v4).1 && v6 == (nextS l0 v4).2))) = true) : ∃ N d, I_rres N d N (S_rres l0 l1 v4 v5 v6) = some (altK Prod.mk [] (.exit 0) (X_rres_0 l0 (refGo l0 (endsS l0) v4 v5 v6 []))) := by
  simp only [Bool.and_eq_true, decide_eq_true_eq, beq_iff_eq] at hg
  obtain ⟨h1, h2, rfl, rfl⟩ := hg
  have h5 : l1 = [] := List.length_eq_zero_iff.1 h2
  subst h5
  have := go_rres l0 [] 0 0 false (2 * l0.length + 4) 0 h1 (endsS l0) v4 [] (2 * l0.length + 4) (cntS_le _ _) (by rw [endsS_length]; omega) (by rw [endsS_length]; simp; omega)
  exact ⟨2 * l0.length + 4, 3, by simpa [altK] using this⟩

theorem run_newelref13_Resolve (a0 : List Span) (hg : smallR a0 = true) : ∃ F d, runO k29 F d 14 Try.f14 s_newelref13_Resolve r_newelref13_Resolve (a0, ()) = some (refS a0) := by
  refine ⟨200, 6, ?_⟩
  rw [tree_newelref13_Resolve]
  simp only [smallR, decide_eq_true_eq] at hg
  by_cases h0 : a0.length = 0
  · have : a0 = [] := List.length_eq_zero_iff.1 h0
    subst this
    rfl
  · have e1 : ((((a0.length : Nat) : Int)) == 0) = false := by simp; exact fun e => h0 (by rw [e]; rfl)
    have e2 : decide (a0.length > 0) = true := by simp; omega
    have e3 : someS a0 = true := by simp [someS, smallS]; omega
    have e4 : ∀ t, smallST a0 t = true := fun t => by simp [smallST, smallS]; omega
    simp only [e1, e3, e4, beqn, ble0, hg, decide_true, Bool.true_and, Bool.and_true, Bool.and_self, beq_self_eq_true, cond_true, cond_false]
    simp only [refS, e2, cond_true]
end Go.Proofs.Ytdadgkgkdgnihaa.Px.PxV
