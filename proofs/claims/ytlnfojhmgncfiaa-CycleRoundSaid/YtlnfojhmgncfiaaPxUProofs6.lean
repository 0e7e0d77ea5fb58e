/- A round's doors, counted: the loops, and the law CycleRound. -/
import Derived.Test.YtlnfojhmgncfiaaPxUProofs
import Derived.Test.YtlnfojhmgncfiaaPxSpecCycle
set_option linter.unusedVariables false
set_option linter.unusedSimpArgs false
namespace Go.Proofs.Ytlnfojhmgncfiaa.Px.PxU
open Go Go.Proofs
set_option linter.unusedSimpArgs false
set_option linter.unusedVariables false

theorem legs_floors {g : Gear} {p : Plan} (h2 : 2 ≤ p.stops.length) (hr : chkR g.floors none p.stops = true) (i : Nat) : 0 ≤ legAt (rowP p) i ∧ legAt (rowP p) i ≤ g.floors - 1 := by
  have hl : 0 < (rowP p).length := by unfold rowP; rw [rowL_length h2]; omega
  have := getD_mem (P := fun x => 0 ≤ x ∧ x < g.floors) (fun x hx => chkR_all hr x (rowL_mem hx)) (legAt_lt hl i)
  have h : 0 ≤ legAt (rowP p) i ∧ legAt (rowP p) i < g.floors := this
  omega

theorem lenR_bounds {g : Gear} {p : Plan} (hG : gearB g = true) (h2 : 2 ≤ p.stops.length) (h70 : p.stops.length ≤ 70) (hr : chkR g.floors none p.stops = true) : lenP g p ≤ 100000 := by
  obtain ⟨s1, s2, s3, s4⟩ := stopG_pos hG
  have hfl : g.floors ≤ 64 := by simp only [gearB_iff] at hG; omega
  have hall := chkR_all hr
  have hl := getD_mem (P := fun x => 0 ≤ x ∧ x < g.floors) hall (show p.stops.length - 1 < p.stops.length by omega)
  have hf := getD_mem (P := fun x => 0 ≤ x ∧ x < g.floors) hall (show 0 < p.stops.length by omega)
  unfold lenP lastS firstS
  generalize p.stops.getD (p.stops.length - 1) 0 = la at *
  generalize p.stops.getD 0 0 = fi at *
  generalize stopG g = st at *
  generalize g.times.travel = tr at *
  have b2 : (2 * ((p.stops.length : Nat) : Int) - 2) * st ≤ 140 * 480 := Int.mul_le_mul (by omega) s2 (by omega) (by omega)
  have b3 : 2 * (la - fi) * tr ≤ 128 * 60 := by
    have : 2 * (la - fi) * tr ≤ 128 * tr := Int.mul_le_mul_of_nonneg_right (by omega) (by omega)
    omega
  omega

theorem wrapI {n : Int} (h : -9223372036854775808 ≤ n ∧ n ≤ 9223372036854775807) : IntKind.wrap IntKind.i64 n = n := IntWalk.i64_in _ (by omega)

theorem go_tick (l0 l3 l4 : List (Int)) (v1_0 v1_1 v1_2 v1_3 v1_4 v1_5 v1_6 v1_7 v1_8 v1_9 v2_1 v2_2 v5 v8 v9 v10 : Int) (F d : Nat) (g : Gear) (p : Plan) (hgg : (⟨v1_0, ⟨v1_1, v1_2, v1_3, v1_4, v1_5, v1_6, v1_7⟩, v1_8, v1_9⟩ : Gear) = g) (hpp : (⟨l0, v2_1, v2_2⟩ : Plan) = p) (hp : planB g p = true) (hs : smallP p = true) (hfl : g.floors ≤ 12) :
    ∀ (m i N : Nat), m < N → i + m = (lenP g p).toNat → I_tick F (d + 3) N (S_tick l0 l3 (openL g p i) v1_0 v1_1 v1_2 v1_3 v1_4 v1_5 v1_6 v1_7 v1_8 v1_9 v2_1 v2_2 (lenP g p) (chimesT g p i) (idlesT g p i) ((i : Nat) : Int)) =
      some (.exit 0, (X_tick_1 l0 l3 (openL g p (lenP g p).toNat) v1_0 v1_1 v1_2 v1_3 v1_4 v1_5 v1_6 v1_7 v1_8 v1_9 v2_1 v2_2 (chimesT g p (lenP g p).toNat) (idlesT g p (lenP g p).toNat))) := by
  obtain ⟨hG, h2, h70, _⟩ := plan_facts hs hp
  have hr := (plan_parts hp).2.2
  have hb := lenR_bounds hG h2 h70 hr
  have hlead : v1_5 = g.times.lead := by rw [← hgg]
  have hgp3 : ∀ n, smallGP3 g p n = true := fun _ => hs
  have hf22 : few22 p = true := hs
  intro m
  induction m with
  | zero =>
    intro i N hN hi
    obtain ⟨N, rfl⟩ : ∃ k, N = k + 1 := ⟨N - 1, by omega⟩
    rw [step_tick]
    have e1 : decide (((i : Nat) : Int) < lenP g p) = false := by simp; omega
    have e2 : i = (lenP g p).toNat := by omega
    rw [e1, cond_false, e2]
  | succ m ih =>
    intro i N hN hi
    obtain ⟨N, rfl⟩ : ∃ k, N = k + 1 := ⟨N - 1, by omega⟩
    have ih' := ih (i + 1) N (by omega) (by omega)
    rw [step_tick]
    simp only [hgg, hpp]
    have h0 : 0 ≤ ((i : Nat) : Int) := by omega
    have h1 : ((i : Nat) : Int) < lenP g p := by omega
    have e1 : decide (((i : Nat) : Int) < lenP g p) = true := by simpa using h1
    obtain ⟨r1, r2, r3⟩ := car_floor hp (legs_floors h2 hr) h0 h1
    obtain ⟨c1, c2, c3⟩ := count_range g p i
    have hch := chimesT_next g p i
    have hid := idlesT_next g p i
    have hop := openL_next g p i r2 (by omega) rfl
    have hos := openL_stay g p i
    have hc : (cycle_At g p ((i : Nat) : Int)).1 = carAt g p i := rfl
    rw [hc] at *
    generalize carAt g p ((i : Nat) : Int) = c at *
    have e2 : ((cycle_At g p ((i : Nat) : Int)).2 != 0) = false := by rw [r1]; rfl
    have e3 : decide (c.floor < 0) = false := by simp; omega
    have e4 : decide (c.floor > 11) = false := by simp; omega
    have e5 : decide (0 ≤ c.floor) = true := by simpa using r2
    have e6 : decide (c.floor < ((12 : Nat) : Int)) = true := by simp; omega
    have e7 : decide (Int.toNat c.floor < (openL g p i).length) = true := by rw [openL_len]; simp; omega
    have w1 : IntKind.wrap IntKind.i64 (((i : Nat) : Int) + 1) = (((i + 1 : Nat)) : Int) := by rw [wrapI (by omega)]; omega
    have w2 : IntKind.wrap IntKind.i64 (chimesT g p i + 1) = chimesT g p i + 1 := wrapI (by omega)
    have w3 : IntKind.wrap IntKind.i64 (idlesT g p i + 1) = idlesT g p i + 1 := wrapI (by omega)
    have c4 := c3 c.floor.toNat (by omega)
    have w4 : IntKind.wrap IntKind.i64 ((openL g p i).getD c.floor.toNat 0 + 1) = (openL g p i).getD c.floor.toNat 0 + 1 := wrapI (by omega)
    have hb1 : Nat.ble l0.length l0.length = true := by simp
    have hb2 : Nat.beq l0.length l0.length = true := by simp
    simp only [e1, e2, e3, e4, e5, e6, e7, hb1, hb2, hf22, hgp3, w1, w2, w3, w4, hlead, Nat.zero_add, Bool.and_self, Bool.and_true, Bool.true_and, cond_true, cond_false]
    simp only [hlead] at ih'
    cases hd : c.door.phase == 2 with
    | false =>
      have k1 : chimeAt g.times.lead c = 0 := by simp only [chimeAt, hd, Bool.false_and, cond_false]
      rw [k1, Int.add_zero] at hch
      simp only [cond_false]
      rw [hos hd]
      cases hi0 : c.phase == 0 with
      | false =>
        have k2 : idleAt c = 0 := by simp only [idleAt, hi0, cond_false]
        rw [k2, Int.add_zero] at hid
        rw [cond_false, ← hch, ← hid]
        exact ih'
      | true =>
        have k2 : idleAt c = 1 := by simp only [idleAt, hi0, cond_true]
        rw [k2] at hid
        rw [cond_true, ← hch, ← hid]
        exact ih'
    | true =>
      simp only [cond_true]
      rw [hop hd]
      cases hl : c.door.left == g.times.lead with
      | false =>
        have k1 : chimeAt g.times.lead c = 0 := by simp only [chimeAt, hd, hl, Bool.and_false, cond_false]
        rw [k1, Int.add_zero] at hch
        simp only [cond_false]
        cases hi0 : c.phase == 0 with
        | false =>
          have k2 : idleAt c = 0 := by simp only [idleAt, hi0, cond_false]
          rw [k2, Int.add_zero] at hid
          rw [cond_false, ← hch, ← hid]
          exact ih'
        | true =>
          have k2 : idleAt c = 1 := by simp only [idleAt, hi0, cond_true]
          rw [k2] at hid
          rw [cond_true, ← hch, ← hid]
          exact ih'
      | true =>
        have k1 : chimeAt g.times.lead c = 1 := by simp only [chimeAt, hd, hl, Bool.and_self, cond_true]
        rw [k1] at hch
        simp only [cond_true]
        cases hi0 : c.phase == 0 with
        | false =>
          have k2 : idleAt c = 0 := by simp only [idleAt, hi0, cond_false]
          rw [k2, Int.add_zero] at hid
          rw [cond_false, ← hch, ← hid]
          exact ih'
        | true =>
          have k2 : idleAt c = 1 := by simp only [idleAt, hi0, cond_true]
          rw [k2] at hid
          rw [cond_true, ← hch, ← hid]
          exact ih'

theorem main_tick (l0 l3 l4 : List (Int)) (v1_0 v1_1 v1_2 v1_3 v1_4 v1_5 v1_6 v1_7 v1_8 v1_9 v2_1 v2_2 v5 v8 v9 v10 : Int) (hg : (roundOk (⟨v1_0, ⟨v1_1, v1_2, v1_3, v1_4, v1_5, v1_6, v1_7⟩, v1_8, v1_9⟩ : Gear) (⟨l0, v2_1, v2_2⟩ : Plan) && (noneOpen l4 && (v5 == lenP (⟨v1_0, ⟨v1_1, v1_2, v1_3, v1_4, v1_5, v1_6, v1_7⟩, v1_8, v1_9⟩ : Gear) (⟨l0, v2_1, v2_2⟩ : Plan) && (v8 == 0 && (v9 == 0 && v10 == 0))))) = true) : ∃ N d, I_tick N d N (S_tick l0 l3 l4 v1_0 v1_1 v1_2 v1_3 v1_4 v1_5 v1_6 v1_7 v1_8 v1_9 v2_1 v2_2 v5 v8 v9 v10) = some (altK Prod.mk [] (.exit 0) (X_tick_1 l0 l3 (wantL (⟨v1_0, ⟨v1_1, v1_2, v1_3, v1_4, v1_5, v1_6, v1_7⟩, v1_8, v1_9⟩ : Gear) (⟨l0, v2_1, v2_2⟩ : Plan)) v1_0 v1_1 v1_2 v1_3 v1_4 v1_5 v1_6 v1_7 v1_8 v1_9 v2_1 v2_2 (chimesR (⟨v1_0, ⟨v1_1, v1_2, v1_3, v1_4, v1_5, v1_6, v1_7⟩, v1_8, v1_9⟩ : Gear) (⟨l0, v2_1, v2_2⟩ : Plan)) (idlesR (⟨l0, v2_1, v2_2⟩ : Plan)))) := by
  simp only [Bool.and_eq_true, decide_eq_true_eq, beq_iff_eq, roundOk, planOk, noneOpen] at hg
  obtain ⟨⟨⟨hp, hs⟩, hfl⟩, h4, rfl, rfl, rfl, rfl⟩ := hg
  generalize hgg : (⟨v1_0, ⟨v1_1, v1_2, v1_3, v1_4, v1_5, v1_6, v1_7⟩, v1_8, v1_9⟩ : Gear) = g at *
  generalize hpp : (⟨l0, v2_1, v2_2⟩ : Plan) = p at *
  have hfl' : g.floors ≤ 12 := by rw [← hgg]; exact hfl
  have := go_tick l0 l3 l4 v1_0 v1_1 v1_2 v1_3 v1_4 v1_5 v1_6 v1_7 v1_8 v1_9 v2_1 v2_2 0 0 0 0 ((lenP g p).toNat + 1) 0 g p hgg hpp hp hs hfl' (lenP g p).toNat 0 ((lenP g p).toNat + 1) (by omega) (by omega)
  refine ⟨(lenP g p).toNat + 1, 3, ?_⟩
  subst h4
  rw [openL_zero, openL_all hp, show chimesT g p (lenP g p).toNat = chimesR g p from sum_chime hp, show idlesT g p (lenP g p).toNat = idlesR p from sum_idle hp] at this
  exact this

theorem go_want (l0 l3 l4 : List (Int)) (v1_0 v1_1 v1_2 v1_3 v1_4 v1_5 v1_6 v1_7 v1_8 v1_9 v2_1 v2_2 v8 v9 v13 v14 v15 v16 : Int) (F d : Nat) (hw : 0 ≤ v1_8 ∧ v1_8 ≤ 1000) : ∀ (suf pre : List Int) (v : Int) (n : Nat), suf.length < n → (pre ++ suf).length ≤ 70 →
    I_want F (d + 3) n (S_want (pre ++ suf) l3 l4 v1_0 v1_1 v1_2 v1_3 v1_4 v1_5 v1_6 v1_7 v1_8 v1_9 v2_1 v2_2 v8 v9 (((pre ++ suf).length : Nat) : Int) v14 v ((pre.length : Nat) : Int)) = some (.exit 4, (X_want_0 (pre ++ suf) l3 l4 v1_0 v1_1 v1_2 v1_3 v1_4 v1_5 v1_6 v1_7 v1_8 v1_9 v2_1 v2_2 v8 v9 (((pre ++ suf).length : Nat) : Int) v14 (cond (hasI suf v14) (2 * v1_8) v))) := by
  intro suf
  induction suf with
  | nil =>
    intro pre v n hn hl
    obtain ⟨n, rfl⟩ : ∃ k, n = k + 1 := ⟨n - 1, by omega⟩
    rw [step_want, idx_end, cond_false]
    simp [hasI]
  | cons x suf ih =>
    intro pre v n hn hl
    obtain ⟨n, rfl⟩ : ∃ k, n = k + 1 := ⟨n - 1, by omega⟩
    have ih' := fun v => ih (pre ++ [x]) v n (by simp at hn; omega) (by simpa using hl)
    have hl' : (pre ++ x :: suf).length ≤ 1048576 := by omega
    have hw' : IntKind.wrap IntKind.i64 (2 * v1_8) = 2 * v1_8 := wrapI (by omega)
    rw [step_want]
    simp only [idx_lt, idx_ge, Bool.and_self, Bool.true_or, cond_true, idx_nat, idx_at, idx_next hl', hw']
    simp only [← idx_step] at ih'
    rw [ih', ih']
    simp only [hasI, List.any_cons]
    cases x == v14
    · simp
    · cases (suf.any fun y => y == v14) <;> simp

theorem main_want (l0 l3 l4 : List (Int)) (v1_0 v1_1 v1_2 v1_3 v1_4 v1_5 v1_6 v1_7 v1_8 v1_9 v2_1 v2_2 v8 v9 v13 v14 v15 v16 : Int) (hg : (decide (l0.length ≤ 70) && (decide (0 ≤ v1_8) && (decide (v1_8 ≤ 1000) && (v13 == (l0.length : Int) && v16 == 0)))) = true) : ∃ N d, I_want N d N (S_want l0 l3 l4 v1_0 v1_1 v1_2 v1_3 v1_4 v1_5 v1_6 v1_7 v1_8 v1_9 v2_1 v2_2 v8 v9 v13 v14 v15 v16) = some (altK Prod.mk [] (.exit 4) (X_want_0 l0 l3 l4 v1_0 v1_1 v1_2 v1_3 v1_4 v1_5 v1_6 v1_7 v1_8 v1_9 v2_1 v2_2 v8 v9 v13 v14 (cond (hasI l0 v14) (2 * v1_8) v15))) := by
  simp only [Bool.and_eq_true, decide_eq_true_eq, beq_iff_eq] at hg
  obtain ⟨h1, h2, h3, rfl, rfl⟩ := hg
  have := go_want l0 l3 l4 v1_0 v1_1 v1_2 v1_3 v1_4 v1_5 v1_6 v1_7 v1_8 v1_9 v2_1 v2_2 v8 v9 0 v14 v15 0 (l0.length + 3) 0 ⟨h2, h3⟩ l0 [] v15 (l0.length + 3) (by omega) (by simpa using h1)
  exact ⟨l0.length + 3, 3, by simpa [altK] using this⟩

theorem go_floors (l0 l3 l4 : List (Int)) (v1_0 v1_1 v1_2 v1_3 v1_4 v1_5 v1_6 v1_7 v1_8 v1_9 v2_1 v2_2 v8 v9 v13 v14 : Int) (F d : Nat) (g : Gear) (p : Plan) (hgg : (⟨v1_0, ⟨v1_1, v1_2, v1_3, v1_4, v1_5, v1_6, v1_7⟩, v1_8, v1_9⟩ : Gear) = g) (hpp : (⟨l0, v2_1, v2_2⟩ : Plan) = p) (hp : planB g p = true) (hs : smallP p = true) :
    ∀ (m i N : Nat), m < N → i + m = 12 → I_floors F (d + 3) N (S_floors l0 l3 (wantL g p) v1_0 v1_1 v1_2 v1_3 v1_4 v1_5 v1_6 v1_7 v1_8 v1_9 v2_1 v2_2 v8 v9 ((l0.length : Nat) : Int) ((i : Nat) : Int)) = some (.exit 2, (X_floors_1 l0 l3 (wantL g p) v1_0 v1_1 v1_2 v1_3 v1_4 v1_5 v1_6 v1_7 v1_8 v1_9 v2_1 v2_2 v8 v9 ((l0.length : Nat) : Int))) := by
  obtain ⟨hG, h2, h70, _⟩ := plan_facts hs hp
  have hdw : v1_8 = g.dwell := by rw [← hgg]
  have hls : l0 = p.stops := by rw [← hpp]
  have hG' := hG
  simp only [gearB_iff, timesB_iff] at hG'
  intro m
  induction m with
  | zero =>
    intro i N hN hi
    obtain ⟨N, rfl⟩ : ∃ k, N = k + 1 := ⟨N - 1, by omega⟩
    rw [step_floors]
    have e1 : decide (((i : Nat) : Int) < 12) = false := by simp; omega
    rw [e1, cond_false]
  | succ m ih =>
    intro i N hN hi
    obtain ⟨N, rfl⟩ : ∃ k, N = k + 1 := ⟨N - 1, by omega⟩
    have ih' := ih (i + 1) N (by omega) (by omega)
    rw [step_floors]
    have hlen : l0.length = p.stops.length := by rw [hls]
    have e1 : decide (((i : Nat) : Int) < 12) = true := by simp; omega
    have e2 : decide (l0.length ≤ 70) = true := by simp; omega
    have e3 : decide (0 ≤ v1_8) = true := by simp; omega
    have e4 : decide (v1_8 ≤ 1000) = true := by simp; omega
    have e5 : decide ((0 : Int) < ((l0.length : Nat) : Int)) = true := by simp; omega
    have e6 : decide (0 < l0.length) = true := by simp; omega
    have w0 : IntKind.wrap IntKind.i64 (((l0.length : Nat) : Int) - 1) = ((l0.length : Nat) : Int) - 1 := wrapI (by omega)
    have e7 : decide (0 ≤ ((l0.length : Nat) : Int) - 1) = true := by simp; omega
    have e8 : decide (((l0.length : Nat) : Int) - 1 < ((l0.length : Nat) : Int)) = true := by simp; omega
    have e9 : decide (l0.length - 1 < l0.length) = true := by simp; omega
    have t1 : 0 + Int.toNat (((l0.length : Nat) : Int) - 1) = l0.length - 1 := by omega
    have e10 : decide (0 ≤ ((i : Nat) : Int)) = true := by simp
    have e11 : decide (((i : Nat) : Int) < ((12 : Nat) : Int)) = true := by simp; omega
    have e12 : decide (i < (wantL g p).length) = true := by rw [wantL_len]; simp; omega
    have t2 : 0 + Int.toNat ((i : Nat) : Int) = i := by omega
    have w1 : IntKind.wrap IntKind.i64 (((i : Nat) : Int) + 1) = (((i + 1 : Nat)) : Int) := by rw [wrapI (by omega)]; omega
    have hb2 : Nat.beq l0.length l0.length = true := by simp
    have hw := wantL_get g p (f := i) (by omega)
    simp only [e1, e2, e3, e4, e5, e6, w0, e7, e8, e9, t1, e10, e11, e12, t2, w1, hb2, hw, beq_self_eq_true, Bool.and_self, Bool.and_true, Bool.true_and, Bool.true_or, cond_true]
    unfold wantF
    rw [show (bif ((i : Nat) : Int) == l0.getD 0 0 then true else ((i : Nat) : Int) == l0.getD (l0.length - 1) 0) = (((i : Nat) : Int) == firstS p || ((i : Nat) : Int) == lastS p) by
      unfold firstS lastS
      rw [← hls]
      cases ((i : Nat) : Int) == l0.getD 0 0 <;> rfl]
    cases ((i : Nat) : Int) == firstS p || ((i : Nat) : Int) == lastS p with
    | true =>
      simp only [cond_true, hdw, bne_self_eq_false, cond_false]
      simp only [hdw] at ih'
      exact ih'
    | false =>
      simp only [cond_false, hls, hdw, bne_self_eq_false]
      simp only [hls, hdw] at ih'
      exact ih'

theorem main_floors (l0 l3 l4 : List (Int)) (v1_0 v1_1 v1_2 v1_3 v1_4 v1_5 v1_6 v1_7 v1_8 v1_9 v2_1 v2_2 v8 v9 v13 v14 : Int) (hg : (roundOk (⟨v1_0, ⟨v1_1, v1_2, v1_3, v1_4, v1_5, v1_6, v1_7⟩, v1_8, v1_9⟩ : Gear) (⟨l0, v2_1, v2_2⟩ : Plan) && (isWant (⟨v1_0, ⟨v1_1, v1_2, v1_3, v1_4, v1_5, v1_6, v1_7⟩, v1_8, v1_9⟩ : Gear) (⟨l0, v2_1, v2_2⟩ : Plan) l4 && (v13 == (l0.length : Int) && v14 == 0))) = true) : ∃ N d, I_floors N d N (S_floors l0 l3 l4 v1_0 v1_1 v1_2 v1_3 v1_4 v1_5 v1_6 v1_7 v1_8 v1_9 v2_1 v2_2 v8 v9 v13 v14) = some (altK Prod.mk [] (.exit 2) (X_floors_1 l0 l3 l4 v1_0 v1_1 v1_2 v1_3 v1_4 v1_5 v1_6 v1_7 v1_8 v1_9 v2_1 v2_2 v8 v9 v13)) := by
  simp only [Bool.and_eq_true, decide_eq_true_eq, beq_iff_eq, roundOk, planOk, isWant] at hg
  obtain ⟨⟨⟨hp, hs⟩, hfl⟩, h4, rfl, rfl⟩ := hg
  generalize hgg : (⟨v1_0, ⟨v1_1, v1_2, v1_3, v1_4, v1_5, v1_6, v1_7⟩, v1_8, v1_9⟩ : Gear) = g at *
  generalize hpp : (⟨l0, v2_1, v2_2⟩ : Plan) = p at *
  have := go_floors l0 l3 l4 v1_0 v1_1 v1_2 v1_3 v1_4 v1_5 v1_6 v1_7 v1_8 v1_9 v2_1 v2_2 v8 v9 0 0 13 0 g p hgg hpp hp hs 12 0 13 (by omega) (by omega)
  refine ⟨13, 3, ?_⟩
  subst h4
  exact this

theorem run_newellaw22_CycleRound (a0 : Gear) (a1 : Plan) : ∃ F d, run k48 F d 5 Try.f5 s_newellaw22_CycleRound (a0, a1, ()) = some (AV.bool true) := by
  refine ⟨200, 6, ?_⟩
  rw [tree_newellaw22_CycleRound]
  have hble : ∀ n : Nat, Nat.ble n n = true := fun n => Nat.ble_eq_true_of_le (Nat.le_refl n)
  cases hf : few22 a1 with
  | false => simp only [beqn, hble, Nat.zero_add, Bool.and_self, Bool.and_true, Bool.true_and, Bool.not_false, cond_true]
  | true =>
    have hs : smallP a1 = true := hf
    have hgp : smallGP a0 a1 = true := hf
    by_cases hsz : a0.floors > 12 ∨ a0.dwell > 20 ∨ a0.times.open_ > 9 ∨ a0.times.close > 9 ∨ a0.times.level > 9 ∨ a0.times.travel > 9
    · have : (bif bif bif bif bif bif false then true else decide (a0.floors > 12) then true else decide (a0.dwell > 20) then true else decide (a0.times.open_ > 9) then true else decide (a0.times.close > 9) then true else decide (a0.times.level > 9) then true else decide (a0.times.travel > 9)) = true := by
        simp only [cond_false]
        rcases hsz with h | h | h | h | h | h <;> simp only [h, decide_true, cond_true] <;> (repeat' split) <;> simp
      simp only [Bool.not_true, this, beqn, hble, Nat.zero_add, Bool.and_self, Bool.and_true, Bool.true_and, cond_true]
    · simp only [not_or] at hsz
      obtain ⟨z1, z2, z3, z4, z5, z6⟩ := hsz
      simp only [Bool.not_true, z1, z2, z3, z4, z5, z6, decide_false, cond_false, beqn, hble, Nat.zero_add, hf, hgp, Bool.and_self, Bool.and_true, Bool.true_and, cond_true]
      cases hp : planB a0 a1 with
      | false => rfl
      | true =>
        obtain ⟨hG, h2, h70, _⟩ := plan_facts hs hp
        have hr := (plan_parts hp).2.2
        have hro : roundOk a0 a1 = true := by
          simp only [roundOk, planOk, hp, hs, Bool.and_self, Bool.true_and, decide_eq_true_eq]; omega
        have hiw : isWant a0 a1 (wantL a0 a1) = true := by simp [isWant]
        have e0 : (errOf true 220 != 0) = false := rfl
        have e1 : (((a1.stops.length : Nat) : Int) == 0) = false := by rw [beq_eq_false_iff_ne]; omega
        have w0 : IntKind.wrap IntKind.i64 (((a1.stops.length : Nat) : Int) - 1) = ((a1.stops.length : Nat) : Int) - 1 := wrapI (by omega)
        have w1 : IntKind.wrap IntKind.i64 (2 * ((a1.stops.length : Nat) : Int)) = 2 * ((a1.stops.length : Nat) : Int) := wrapI (by omega)
        have w2 : IntKind.wrap IntKind.i64 (2 * ((a1.stops.length : Nat) : Int) - 2) = 2 * ((a1.stops.length : Nat) : Int) - 2 := wrapI (by omega)
        have t1 : Int.toNat (((a1.stops.length : Nat) : Int) - 1) = a1.stops.length - 1 := by omega
        have hfl : a0.floors ≤ 64 := by simp only [gearB_iff] at hG; omega
        have hall := chkR_all hr
        have hl := getD_mem (P := fun x => 0 ≤ x ∧ x < a0.floors) hall (show a1.stops.length - 1 < a1.stops.length by omega)
        have hf0 := getD_mem (P := fun x => 0 ≤ x ∧ x < a0.floors) hall (show 0 < a1.stops.length by omega)
        have w3 : IntKind.wrap IntKind.i64 (2 * (a1.stops.getD (a1.stops.length - 1) 0 - a1.stops.getD 0 0)) = 2 * (a1.stops.getD (a1.stops.length - 1) 0 - a1.stops.getD 0 0) := wrapI (by omega)
        have w5 : IntKind.wrap IntKind.i64 (a1.stops.getD (a1.stops.length - 1) 0 - a1.stops.getD 0 0) = a1.stops.getD (a1.stops.length - 1) 0 - a1.stops.getD 0 0 := wrapI (by omega)
        have w4 : IntKind.wrap IntKind.i64 (2 * ((a1.stops.length : Nat) : Int) - 2 + 2 * (a1.stops.getD (a1.stops.length - 1) 0 - a1.stops.getD 0 0)) = 2 * ((a1.stops.length : Nat) : Int) - 2 + 2 * (a1.stops.getD (a1.stops.length - 1) 0 - a1.stops.getD 0 0) := wrapI (by omega)
        have e7 : decide (0 ≤ ((a1.stops.length : Nat) : Int) - 1) = true := by simp; omega
        have e8 : decide (((a1.stops.length : Nat) : Int) - 1 < ((a1.stops.length : Nat) : Int)) = true := by simp; omega
        have e9 : decide (a1.stops.length - 1 < a1.stops.length) = true := by simp; omega
        have e5 : decide ((0 : Int) < ((a1.stops.length : Nat) : Int)) = true := by simp; omega
        have e6 : decide (0 < a1.stops.length) = true := by simp; omega
        have ch : (bif chimesR a0 a1 == 2 * ((a1.stops.length : Nat) : Int) - 2 then true else bif decide (a0.times.lead > a0.dwell) then chimesR a0 a1 == 0 else false) = true := by
          unfold chimesR
          cases decide (a0.times.lead > a0.dwell)
          · simp
          · simp only [cond_true, beq_self_eq_true]
            cases (0 : Int) == 2 * ((a1.stops.length : Nat) : Int) - 2 <;> rfl
        have id : (idlesR a1 == 2 * ((a1.stops.length : Nat) : Int) - 2 + 2 * (a1.stops.getD (a1.stops.length - 1) 0 - a1.stops.getD 0 0)) = true := by
          simp only [idlesR, lastS, firstS, beq_self_eq_true]
        simp only [hro, hiw, e0, e1, w0, w1, w2, w3, w4, w5, t1, e5, e6, e7, e8, e9, ch, id, beq_self_eq_true, Bool.and_self, Bool.and_true, Bool.true_and, Bool.true_or, cond_true, cond_false]
end Go.Proofs.Ytlnfojhmgncfiaa.Px.PxU
