/- A car that goes by itself, as plain functions. -/
import Derived.Test.YtdpdmjjpdebpeaaGreatPxSpecCar
import Derived.Test.YtdpdmjjpdebpeaaGreatPxSpecCycle
set_option linter.unusedVariables false
set_option linter.unusedSimpArgs false
namespace Go.Proofs.YtdpdmjjpdebpeaaGreat.Px
open Go

def deafM (mode : Int) : Bool := mode == 1 || (mode == 2 || mode == 3)
def gearO (c : Config) (mode : Int) : Gear := ⟨c.floors, c.times, cond (mode == 1) c.rest (cond (mode == 2) c.pater c.times.dwell), cond (deafM mode) 0 c.times.hold⟩
def gear0 : Gear := ⟨0, ⟨0, 0, 0, 0, 0, 0, 0⟩, 0, 0⟩
def errGear (c : Config) (mode : Int) : Int := cond (config_Check c == 0) (cond (decide (mode < 0) || decide (mode > 5)) 231 0) (config_Check c)
def auto_Gear (c : Config) (mode : Int) : Gear × Int := cond (errGear c mode == 0) (gearO c mode, 0) (gear0, errGear c mode)
def smallCM (c : Config) (_ : Int) : Bool := smallC c

/-- The floors, from the lowest on. -/
def floorsL (n : Int) : List Int := (List.range n.toNat).map fun (i : Nat) => (i : Int)
def plan0 : Plan := ⟨[], 0, 0⟩
def planO (c : Config) (mode nth : Int) : Plan := cond (mode == 1) ⟨c.stops, c.cars, nth⟩ (cond (mode == 2) ⟨floorsL c.floors, c.cars, nth⟩ plan0)
def planSm (c : Config) (_ _ : Int) : Bool := smallC c && decide (c.floors ≤ 1048576)

def plannedM (mode : Int) : Bool := mode == 1 || mode == 2
def homeO (c : Config) (mode nth : Int) : Int := cond (plannedM mode) (cycle_First (gearO c mode) (planO c mode nth)).1 c.park
def errHome (c : Config) (mode nth : Int) : Int := cond (config_Check c == 0) (cond (decide (mode < 1) || decide (mode > 5)) 231 (cond (decide (nth < 0) || decide (nth ≥ c.cars)) 230 0)) (config_Check c)
def smallCMN (c : Config) (_ _ : Int) : Bool := smallC c
def auto_Home (c : Config) (mode nth : Int) : Int × Plan × Int := cond (errHome c mode nth == 0) (homeO c mode nth, planO c mode nth, 0) (0, plan0, errHome c mode nth)
def settleO (c : Config) : Int := c.floors * c.times.travel + 480
def auto_Settle (c : Config) : Int × Int := cond (config_Check c == 0) (settleO c, 0) (0, config_Check c)
def errAuto (a : Auto) : Int := cond (errHome a.config a.mode a.nth == 0) (cond (decide (a.age < 0) || !carB a.config.floors a.car) 230 0) (errHome a.config a.mode a.nth)
def smallA (a : Auto) : Bool := smallC a.config && decide (a.age ≤ 9223372036854775807)
def movesO (c : Config) (mode nth : Int) : Moves := ⟨planO c mode nth, gearO c mode, homeO c mode nth⟩
def homeOk (c : Config) (mode nth : Int) : Bool := errHome c mode nth == 0 && smallC c
/-- The tick of its round that a car is in, and whether it is in step. -/
def tickM (a : Auto) (m : Moves) : Int × Bool := cond (decide (a.age < settleO a.config)) (0, false)
  (cond (m.plan.stops.length == 0) (0, decide (a.car = idleC m.home))
    ((a.age - settleO a.config).tmod (lenP m.gear m.plan), decide (a.car = (cycle_At m.gear m.plan ((a.age - settleO a.config).tmod (lenP m.gear m.plan))).1)))
def tickOk (a : Auto) (m : Moves) : Bool := smallA a && (config_Check a.config == 0 && (decide (0 ≤ a.age) && (m.plan.stops.length == 0 || planOk m.gear m.plan)))
def toldM (a : Auto) (m : Moves) (key : Bool) : Int := cond ((tickM a m).2 && decide (m.plan.stops.length > 0)) (cycle_Cmd m.gear m.plan (tickM a m).1).1
  (cond ((tickM a m).2 && (key && a.mode == 4)) 3 (cond (tickM a m).2 0 (cond (decide (a.car.floor < m.home)) 1 (cond (decide (a.car.floor > m.home)) 2 0))))
def toldMOk (a : Auto) (m : Moves) (_ : Bool) : Bool := tickOk a m
def movesA (a : Auto) : Moves := movesO a.config a.mode a.nth
def inStepO (a : Auto) : Bool := (tickM a (movesA a)).2
def toldO (a : Auto) (key : Bool) : Int := toldM a (movesA a) key
def auto_InStep (a : Auto) : Bool × Int := cond (errAuto a == 0) (inStepO a, 0) (false, errAuto a)
def stepA (a : Auto) (t : Touch) : Car × OutT × Int := car_Step (gearO a.config a.mode) a.car ⟨toldO a t.key, t.held, t.fault⟩
def auto_Step (a : Auto) (t : Touch) : Car × OutT × Int := cond (errAuto a == 0) (stepA a t) (car0, out0, errAuto a)
def smallAT (a : Auto) (_ : Touch) : Bool := smallA a
def own23 (a : Auto) : Auto := a

def autoOk (a : Auto) : Bool := errAuto a == 0 && smallA a
def autoOkT (a : Auto) (_ : Touch) : Bool := autoOk a
def autoOkK (a : Auto) (_ : Bool) : Bool := autoOk a
def confOk (c : Config) : Bool := config_Check c == 0 && smallC c
def phaseO (a : Auto) : Int := (a.age - settleO a.config).tmod (lenP (gearO a.config a.mode) (planO a.config a.mode a.nth))
def goingO (a : Auto) : Going := goingAt (gearO a.config a.mode) (planO a.config a.mode a.nth) (phaseO a)
def going0 : Going := ⟨⟨0, 0, 0, 0, ⟨0, 0, 0⟩⟩, 0, 0⟩
def goingG (a : Auto) : Going × Bool := cond (plannedM a.mode && !decide (a.age < settleO a.config)) (goingO a, true) (going0, false)
def stepG (a : Auto) (t : Touch) : CarStepped := stepC (gearO a.config a.mode) a.car ⟨toldO a t.key, t.held, t.fault⟩
end Go.Proofs.YtdpdmjjpdebpeaaGreat.Px


namespace Go.Proofs.YtdpdmjjpdebpeaaGreat.Px
open Go

theorem orE_zero {a b : Int} : orE a b = 0 ↔ a = 0 ∧ b = 0 := by
  unfold orE
  cases h : (a == 0)
  · have : a ≠ 0 := by simpa using h
    simp [this]
  · have : a = 0 := by simpa using h
    simp [this]

theorem errIf_zero {b : Bool} {e : Int} (he : e ≠ 0) : errIf b e = 0 ↔ b = true := by cases b <;> simp [errIf, he]

/-- The park's top is no wrap. -/
theorem conf_facts {c : Config} (h : config_Check c = 0) : (2 ≤ c.floors ∧ c.floors ≤ 64) ∧ (1 ≤ c.cars ∧ c.cars ≤ 8) ∧ (0 ≤ c.park ∧ c.park ≤ c.floors - 1) ∧ 2 ≤ c.stops.length ∧ chkR c.floors none c.stops = true ∧ timesC c = true := by
  simp only [config_Check, orE_zero] at h
  obtain ⟨h1, h2, h3, _⟩ := h
  rw [config_size, errIf_zero (by decide)] at h1
  rw [config_stops, errIf_zero (by decide)] at h2
  rw [config_times, errIf_zero (by decide)] at h3
  simp only [sizeB, Bool.and_eq_true, inB_iff] at h1
  simp only [stopsB, Bool.and_eq_true, decide_eq_true_eq] at h2
  have hw : IntKind.wrap IntKind.i64 (c.floors - 1) = c.floors - 1 := IntWalk.i64_in _ (by omega)
  rw [hw] at h1 h2
  refine ⟨h1.1.1, h1.1.2, h1.2, h2.1, ?_, h3⟩
  rw [← h2.2]
  unfold chkR chkS
  congr 1
  funext x
  rw [Bool.eq_iff_iff]
  simp only [Bool.and_eq_true, decide_eq_true_eq, inB_iff]
  omega

theorem gear_may {c : Config} (h : config_Check c = 0) (mode : Int) : gearB (gearO c mode) = true := by
  obtain ⟨h1, _, _, _, _, h6⟩ := conf_facts h
  simp only [timesC, tickB, Bool.and_eq_true, inB_iff, decide_eq_true_eq] at h6
  obtain ⟨⟨⟨⟨⟨⟨⟨⟨⟨⟨⟨t1, t2⟩, t3⟩, t4⟩, t5⟩, t6⟩, t7⟩, t8⟩, t9⟩, t10⟩, t11⟩, t12⟩ := h6
  rw [gearB_iff]
  refine ⟨timesB_iff.2 ⟨t1, t2, t3, t4, ⟨t9, ?_⟩, t5, t6⟩, h1, ?_, ?_⟩
  · show c.times.lead ≤ 60
    omega
  · show 1 ≤ cond (mode == 1) c.rest (cond (mode == 2) c.pater c.times.dwell) ∧ cond (mode == 1) c.rest (cond (mode == 2) c.pater c.times.dwell) ≤ 300
    cases (mode == 1) <;> cases (mode == 2) <;> simp only [cond_true, cond_false] <;> omega
  · show 0 ≤ cond (deafM mode) 0 c.times.hold ∧ cond (deafM mode) 0 c.times.hold ≤ 60
    cases deafM mode <;> simp only [cond_true, cond_false] <;> omega

theorem chkR_len {fl : Int} : ∀ {l : List Int} {p : Int}, chkR fl (some p) l = true → l = [] ∨ (l.length : Int) + p < fl
  | [], _, _ => .inl rfl
  | x :: l, p, h => by
    simp only [chkR, chkG, Bool.and_eq_true, decide_eq_true_eq] at h
    obtain ⟨⟨h1, h2⟩, h3⟩ := h
    right
    rcases chkR_len (l := l) (p := x) h3 with rfl | h4
    · simp; omega
    · simp only [List.length_cons]; omega

theorem chkR_len0 {fl : Int} {l : List Int} (h0 : 0 ≤ fl) (h : chkR fl none l = true) : (l.length : Int) ≤ fl := by
  cases l with
  | nil => simpa using h0
  | cons x l =>
    simp only [chkR, chkG, Bool.and_eq_true, decide_eq_true_eq] at h
    rcases chkR_len (l := l) (p := x) h.2 with rfl | h4
    · simp; omega
    · simp only [List.length_cons]; omega

theorem floorsL_length (n : Int) : (floorsL n).length = n.toNat := by simp [floorsL]

theorem chkR_range {fl : Int} : ∀ (k s : Nat), (s : Int) + k ≤ fl → ∀ p : Option Int, (∀ q, p = some q → q < s) → chkR fl p ((List.range' s k).map fun (i : Nat) => (i : Int)) = true
  | 0, s, _, p, _ => by cases p <;> rfl
  | k + 1, s, h, p, hp => by
    rw [List.range'_succ, List.map_cons]
    have ih := chkR_range (fl := fl) k (s + 1) (by omega) (some (s : Int)) (fun q e => by cases e; omega)
    unfold chkR at ih
    have h0 : decide ((0 : Int) ≤ (s : Int)) = true := by simp
    have h1 : decide ((s : Int) < fl) = true := by simp; omega
    cases p with
    | none => simp only [chkR, chkG, h0, h1, ih, Bool.and_self]
    | some q =>
      have h2 : decide (q < (s : Int)) = true := by simp; exact hp q rfl
      simp only [chkR, chkG, h0, h1, h2, ih, Bool.and_self]

theorem chkR_floors {n : Int} (h : 0 ≤ n) : chkR n none (floorsL n) = true := by
  have := chkR_range (fl := n) n.toNat 0 (by omega) none (fun q e => by cases e)
  unfold floorsL
  rwa [List.range_eq_range']

/-- A plan of a mode that has plans may be. -/
theorem plan_may {c : Config} {mode nth : Int} (h : config_Check c = 0) (hp : plannedM mode = true) (h0 : 0 ≤ nth) (hn : nth < c.cars) :
    planB (gearO c mode) (planO c mode nth) = true ∧ (planO c mode nth).stops.length ≤ 64 ∧ 2 ≤ (planO c mode nth).stops.length ∧ (planO c mode nth).cars = c.cars ∧ (planO c mode nth).car = nth := by
  obtain ⟨h1, h2, h3, h4, h5, h6⟩ := conf_facts h
  have hg := gear_may h mode
  have hlen := chkR_len0 (by omega) h5
  have key : ∀ p : Plan, planO c mode nth = p → p.cars = c.cars → p.car = nth → 2 ≤ p.stops.length → p.stops.length ≤ 64 → chkR c.floors none p.stops = true →
      planB (gearO c mode) (planO c mode nth) = true ∧ (planO c mode nth).stops.length ≤ 64 ∧ 2 ≤ (planO c mode nth).stops.length ∧ (planO c mode nth).cars = c.cars ∧ (planO c mode nth).car = nth := by
    intro p e e1 e2 e3 e4 e5
    rw [e]
    refine ⟨?_, e4, e3, e1, e2⟩
    simp only [planB, Bool.and_eq_true, decide_eq_true_eq, e1, e2]
    exact ⟨e3, h2.1, h2.2, h0, hn, e5, hg⟩
  unfold plannedM at hp
  cases m1 : (mode == 1)
  · cases m2 : (mode == 2)
    · rw [m1, m2] at hp; cases hp
    · exact key ⟨floorsL c.floors, c.cars, nth⟩ (by simp [planO, m1, m2]) rfl rfl (by simp only [floorsL_length]; omega) (by simp only [floorsL_length]; omega) (chkR_floors (by omega))
  · exact key ⟨c.stops, c.cars, nth⟩ (by simp [planO, m1]) rfl rfl h4 (show c.stops.length ≤ 64 by omega) h5

theorem plan_none {c : Config} {mode nth : Int} (hp : plannedM mode = false) : planO c mode nth = plan0 := by
  unfold plannedM at hp
  simp only [Bool.or_eq_false_iff] at hp
  simp [planO, hp.1, hp.2]

theorem errHome_zero {c : Config} {mode nth : Int} (h : errHome c mode nth = 0) : config_Check c = 0 ∧ (1 ≤ mode ∧ mode ≤ 5) ∧ 0 ≤ nth ∧ nth < c.cars := by
  unfold errHome at h
  cases h1 : (config_Check c == 0)
  · rw [h1, cond_false] at h
    rw [h] at h1
    cases h1
  · rw [h1, cond_true] at h
    cases h2 : (decide (mode < 1) || decide (mode > 5))
    · rw [h2, cond_false] at h
      cases h3 : (decide (nth < 0) || decide (nth ≥ c.cars))
      · simp only [Bool.or_eq_false_iff, decide_eq_false_iff_not] at h2 h3
        exact ⟨by simpa using h1, by omega, by omega, by omega⟩
      · rw [h3, cond_true] at h
        cases h
    · rw [h2, cond_true] at h
      cases h

theorem errGear_zero {c : Config} {mode nth : Int} (h : errHome c mode nth = 0) : errGear c mode = 0 := by
  obtain ⟨h1, h2, _⟩ := errHome_zero h
  unfold errGear
  rw [h1]
  have : (decide (mode < 0) || decide (mode > 5)) = false := by simp; omega
  rw [this]
  rfl

theorem errAuto_zero {a : Auto} (h : errAuto a = 0) : errHome a.config a.mode a.nth = 0 ∧ 0 ≤ a.age ∧ carB a.config.floors a.car = true := by
  unfold errAuto at h
  cases h1 : (errHome a.config a.mode a.nth == 0)
  · rw [h1, cond_false] at h
    rw [h] at h1
    cases h1
  · rw [h1, cond_true] at h
    cases h2 : (decide (a.age < 0) || !carB a.config.floors a.car)
    · simp only [Bool.or_eq_false_iff, decide_eq_false_iff_not, Bool.not_eq_false'] at h2
      exact ⟨by simpa using h1, by omega, h2.2⟩
    · rw [h2, cond_true] at h
      cases h

theorem settle_wrap {c : Config} (h : config_Check c = 0) : (0 ≤ c.floors * c.times.travel ∧ c.floors * c.times.travel ≤ 3840) := by
  obtain ⟨h1, _, _, _, _, h6⟩ := conf_facts h
  simp only [timesC, tickB, Bool.and_eq_true, inB_iff, decide_eq_true_eq] at h6
  obtain ⟨⟨⟨⟨⟨⟨⟨⟨⟨⟨⟨t1, _⟩, _⟩, _⟩, _⟩, _⟩, _⟩, _⟩, _⟩, _⟩, _⟩, _⟩ := h6
  refine ⟨Int.mul_nonneg (by omega) (by omega), ?_⟩
  calc c.floors * c.times.travel ≤ 64 * c.times.travel := Int.mul_le_mul_of_nonneg_right h1.2 (by omega)
    _ ≤ 64 * 60 := Int.mul_le_mul_of_nonneg_left t1.2 (by omega)

theorem small_of {c : Config} (h : config_Check c = 0) : c.stops.length ≤ 64 := by
  obtain ⟨h1, _, _, _, h5, _⟩ := conf_facts h
  have := chkR_len0 (by omega) h5
  omega
end Go.Proofs.YtdpdmjjpdebpeaaGreat.Px
