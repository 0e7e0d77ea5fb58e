/- Doors and cars, as plain functions. -/
import Derived.Test.YtlnfojhmgncfiaaPxApi0
set_option linter.unusedVariables false
set_option linter.unusedSimpArgs false
namespace Go.Proofs.Ytlnfojhmgncfiaa.Px
open Go

def wthin (n lo hi : Int) : Bool := decide (lo ≤ n) && decide (n ≤ hi)
def errOf (b : Bool) (e : Int) : Int := cond b 0 e

def tick17 (n : Int) : Bool := wthin n 1 60
def timesB (t : Times) : Bool := wthin t.travel 1 60 && wthin t.level 1 60 && wthin t.open_ 1 60 && wthin t.dwell 1 60 && wthin t.lead 1 60 && wthin t.close 1 60 && wthin t.hold 0 60
def gearB (g : Gear) : Bool := timesB g.times && wthin g.floors 2 64 && wthin g.dwell 1 300 && wthin g.most 0 60

/-- How many ticks of a phase are left at most. -/
def mostOf (p : Int) : Int := cond (p == 0) 0 (cond (p == 2) 300 60)
def doorB (d : Door) : Bool := wthin d.phase 0 3 && (wthin d.left (cond (d.phase == 0) 0 1) (mostOf d.phase) && wthin d.held 0 (cond (d.phase == 0) 0 60))

def door0 : Door := ⟨0, 0, 0⟩
def askD (t : Times) (d : Door) : Door := cond (d.phase == 0) ⟨1, t.open_, 0⟩ d
def isHeld (g : Gear) (d : Door) (by_ : Bool) : Bool := by_ && decide (d.held < g.most)
def heldD (g : Gear) (d : Door) : Door := cond (d.phase == 2) ⟨2, g.dwell, d.held + 1⟩ ⟨1, g.times.open_, d.held + 1⟩
def goesD (g : Gear) (d : Door) : Door := cond (decide (d.left > 1)) ⟨d.phase, d.left - 1, d.held⟩ (cond (d.phase == 1) ⟨2, g.dwell, d.held⟩ (cond (d.phase == 2) ⟨3, g.times.close, d.held⟩ door0))
def stepD (g : Gear) (d : Door) (by_ : Bool) : DoorStepped :=
  cond (d.phase == 0) ⟨d, false⟩ (cond (isHeld g d by_ && decide (d.phase > 1)) ⟨heldD g d, false⟩ ⟨goesD g d, d.phase == 2 && d.left == g.times.lead⟩)
def restD (g : Gear) (d : Door) : Int :=
  cond (d.phase == 0) 0 (d.left + cond (d.phase == 1) (g.dwell + g.times.close) (cond (d.phase == 2) g.times.close 0) + cond (decide (g.most > d.held)) ((g.most - d.held) * (g.times.open_ + g.dwell + g.times.close)) 0)

def onD (d : Door) (next left : Int) : Door := cond (IntKind.i64.wrap (d.left - 1) == 0) ⟨next, left, d.held⟩ ⟨d.phase, IntKind.i64.wrap (d.left - 1), d.held⟩
def phase1 (_ : Gear) (d : Door) (_ : Bool) : Door := d
def phase2 (g : Gear) (d : Door) (_ : Bool) : Door := onD d 2 g.dwell
def openD (g : Gear) (d : Door) (held : Bool) : Door := cond held ⟨d.phase, g.dwell, IntKind.i64.wrap (d.held + 1)⟩ (onD d 3 g.times.close)
def closingD (g : Gear) (d : Door) (held : Bool) : Door := cond held ⟨1, g.times.open_, IntKind.i64.wrap (d.held + 1)⟩ (cond ((onD d 0 0).phase == 0) ⟨(onD d 0 0).phase, (onD d 0 0).left, 0⟩ (onD d 0 0))

def dStepOk (g : Gear) (d : Door) : Bool := gearB g && doorB d
def dStepOk2 (g : Gear) (d : Door) (_ : Bool) : Bool := gearB g && doorB d

def door_Check (d : Door) : Int := errOf (doorB d) 170
def door_Ask (t : Times) (d : Door) : Door × Int := (cond (timesB t && doorB d) (askD t d) door0, errOf (timesB t && doorB d) 170)
def door_Step (g : Gear) (d : Door) (held : Bool) : Door × Bool × Int := (cond (dStepOk g d) (stepD g d held).d door0, (dStepOk g d) && (stepD g d held).chime, errOf (dStepOk g d) 170)
def door_Rest (g : Gear) (d : Door) : Int × Int := (cond (dStepOk g d) (restD g d) 0, errOf (dStepOk g d) 170)

def carB (floors : Int) (c : Car) : Bool :=
  wthin floors 2 64 && (wthin c.floor 0 (floors - 1) && (doorB c.door &&
    cond (c.phase == 0) (c.dir == 0 && (c.left == 0 && c.door.phase == 0))
    (cond (c.phase == 1) ((c.dir == 1 || c.dir == -1) && (wthin (c.floor + c.dir) 0 (floors - 1) && (wthin c.left 1 60 && c.door.phase == 0)))
    (cond (c.phase == 2) (c.dir == 0 && (wthin c.left 1 60 && c.door.phase == 0))
    (c.phase == 3 && (c.dir == 0 && (c.left == 0 && !(c.door.phase == 0))))))))

def car0 : Car := ⟨0, 0, 0, 0, door0⟩
def out0 : OutT := ⟨0, 0, 0, false⟩
def beganC (g : Gear) (c : Car) (cmd : Int) : Car :=
  cond (cmd == 1 && decide (c.floor + 1 < g.floors)) ⟨c.floor, 1, 1, g.times.travel, door0⟩
  (cond (cmd == 2 && decide (c.floor > 0)) ⟨c.floor, -1, 1, g.times.travel, door0⟩
  (cond (cmd == 3) ⟨c.floor, 0, 2, g.times.level, door0⟩ c))
/-- A tick of a car that has begun. -/
def tickC (g : Gear) (c : Car) (held : Bool) : Car :=
  cond (c.phase == 3) ⟨c.floor, c.dir, cond ((stepD g c.door held).d.phase == 0) 0 3, c.left, (stepD g c.door held).d⟩
  (cond (c.phase == 0) c
  (cond (decide (c.left > 1)) ⟨c.floor, c.dir, c.phase, c.left - 1, c.door⟩
  (cond (c.phase == 1) ⟨c.floor + c.dir, 0, 0, 0, door0⟩ ⟨c.floor, c.dir, 3, 0, ⟨1, g.times.open_, 0⟩⟩)))
def begunC (g : Gear) (c : Car) (cmd : Int) : Car := cond (c.phase == 0) (beganC g c cmd) c
def stepC (g : Gear) (c : Car) (o : Order) : CarStepped :=
  cond o.fault ⟨c, ⟨0, c.door.phase, c.floor, false⟩⟩
  ⟨tickC g (begunC g c o.cmd) o.held, ⟨(begunC g c o.cmd).dir, c.door.phase, c.floor, c.phase == 3 && (stepD g c.door o.held).chime⟩⟩
def restC (g : Gear) (c : Car) : Int := cond (c.phase == 1) c.left (cond (c.phase == 2) (c.left + restD g ⟨1, g.times.open_, 0⟩) (restD g c.door))

def carOk (g : Gear) (c : Car) : Bool := gearB g && carB g.floors c
def car_Check (floors : Int) (c : Car) : Int := errOf (carB floors c) 180
def car_check (g : Gear) (c : Car) : Int := errOf (carOk g c) 180
def stepOk (g : Gear) (c : Car) (o : Order) : Bool := carOk g c && wthin o.cmd 0 3
def car_Step (g : Gear) (c : Car) (o : Order) : Car × OutT × Int :=
  (cond (stepOk g c o) (stepC g c o).c car0, cond (stepOk g c o) (stepC g c o).o out0, cond (carOk g c) (errOf (wthin o.cmd 0 3) 181) 180)
def car_Rest (g : Gear) (c : Car) : Int × Int := (cond (carOk g c) (restC g c) 0, errOf (carOk g c) 180)

theorem wthin_iff {n lo hi : Int} : wthin n lo hi = true ↔ lo ≤ n ∧ n ≤ hi := by simp [wthin]
theorem timesB_iff {t : Times} : timesB t = true ↔ (1 ≤ t.travel ∧ t.travel ≤ 60) ∧ (1 ≤ t.level ∧ t.level ≤ 60) ∧ (1 ≤ t.open_ ∧ t.open_ ≤ 60) ∧ (1 ≤ t.dwell ∧ t.dwell ≤ 60) ∧ (1 ≤ t.lead ∧ t.lead ≤ 60) ∧ (1 ≤ t.close ∧ t.close ≤ 60) ∧ (0 ≤ t.hold ∧ t.hold ≤ 60) := by
  simp only [timesB, wthin, Bool.and_eq_true, decide_eq_true_eq, and_assoc]
theorem gearB_iff {g : Gear} : gearB g = true ↔ timesB g.times = true ∧ (2 ≤ g.floors ∧ g.floors ≤ 64) ∧ (1 ≤ g.dwell ∧ g.dwell ≤ 300) ∧ (0 ≤ g.most ∧ g.most ≤ 60) := by
  simp only [gearB, wthin, Bool.and_eq_true, decide_eq_true_eq, and_assoc]
theorem doorB_iff {d : Door} : doorB d = true ↔ (d.phase = 0 ∧ d.left = 0 ∧ d.held = 0) ∨ ((d.phase = 1 ∨ d.phase = 3) ∧ 1 ≤ d.left ∧ d.left ≤ 60 ∧ 0 ≤ d.held ∧ d.held ≤ 60) ∨ (d.phase = 2 ∧ 1 ≤ d.left ∧ d.left ≤ 300 ∧ 0 ≤ d.held ∧ d.held ≤ 60) := by
  simp only [doorB, mostOf, wthin, Bool.and_eq_true, decide_eq_true_eq, Bool.cond_eq_ite, beq_iff_eq]
  omega
theorem carB_iff {n : Int} {c : Car} : carB n c = true ↔ (2 ≤ n ∧ n ≤ 64) ∧ (0 ≤ c.floor ∧ c.floor ≤ n - 1) ∧ doorB c.door = true ∧ ((c.phase = 0 ∧ c.dir = 0 ∧ c.left = 0 ∧ c.door.phase = 0) ∨
    (c.phase = 1 ∧ (c.dir = 1 ∨ c.dir = -1) ∧ 0 ≤ c.floor + c.dir ∧ c.floor + c.dir ≤ n - 1 ∧ 1 ≤ c.left ∧ c.left ≤ 60 ∧ c.door.phase = 0) ∨
    (c.phase = 2 ∧ c.dir = 0 ∧ 1 ≤ c.left ∧ c.left ≤ 60 ∧ c.door.phase = 0) ∨ (c.phase = 3 ∧ c.dir = 0 ∧ c.left = 0 ∧ c.door.phase ≠ 0)) := by
  simp only [carB, wthin, Bool.and_eq_true, decide_eq_true_eq]
  by_cases h0 : c.phase = 0
  · simp [h0]; try omega
  by_cases h1 : c.phase = 1
  · simp [h1]; omega
  by_cases h2 : c.phase = 2
  · simp [h2]; omega
  simp [h0, h1, h2]

theorem restD_bound (g : Gear) (d : Door) (hg : gearB g = true) (hd : doorB d = true) : 0 ≤ restD g d ∧ restD g d ≤ 100000 ∧ (restD g d = 0 ↔ d.phase = 0) := by
  simp only [gearB_iff, timesB_iff, doorB_iff] at hg hd
  have hm : g.most > d.held → 0 ≤ (g.most - d.held) * (g.times.open_ + g.dwell + g.times.close) ∧ (g.most - d.held) * (g.times.open_ + g.dwell + g.times.close) ≤ 60 * 420 := fun h => ⟨Int.mul_nonneg (by omega) (by omega), Int.mul_le_mul (by omega) (by omega) (by omega) (by omega)⟩
  simp only [restD, Bool.cond_eq_ite, beq_iff_eq, decide_eq_true_eq]
  generalize (g.most - d.held) * (g.times.open_ + g.dwell + g.times.close) = m at *
  omega

def plainGear : Gear := ⟨4, ⟨2, 1, 2, 4, 1, 2, 3⟩, 4, 0⟩
def alive : Bool := true
end Go.Proofs.Ytlnfojhmgncfiaa.Px


namespace Go.Proofs.Ytlnfojhmgncfiaa.Px
open Go

theorem stepD_doorB {g : Gear} {d : Door} (h : Bool) (hG : gearB g = true) (hD : doorB d = true) : doorB (stepD g d h).d = true := by
  obtain ⟨p, l, hh⟩ := d
  simp only [gearB_iff, timesB_iff, doorB_iff] at *
  simp only [stepD, heldD, goesD, isHeld, door0, Bool.cond_eq_ite, beq_iff_eq, Bool.and_eq_true, decide_eq_true_eq]
  repeat' split
  all_goals (dsimp only; omega)

theorem stepD_chime {g : Gear} {d : Door} (h : Bool) (hc : (stepD g d h).chime = true) : d.phase = 2 := by
  obtain ⟨p, l, hh⟩ := d
  simp only [stepD, Bool.cond_eq_ite] at hc
  split at hc
  · cases hc
  · split at hc
    · cases hc
    · simp only [Bool.and_eq_true, beq_iff_eq] at hc
      exact hc.1

theorem stepC_facts {g : Gear} {c : Car} {o : Order} (h : stepOk g c o = true) :
    carB g.floors (stepC g c o).c = true ∧ (stepC g c o).o.floor = c.floor ∧ (-1 ≤ (stepC g c o).c.floor - c.floor ∧ (stepC g c o).c.floor - c.floor ≤ 1) ∧
    ((stepC g c o).o.motor ≠ 0 → (stepC g c o).o.door = 0 ∧ (stepC g c o).c.door.phase = 0 ∧ (stepC g c o).o.chime = false) ∧
    ((stepC g c o).c.floor ≠ c.floor → (stepC g c o).o.motor = (stepC g c o).c.floor - c.floor) ∧
    ((stepC g c o).o.door = 0 ∨ ((stepC g c o).o.motor = 0 ∧ (stepC g c o).c.floor = c.floor ∧ (stepC g c o).c.phase ≠ 1)) ∧
    ((stepC g c o).o.chime = true → (stepC g c o).o.door = 2) := by
  obtain ⟨fl, dr, ph, lf, ⟨dp, dl, dh⟩⟩ := c
  obtain ⟨cmd, held, fault⟩ := o
  simp only [stepOk, carOk, Bool.and_eq_true] at h
  obtain ⟨⟨hG, hB⟩, hC⟩ := h
  have hB' := hB
  simp only [carB_iff, wthin_iff] at hB' hC
  obtain ⟨hF, hf, hD, hP⟩ := hB'
  cases fault
  case true =>
    simp only [stepC, cond_true]
    refine ⟨hB, ?_, ?_, ?_, ?_, ?_, ?_⟩ <;> simp <;> omega
  have hN := stepD_doorB held hG hD
  have hch := stepD_chime (g := g) (d := ⟨dp, dl, dh⟩) held
  simp only [gearB_iff, timesB_iff] at hG
  simp only [stepC, begunC, beganC, tickC, door0, cond_false]
  rcases hP with ⟨rfl, rfl, rfl, rfl⟩ | ⟨rfl, hdr, hlo, hhi, hl1, hl2, rfl⟩ | ⟨rfl, rfl, hl1, hl2, rfl⟩ | ⟨rfl, rfl, rfl, hd0⟩
  · obtain rfl | rfl | rfl | rfl : cmd = 0 ∨ cmd = 1 ∨ cmd = 2 ∨ cmd = 3 := by omega
    all_goals simp [Bool.cond_eq_ite]
    all_goals (repeat' split)
    all_goals simp [carB_iff, doorB_iff] at *
    all_goals omega
  · simp [Bool.cond_eq_ite]
    all_goals (repeat' split)
    all_goals simp [carB_iff, doorB_iff] at *
    all_goals omega
  · simp [Bool.cond_eq_ite]
    all_goals (repeat' split)
    all_goals simp [carB_iff, doorB_iff] at *
    all_goals omega
  · simp [Bool.cond_eq_ite]
    generalize stepD g ⟨dp, dl, dh⟩ held = sd at *
    obtain ⟨⟨p, l, q⟩, ch⟩ := sd
    simp only at *
    refine ⟨?_, ?_⟩
    · simp only [carB_iff]
      refine ⟨hF, hf, hN, ?_⟩
      split <;> simp <;> omega
    · refine ⟨?_, hch⟩
      split <;> simp
end Go.Proofs.Ytlnfojhmgncfiaa.Px


namespace Go.Proofs.Ytlnfojhmgncfiaa.Px
open Go

theorem restD_falls {g : Gear} {d : Door} (h : Bool) (hG : gearB g = true) (hD : doorB d = true) (hp : d.phase ≠ 0) : restD g (stepD g d h).d ≤ restD g d - 1 := by
  obtain ⟨p, l, q⟩ := d
  simp only [gearB_iff, timesB_iff, doorB_iff] at hG hD
  simp only at hp
  simp only [stepD, heldD, goesD, isHeld, door0, restD, Bool.cond_eq_ite, beq_iff_eq, Bool.and_eq_true, decide_eq_true_eq]
  have e1 : (g.most - (q + 1)) * (g.times.open_ + g.dwell + g.times.close) = (g.most - q) * (g.times.open_ + g.dwell + g.times.close) - (g.times.open_ + g.dwell + g.times.close) := by
    rw [show g.most - (q + 1) = g.most - q - 1 by omega, Int.sub_mul, Int.one_mul]
  have e2 : g.most > q → (g.times.open_ + g.dwell + g.times.close) ≤ (g.most - q) * (g.times.open_ + g.dwell + g.times.close) := fun hq => by
    have := Int.mul_le_mul_of_nonneg_right (show 1 ≤ g.most - q by omega) (show 0 ≤ g.times.open_ + g.dwell + g.times.close by omega)
    rwa [Int.one_mul] at this
  generalize hm : (g.most - q) * (g.times.open_ + g.dwell + g.times.close) = m at *
  rw [if_neg hp]
  split
  · dsimp only
    split
    · simp only [e1]
      (repeat' split) <;> omega
    · simp only [e1]
      (repeat' split) <;> omega
  · split
    · dsimp only
      simp only [hm]
      (repeat' split) <;> omega
    · split
      · dsimp only
        simp only [hm]
        (repeat' split) <;> omega
      · split
        · dsimp only
          simp only [hm]
          (repeat' split) <;> omega
        · dsimp only
          rw [if_pos rfl]
          (repeat' split) <;> omega

theorem restC_zero {g : Gear} {c : Car} (hG : gearB g = true) (hB : carB g.floors c = true) : 0 ≤ restC g c ∧ restC g c ≤ 200000 ∧ (restC g c = 0 ↔ c.phase = 0) := by
  obtain ⟨fl, dr, ph, lf, d⟩ := c
  simp only [carB_iff] at hB
  obtain ⟨hF, hf, hD, hP⟩ := hB
  have hd := restD_bound g d hG hD
  have hE : doorB ⟨1, g.times.open_, 0⟩ = true := by simp only [gearB_iff, timesB_iff] at hG; rw [doorB_iff]; simp; omega
  have he := restD_bound g ⟨1, g.times.open_, 0⟩ hG hE
  simp only [restC, Bool.cond_eq_ite, beq_iff_eq]
  generalize restD g d = rd at *
  generalize restD g ⟨1, g.times.open_, 0⟩ = re at *
  (repeat' split) <;> omega

theorem restC_falls {g : Gear} {c : Car} {o : Order} (h : stepOk g c o = true) (hf : o.fault = false) (hp : c.phase ≠ 0) : restC g (stepC g c o).c ≤ restC g c - 1 := by
  obtain ⟨fl, dr, ph, lf, d⟩ := c
  obtain ⟨cmd, held, fault⟩ := o
  simp only at hf hp
  subst hf
  simp only [stepOk, carOk, Bool.and_eq_true] at h
  obtain ⟨⟨hG, hB⟩, hC⟩ := h
  simp only [carB_iff] at hB
  obtain ⟨hF, hf, hD, hP⟩ := hB
  have hE : doorB ⟨1, g.times.open_, 0⟩ = true := by simp only [gearB_iff, timesB_iff] at hG; rw [doorB_iff]; simp; omega
  have he := restD_bound g ⟨1, g.times.open_, 0⟩ hG hE
  have h0 : restD g door0 = 0 := rfl
  have hfa : d.phase ≠ 0 → restD g (stepD g d held).d ≤ restD g d - 1 := restD_falls held hG hD
  have hN := stepD_doorB held hG hD
  have hn := restD_bound g (stepD g d held).d hG hN
  simp only [stepC, begunC, tickC, restC, cond_false]
  rcases hP with ⟨rfl, rfl, rfl, hd0⟩ | ⟨rfl, hdr, hlo, hhi, hl1, hl2, hd0⟩ | ⟨rfl, rfl, hl1, hl2, hd0⟩ | ⟨rfl, rfl, rfl, hd0⟩
  · exact absurd rfl hp
  · simp [Bool.cond_eq_ite]
    (repeat' split) <;> simp [h0] at * <;> omega
  · simp [Bool.cond_eq_ite]
    (repeat' split) <;> simp at * <;> omega
  · have := hfa hd0
    simp [Bool.cond_eq_ite]
    generalize stepD g d held = sd at *
    (repeat' split) <;> simp at * <;> omega
end Go.Proofs.Ytlnfojhmgncfiaa.Px


namespace Go.Proofs.Ytlnfojhmgncfiaa.Px
open Go

def allO (g : Gear) : Int := g.times.level + g.times.open_ + g.dwell + g.times.close
def pathO (g : Gear) (fl i : Int) : Car :=
  if i < g.times.level then ⟨fl, 0, 2, g.times.level - i, door0⟩
  else if i < g.times.level + g.times.open_ then ⟨fl, 0, 3, 0, ⟨1, g.times.level + g.times.open_ - i, 0⟩⟩
  else if i < g.times.level + g.times.open_ + g.dwell then ⟨fl, 0, 3, 0, ⟨2, g.times.level + g.times.open_ + g.dwell - i, 0⟩⟩
  else if i < allO g then ⟨fl, 0, 3, 0, ⟨3, allO g - i, 0⟩⟩
  else ⟨fl, 0, 0, 0, door0⟩

theorem pathO_ok {g : Gear} {fl i : Int} (hG : gearB g = true) (hf : 0 ≤ fl ∧ fl ≤ g.floors - 1) (hi : 0 ≤ i) : carOk g (pathO g fl i) = true := by
  simp only [carOk, hG, Bool.true_and, carB_iff]
  have hG' := hG
  simp only [gearB_iff, timesB_iff] at hG'
  unfold pathO allO
  (repeat' split) <;> simp [doorB_iff, door0] <;> omega

theorem pathO_step {g : Gear} {fl i : Int} {cmd : Int} (hG : gearB g = true) (hf : 0 ≤ fl ∧ fl ≤ g.floors - 1) (hi : 0 ≤ i) (hN : i < allO g) (hc : 0 ≤ cmd ∧ cmd ≤ 3) :
    (car_Step g (pathO g fl i) ⟨cmd, false, false⟩).1 = pathO g fl (i + 1) ∧ (car_Step g (pathO g fl i) ⟨cmd, false, false⟩).2.2 = 0 ∧ (pathO g fl i).phase ≠ 0 ∧
    (car_Step g (pathO g fl i) ⟨cmd, false, false⟩).2.1.motor = 0 ∧
    ((car_Step g (pathO g fl i) ⟨cmd, false, false⟩).2.1.door = 2 ↔ g.times.level + g.times.open_ ≤ i ∧ i < g.times.level + g.times.open_ + g.dwell) ∧
    ((car_Step g (pathO g fl i) ⟨cmd, false, false⟩).2.1.chime = true ↔ g.times.level + g.times.open_ ≤ i ∧ i < g.times.level + g.times.open_ + g.dwell ∧ g.times.level + g.times.open_ + g.dwell - i = g.times.lead) := by
  have hok := pathO_ok hG hf hi
  have hs : stepOk g (pathO g fl i) ⟨cmd, false, false⟩ = true := by simp [stepOk, hok, wthin, hc]
  have hw : wthin cmd 0 3 = true := wthin_iff.2 hc
  simp only [gearB_iff, timesB_iff] at hG
  simp only [car_Step, hs, hok, cond_true, stepC, hw, errOf, cond_false]
  unfold pathO allO at *
  (repeat' split) <;> simp [begunC, tickC, stepD, goesD, isHeld, door0, Bool.cond_eq_ite] at * <;> (repeat' split) <;> simp at * <;> omega
end Go.Proofs.Ytlnfojhmgncfiaa.Px


namespace Go.Proofs.Ytlnfojhmgncfiaa.Px
open Go

def pathR (g : Gear) (fl dir i : Int) : Car := if i < g.times.travel then ⟨fl, dir, 1, g.times.travel - i, door0⟩ else ⟨fl + dir, 0, 0, 0, door0⟩

theorem pathR_step {g : Gear} {fl dir i : Int} {o : Order} (hG : gearB g = true) (hf : 0 ≤ fl ∧ fl ≤ g.floors - 1) (hd : dir = 1 ∨ dir = -1) (hn : 0 ≤ fl + dir ∧ fl + dir ≤ g.floors - 1) (hi : 1 ≤ i) (hN : i < g.times.travel) (hc : 0 ≤ o.cmd ∧ o.cmd ≤ 3) (ho : o.fault = false) :
    (car_Step g (pathR g fl dir i) o).1 = pathR g fl dir (i + 1) ∧ (car_Step g (pathR g fl dir i) o).2.2 = 0 ∧ (car_Step g (pathR g fl dir i) o).2.1.motor = dir := by
  obtain ⟨cmd, held, fault⟩ := o
  simp only at hc ho
  subst ho
  have hG' := hG
  simp only [gearB_iff, timesB_iff] at hG'
  have hok : carOk g (pathR g fl dir i) = true := by
    simp only [carOk, hG, Bool.true_and, carB_iff]
    unfold pathR
    rw [if_pos hN]
    simp [doorB_iff, door0]
    omega
  have hs : stepOk g (pathR g fl dir i) ⟨cmd, held, false⟩ = true := by simp [stepOk, hok, wthin, hc]
  have hw : wthin cmd 0 3 = true := wthin_iff.2 hc
  simp only [car_Step, hs, hok, cond_true, stepC, hw, errOf, cond_false]
  unfold pathR at *
  (repeat' split) <;> simp [begunC, tickC, Bool.cond_eq_ite] at * <;> (repeat' split) <;> (try simp at *) <;> (try omega)
end Go.Proofs.Ytlnfojhmgncfiaa.Px
