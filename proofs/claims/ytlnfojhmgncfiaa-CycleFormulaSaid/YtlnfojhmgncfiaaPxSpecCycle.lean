/- A car's round, as plain functions. -/
import Derived.Test.YtlnfojhmgncfiaaPxSpecCar
import Derived.Test.YtlnfojhmgncfiaaPxSpecConfig
set_option linter.unusedVariables false
set_option linter.unusedSimpArgs false
namespace Go.Proofs.Ytlnfojhmgncfiaa.Px
open Go

def signI (n : Int) : Int := cond (decide (n > 0)) 1 (-1)
def stopG (g : Gear) : Int := g.times.level + g.times.open_ + g.dwell + g.times.close
def smallP (p : Plan) : Bool := decide (p.stops.length ≤ 70)
def few22 (p : Plan) : Bool := decide (p.stops.length ≤ 70)

/-- The row of stops: there and back. -/
def rowL (l : List Int) : List Int := l ++ (l.dropLast.drop 1).reverse
def rowP (p : Plan) : List Int := rowL p.stops
def planB (g : Gear) (p : Plan) : Bool := decide (2 ≤ p.stops.length) && (decide (1 ≤ p.cars) && (decide (p.cars ≤ 8) && (decide (0 ≤ p.car) && (decide (p.car < p.cars) && (chkR g.floors none p.stops && gearB g)))))
def planOk (g : Gear) (p : Plan) : Bool := planB g p && smallP p
def smallGP (_ : Gear) (p : Plan) : Bool := smallP p
def cycle_check (g : Gear) (p : Plan) : Int := errOf (planB g p) 220
def placeP (p : Plan) (nth : Int) : Int := (nth * (2 * (p.stops.length : Int) - 2)).tdiv p.cars
def placeOk (p : Plan) (nth : Int) : Bool := smallP p && (decide (1 ≤ p.cars) && (decide (p.cars ≤ 8) && (decide (0 ≤ nth) && decide (nth ≤ 8))))
def firstS (p : Plan) : Int := p.stops.getD 0 0
def lastS (p : Plan) : Int := p.stops.getD (p.stops.length - 1) 0
def lenP (g : Gear) (p : Plan) : Int := (2 * (p.stops.length : Int) - 2) * stopG g + 2 * (lastS p - firstS p) * g.times.travel
def cycle_Length (g : Gear) (p : Plan) : Int × Int := (cond (planB g p) (lenP g p) 0, errOf (planB g p) 220)
def cycle_First (g : Gear) (p : Plan) : Int × Int := (cond (planB g p) ((rowP p).getD (placeP p p.car).toNat 0) 0, errOf (planB g p) 220)

def part0 : Part := ⟨0, 0, 0⟩
def smallGP3 (_ : Gear) (p : Plan) (_ : Int) : Bool := smallP p
/-- A ride that may be: from which tick, by which pace, from where to where. -/
def rideOk (at_ travel a b dir : Int) : Bool := decide (0 ≤ at_) && (decide (at_ ≤ 1000000) && (decide (1 ≤ travel) && (decide (travel ≤ 60) && (decide (0 ≤ a) && (decide (a ≤ 64) && (decide (0 ≤ b) && (decide (b ≤ 64) && dir == signI (b - a))))))))
/-- The floor of a place of the row, round and round. -/
def legAt (L : List Int) (i : Nat) : Int := L.getD (i % L.length) 0
def legGo (L : List Int) (i : Nat) : Int := ((legAt L (i + 1) - legAt L i).natAbs : Int)
/-- The leg that a tick is in: whether it is riding, the leg's number, its first tick. -/
def legsFind (phase : Int) (g : Gear) (L : List Int) (f : Nat) : Nat → Nat → Int → Option (Bool × Nat × Int)
  | 0, _, _ => none
  | n + 1, i, at_ => cond (decide (at_ ≤ phase) && decide (phase < at_ + stopG g)) (some (false, i, at_))
    (cond (decide (at_ + stopG g ≤ phase) && decide (phase < at_ + stopG g + legGo L (f + i) * g.times.travel)) (some (true, i, at_))
    (legsFind phase g L f n (i + 1) (at_ + stopG g + legGo L (f + i) * g.times.travel)))
def legStop (r : Option (Bool × Nat × Int)) : Bool := match r with
  | some (false, _, _) => true
  | _ => false
def legRide (r : Option (Bool × Nat × Int)) : Bool := match r with
  | some (true, _, _) => true
  | _ => false
def legI (r : Option (Bool × Nat × Int)) : Int := match r with
  | some (_, i, _) => (i : Int)
  | _ => 0
def legT (r : Option (Bool × Nat × Int)) : Int := match r with
  | some (_, _, t) => t
  | _ => 0
def legsOk (g : Gear) (L : List Int) (f at_ n i : Int) : Bool := gearB g && (decide (L.length ≤ 138) && (L.all (fun x => decide (0 ≤ x) && decide (x ≤ 63)) && (decide (0 ≤ f) && (decide (f < (L.length : Int)) && (at_ == 0 && (n == (L.length : Int) && i == 0))))))
/-- The part of a round that a tick is in, and the tick of it. -/
def partOf (phase : Int) (g : Gear) (L : List Int) (f : Nat) : Option (Bool × Nat × Int) → Part × Int × Int
  | some (false, i, t) => (⟨legAt L (f + i), 0, stopG g⟩, phase - t, 0)
  | some (true, i, t) => (⟨legAt L (f + i) + (phase - (t + stopG g)) / g.times.travel * signI (legAt L (f + i + 1) - legAt L (f + i)), signI (legAt L (f + i + 1) - legAt L (f + i)), g.times.travel⟩, phase - (t + stopG g + (phase - (t + stopG g)) / g.times.travel * g.times.travel), 0)
  | none => (part0, 0, 221)
def legOf (g : Gear) (p : Plan) (phase : Int) : Option (Bool × Nat × Int) := legsFind phase g (rowP p) (placeP p p.car).toNat (rowP p).length 0 0
def cycle_within (g : Gear) (p : Plan) (phase : Int) : Part × Int × Int :=
  cond (planB g p) (partOf phase g (rowP p) (placeP p p.car).toNat (legOf g p phase)) (part0, 0, 220)

/-- A car in a part of its round. -/
def doorsAt (g : Gear) (fl n : Int) : Car := cond (decide (n < g.times.open_)) ⟨fl, 0, 3, 0, ⟨1, g.times.open_ - n, 0⟩⟩
  (cond (decide (n - g.times.open_ < g.dwell)) ⟨fl, 0, 3, 0, ⟨2, g.dwell - (n - g.times.open_), 0⟩⟩
    (cond (decide (n - g.times.open_ - g.dwell < g.times.close)) ⟨fl, 0, 3, 0, ⟨3, g.times.close - (n - g.times.open_ - g.dwell), 0⟩⟩ ⟨fl, 0, 3, 0, ⟨0, 0, 0⟩⟩))
def atPart (g : Gear) (x : Part) (n : Int) : Car := cond (n == 0) ⟨x.floor, 0, 0, 0, ⟨0, 0, 0⟩⟩
  (cond (x.dir != 0) ⟨x.floor, x.dir, 1, g.times.travel - n, ⟨0, 0, 0⟩⟩
    (cond (decide (n < g.times.level)) ⟨x.floor, 0, 2, g.times.level - n, ⟨0, 0, 0⟩⟩ (doorsAt g x.floor (n - g.times.level))))
def cmdPart (x : Part) (n : Int) : Int := cond (decide (n > 0)) 0 (cond (decide (x.dir > 0)) 1 (cond (decide (x.dir < 0)) 2 3))
def cycle_At (g : Gear) (p : Plan) (phase : Int) : Car × Int := cond ((cycle_within g p phase).2.2 == 0) (atPart g (cycle_within g p phase).1 (cycle_within g p phase).2.1, 0) (⟨0, 0, 0, 0, ⟨0, 0, 0⟩⟩, (cycle_within g p phase).2.2)
def cycle_Cmd (g : Gear) (p : Plan) (phase : Int) : Int × Int := cond ((cycle_within g p phase).2.2 == 0) (cmdPart (cycle_within g p phase).1 (cycle_within g p phase).2.1, 0) (0, (cycle_within g p phase).2.2)

/-- How long the legs take. -/
def legsSum (g : Gear) (L : List Int) (f : Nat) : Nat → Nat → Int
  | _, 0 => 0
  | i, n + 1 => stopG g + legGo L (f + i) * g.times.travel + legsSum g L f (i + 1) n
def shiftP (g : Gear) (p : Plan) : Int := legsSum g (rowP p) 0 0 (placeP p p.car).toNat
def cycle_Shift (g : Gear) (p : Plan) : Int × Int := (cond (planB g p) (shiftP g p) 0, errOf (planB g p) 220)

def own22 (p : Plan) : Plan := p

def hasI (l : List Int) (x : Int) : Bool := l.any fun y => y == x

theorem legsFind_spec {phase : Int} {g : Gear} {L : List Int} {f : Nat} : ∀ {m i : Nat} {at_ : Int} {b : Bool} {j : Nat} {t : Int}, legsFind phase g L f m i at_ = some (b, j, t) →
    i ≤ j ∧ j < i + m ∧ (b = false → t ≤ phase ∧ phase < t + stopG g) ∧ (b = true → t + stopG g ≤ phase ∧ phase < t + stopG g + legGo L (f + j) * g.times.travel)
  | 0, _, _, _, _, _, h => by simp [legsFind] at h
  | m + 1, i, at_, b, j, t, h => by
    simp only [legsFind] at h
    cases h1 : (decide (at_ ≤ phase) && decide (phase < at_ + stopG g)) with
    | true =>
      rw [h1, cond_true] at h
      simp only [Option.some.injEq, Prod.mk.injEq] at h
      obtain ⟨rfl, rfl, rfl⟩ := h
      simp only [Bool.and_eq_true, decide_eq_true_eq] at h1
      exact ⟨Nat.le_refl _, by omega, fun _ => h1, fun e => by cases e⟩
    | false =>
      rw [h1, cond_false] at h
      cases h2 : (decide (at_ + stopG g ≤ phase) && decide (phase < at_ + stopG g + legGo L (f + i) * g.times.travel)) with
      | true =>
        rw [h2, cond_true] at h
        simp only [Option.some.injEq, Prod.mk.injEq] at h
        obtain ⟨rfl, rfl, rfl⟩ := h
        simp only [Bool.and_eq_true, decide_eq_true_eq] at h2
        exact ⟨Nat.le_refl _, by omega, (fun e => by cases e), fun _ => h2⟩
      | false =>
        rw [h2, cond_false] at h
        obtain ⟨e1, e2, e3⟩ := legsFind_spec h
        exact ⟨by omega, by omega, e3⟩

theorem legsFind_ge {phase : Int} {g : Gear} {L : List Int} {f : Nat} (hs : 0 ≤ stopG g ∧ stopG g ≤ 480) (ht : 0 ≤ g.times.travel ∧ g.times.travel ≤ 60) (hL : ∀ i, legGo L i ≤ 64) : ∀ {m i : Nat} {at_ : Int} {b : Bool} {j : Nat} {t : Int}, legsFind phase g L f m i at_ = some (b, j, t) → at_ ≤ t ∧ t ≤ at_ + ((j : Int) - i) * 5000
  | 0, _, _, _, _, _, h => by simp [legsFind] at h
  | m + 1, i, at_, b, j, t, h => by
    have hm : 0 ≤ legGo L (f + i) * g.times.travel ∧ legGo L (f + i) * g.times.travel ≤ 64 * 60 :=
      ⟨Int.mul_nonneg (by simp [legGo]) ht.1, Int.mul_le_mul (hL _) ht.2 ht.1 (by omega)⟩
    simp only [legsFind] at h
    cases h1 : (decide (at_ ≤ phase) && decide (phase < at_ + stopG g)) with
    | true =>
      rw [h1, cond_true] at h
      simp only [Option.some.injEq, Prod.mk.injEq] at h
      obtain ⟨rfl, rfl, rfl⟩ := h
      omega
    | false =>
      rw [h1, cond_false] at h
      cases h2 : (decide (at_ + stopG g ≤ phase) && decide (phase < at_ + stopG g + legGo L (f + i) * g.times.travel)) with
      | true =>
        rw [h2, cond_true] at h
        simp only [Option.some.injEq, Prod.mk.injEq] at h
        obtain ⟨rfl, rfl, rfl⟩ := h
        omega
      | false =>
        rw [h2, cond_false] at h
        obtain ⟨e1, e2⟩ := legsFind_ge hs ht hL h
        omega
end Go.Proofs.Ytlnfojhmgncfiaa.Px
