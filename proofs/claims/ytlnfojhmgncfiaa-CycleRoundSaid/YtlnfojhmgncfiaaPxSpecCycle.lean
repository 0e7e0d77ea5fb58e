/- A car's round, as plain functions. -/
import Derived.Test.YtlnfojhmgncfiaaPxSpecCar
import Derived.Test.YtlnfojhmgncfiaaPxSpecConfig
set_option linter.unusedVariables false
set_option linter.unusedSimpArgs false
namespace Go.Proofs.Ytlnfojhmgncfiaa.Px
open Go

def signI (n : Int) : Int := cond (decide (n > 0)) 1 (-1)
def stopG (g : Gear) : Int := g.times.level + g.times.open_ + g.dwell + g.times.close
def smallP (p : Plan) : Bool := decide (p.stops.length ≤ 70)
def few22 (p : Plan) : Bool := decide (p.stops.length ≤ 70)

/-- The row of stops: there and back. -/
def rowL (l : List Int) : List Int := l ++ (l.dropLast.drop 1).reverse
def rowP (p : Plan) : List Int := rowL p.stops
def planB (g : Gear) (p : Plan) : Bool := decide (2 ≤ p.stops.length) && (decide (1 ≤ p.cars) && (decide (p.cars ≤ 8) && (decide (0 ≤ p.car) && (decide (p.car < p.cars) && (chkR g.floors none p.stops && gearB g)))))
def planOk (g : Gear) (p : Plan) : Bool := planB g p && smallP p
def smallGP (_ : Gear) (p : Plan) : Bool := smallP p
def cycle_check (g : Gear) (p : Plan) : Int := errOf (planB g p) 220
def placeP (p : Plan) (nth : Int) : Int := (nth * (2 * (p.stops.length : Int) - 2)).tdiv p.cars
def placeOk (p : Plan) (nth : Int) : Bool := smallP p && (decide (1 ≤ p.cars) && (decide (p.cars ≤ 8) && (decide (0 ≤ nth) && decide (nth ≤ 8))))
def firstS (p : Plan) : Int := p.stops.getD 0 0
def lastS (p : Plan) : Int := p.stops.getD (p.stops.length - 1) 0
def lenP (g : Gear) (p : Plan) : Int := (2 * (p.stops.length : Int) - 2) * stopG g + 2 * (lastS p - firstS p) * g.times.travel
def cycle_Length (g : Gear) (p : Plan) : Int × Int := (cond (planB g p) (lenP g p) 0, errOf (planB g p) 220)
def cycle_First (g : Gear) (p : Plan) : Int × Int := (cond (planB g p) ((rowP p).getD (placeP p p.car).toNat 0) 0, errOf (planB g p) 220)

def part0 : Part := ⟨0, 0, 0⟩
def smallGP3 (_ : Gear) (p : Plan) (_ : Int) : Bool := smallP p
/-- A ride that may be: from which tick, by which pace, from where to where. -/
def rideOk (at_ travel a b dir : Int) : Bool := decide (0 ≤ at_) && (decide (at_ ≤ 1000000) && (decide (1 ≤ travel) && (decide (travel ≤ 60) && (decide (0 ≤ a) && (decide (a ≤ 64) && (decide (0 ≤ b) && (decide (b ≤ 64) && dir == signI (b - a))))))))
/-- The floor of a place of the row, round and round. -/
def legAt (L : List Int) (i : Nat) : Int := L.getD (i % L.length) 0
def legGo (L : List Int) (i : Nat) : Int := ((legAt L (i + 1) - legAt L i).natAbs : Int)
/-- The leg that a tick is in: whether it is riding, the leg's number, its first tick. -/
def legsFind (phase : Int) (g : Gear) (L : List Int) (f : Nat) : Nat → Nat → Int → Option (Bool × Nat × Int)
  | 0, _, _ => none
  | n + 1, i, at_ => cond (decide (at_ ≤ phase) && decide (phase < at_ + stopG g)) (some (false, i, at_))
    (cond (decide (at_ + stopG g ≤ phase) && decide (phase < at_ + stopG g + legGo L (f + i) * g.times.travel)) (some (true, i, at_))
    (legsFind phase g L f n (i + 1) (at_ + stopG g + legGo L (f + i) * g.times.travel)))
def legStop (r : Option (Bool × Nat × Int)) : Bool := match r with
  | some (false, _, _) => true
  | _ => false
def legRide (r : Option (Bool × Nat × Int)) : Bool := match r with
  | some (true, _, _) => true
  | _ => false
def legI (r : Option (Bool × Nat × Int)) : Int := match r with
  | some (_, i, _) => (i : Int)
  | _ => 0
def legT (r : Option (Bool × Nat × Int)) : Int := match r with
  | some (_, _, t) => t
  | _ => 0
def legsOk (g : Gear) (L : List Int) (f at_ n i : Int) : Bool := gearB g && (decide (L.length ≤ 138) && (L.all (fun x => decide (0 ≤ x) && decide (x ≤ 63)) && (decide (0 ≤ f) && (decide (f < (L.length : Int)) && (at_ == 0 && (n == (L.length : Int) && i == 0))))))
/-- The part of a round that a tick is in, and the tick of it. -/
def partOf (phase : Int) (g : Gear) (L : List Int) (f : Nat) : Option (Bool × Nat × Int) → Part × Int × Int
  | some (false, i, t) => (⟨legAt L (f + i), 0, stopG g⟩, phase - t, 0)
  | some (true, i, t) => (⟨legAt L (f + i) + (phase - (t + stopG g)) / g.times.travel * signI (legAt L (f + i + 1) - legAt L (f + i)), signI (legAt L (f + i + 1) - legAt L (f + i)), g.times.travel⟩, phase - (t + stopG g + (phase - (t + stopG g)) / g.times.travel * g.times.travel), 0)
  | none => (part0, 0, 221)
def legOf (g : Gear) (p : Plan) (phase : Int) : Option (Bool × Nat × Int) := legsFind phase g (rowP p) (placeP p p.car).toNat (rowP p).length 0 0
def cycle_within (g : Gear) (p : Plan) (phase : Int) : Part × Int × Int :=
  cond (planB g p) (partOf phase g (rowP p) (placeP p p.car).toNat (legOf g p phase)) (part0, 0, 220)

/-- A car in a part of its round. -/
def doorsAt (g : Gear) (fl n : Int) : Car := cond (decide (n < g.times.open_)) ⟨fl, 0, 3, 0, ⟨1, g.times.open_ - n, 0⟩⟩
  (cond (decide (n - g.times.open_ < g.dwell)) ⟨fl, 0, 3, 0, ⟨2, g.dwell - (n - g.times.open_), 0⟩⟩
    (cond (decide (n - g.times.open_ - g.dwell < g.times.close)) ⟨fl, 0, 3, 0, ⟨3, g.times.close - (n - g.times.open_ - g.dwell), 0⟩⟩ ⟨fl, 0, 3, 0, ⟨0, 0, 0⟩⟩))
def atPart (g : Gear) (x : Part) (n : Int) : Car := cond (n == 0) ⟨x.floor, 0, 0, 0, ⟨0, 0, 0⟩⟩
  (cond (x.dir != 0) ⟨x.floor, x.dir, 1, g.times.travel - n, ⟨0, 0, 0⟩⟩
    (cond (decide (n < g.times.level)) ⟨x.floor, 0, 2, g.times.level - n, ⟨0, 0, 0⟩⟩ (doorsAt g x.floor (n - g.times.level))))
def cmdPart (x : Part) (n : Int) : Int := cond (decide (n > 0)) 0 (cond (decide (x.dir > 0)) 1 (cond (decide (x.dir < 0)) 2 3))
def cycle_At (g : Gear) (p : Plan) (phase : Int) : Car × Int := cond ((cycle_within g p phase).2.2 == 0) (atPart g (cycle_within g p phase).1 (cycle_within g p phase).2.1, 0) (⟨0, 0, 0, 0, ⟨0, 0, 0⟩⟩, (cycle_within g p phase).2.2)
def cycle_Cmd (g : Gear) (p : Plan) (phase : Int) : Int × Int := cond ((cycle_within g p phase).2.2 == 0) (cmdPart (cycle_within g p phase).1 (cycle_within g p phase).2.1, 0) (0, (cycle_within g p phase).2.2)

/-- How long the legs take. -/
def legsSum (g : Gear) (L : List Int) (f : Nat) : Nat → Nat → Int
  | _, 0 => 0
  | i, n + 1 => stopG g + legGo L (f + i) * g.times.travel + legsSum g L f (i + 1) n
def shiftP (g : Gear) (p : Plan) : Int := legsSum g (rowP p) 0 0 (placeP p p.car).toNat
def cycle_Shift (g : Gear) (p : Plan) : Int × Int := (cond (planB g p) (shiftP g p) 0, errOf (planB g p) 220)

def own22 (p : Plan) : Plan := p

def hasI (l : List Int) (x : Int) : Bool := l.any fun y => y == x

theorem legsFind_spec {phase : Int} {g : Gear} {L : List Int} {f : Nat} : ∀ {m i : Nat} {at_ : Int} {b : Bool} {j : Nat} {t : Int}, legsFind phase g L f m i at_ = some (b, j, t) →
    i ≤ j ∧ j < i + m ∧ (b = false → t ≤ phase ∧ phase < t + stopG g) ∧ (b = true → t + stopG g ≤ phase ∧ phase < t + stopG g + legGo L (f + j) * g.times.travel)
  | 0, _, _, _, _, _, h => by simp [legsFind] at h
  | m + 1, i, at_, b, j, t, h => by
    simp only [legsFind] at h
    cases h1 : (decide (at_ ≤ phase) && decide (phase < at_ + stopG g)) with
    | true =>
      rw [h1, cond_true] at h
      simp only [Option.some.injEq, Prod.mk.injEq] at h
      obtain ⟨rfl, rfl, rfl⟩ := h
      simp only [Bool.and_eq_true, decide_eq_true_eq] at h1
      exact ⟨Nat.le_refl _, by omega, fun _ => h1, fun e => by cases e⟩
    | false =>
      rw [h1, cond_false] at h
      cases h2 : (decide (at_ + stopG g ≤ phase) && decide (phase < at_ + stopG g + legGo L (f + i) * g.times.travel)) with
      | true =>
        rw [h2, cond_true] at h
        simp only [Option.some.injEq, Prod.mk.injEq] at h
        obtain ⟨rfl, rfl, rfl⟩ := h
        simp only [Bool.and_eq_true, decide_eq_true_eq] at h2
        exact ⟨Nat.le_refl _, by omega, (fun e => by cases e), fun _ => h2⟩
      | false =>
        rw [h2, cond_false] at h
        obtain ⟨e1, e2, e3⟩ := legsFind_spec h
        exact ⟨by omega, by omega, e3⟩

theorem legsFind_ge {phase : Int} {g : Gear} {L : List Int} {f : Nat} (hs : 0 ≤ stopG g ∧ stopG g ≤ 480) (ht : 0 ≤ g.times.travel ∧ g.times.travel ≤ 60) (hL : ∀ i, legGo L i ≤ 64) : ∀ {m i : Nat} {at_ : Int} {b : Bool} {j : Nat} {t : Int}, legsFind phase g L f m i at_ = some (b, j, t) → at_ ≤ t ∧ t ≤ at_ + ((j : Int) - i) * 5000
  | 0, _, _, _, _, _, h => by simp [legsFind] at h
  | m + 1, i, at_, b, j, t, h => by
    have hm : 0 ≤ legGo L (f + i) * g.times.travel ∧ legGo L (f + i) * g.times.travel ≤ 64 * 60 :=
      ⟨Int.mul_nonneg (by simp [legGo]) ht.1, Int.mul_le_mul (hL _) ht.2 ht.1 (by omega)⟩
    simp only [legsFind] at h
    cases h1 : (decide (at_ ≤ phase) && decide (phase < at_ + stopG g)) with
    | true =>
      rw [h1, cond_true] at h
      simp only [Option.some.injEq, Prod.mk.injEq] at h
      obtain ⟨rfl, rfl, rfl⟩ := h
      omega
    | false =>
      rw [h1, cond_false] at h
      cases h2 : (decide (at_ + stopG g ≤ phase) && decide (phase < at_ + stopG g + legGo L (f + i) * g.times.travel)) with
      | true =>
        rw [h2, cond_true] at h
        simp only [Option.some.injEq, Prod.mk.injEq] at h
        obtain ⟨rfl, rfl, rfl⟩ := h
        omega
      | false =>
        rw [h2, cond_false] at h
        obtain ⟨e1, e2⟩ := legsFind_ge hs ht hL h
        omega
end Go.Proofs.Ytlnfojhmgncfiaa.Px


namespace Go.Proofs.Ytlnfojhmgncfiaa.Px
open Go

def legD (g : Gear) (L : List Int) (i : Nat) : Int := stopG g + legGo L i * g.times.travel
def legT0 (g : Gear) (L : List Int) (f : Nat) : Nat → Int
  | 0 => 0
  | i + 1 => legT0 g L f i + legD g L (f + i)

theorem legD_pos {g : Gear} {L : List Int} (hs : 0 < stopG g) (ht : 0 ≤ g.times.travel) (i : Nat) : stopG g ≤ legD g L i ∧ 0 < legD g L i := by
  have : 0 ≤ legGo L i * g.times.travel := Int.mul_nonneg (by unfold legGo; omega) ht
  unfold legD
  omega

theorem legT0_mono {g : Gear} {L : List Int} {f : Nat} (hs : 0 < stopG g) (ht : 0 ≤ g.times.travel) {i : Nat} : ∀ {j : Nat}, i ≤ j → legT0 g L f i ≤ legT0 g L f j
  | 0, h => by rw [show i = 0 by omega]; exact Int.le_refl _
  | j + 1, h => by
    by_cases e : i = j + 1
    · rw [e]; exact Int.le_refl _
    · have := legT0_mono (L := L) (f := f) hs ht (show i ≤ j by omega)
      have := (legD_pos (L := L) hs ht (f + j)).2
      simp only [legT0]
      omega

theorem legsFind_at {g : Gear} {L : List Int} {f : Nat} (hs : 0 < stopG g) (ht : 0 ≤ g.times.travel) {ph : Int} {j : Nat} (h1 : legT0 g L f j ≤ ph) (h2 : ph < legT0 g L f (j + 1)) : ∀ (m i : Nat), i ≤ j → j < i + m →
    legsFind ph g L f m i (legT0 g L f i) = some (decide (legT0 g L f j + stopG g ≤ ph), j, legT0 g L f j)
  | 0, i, h3, h4 => by omega
  | m + 1, i, h3, h4 => by
    have h2' := h2
    simp only [legT0, legD] at h2'
    by_cases e : i = j
    · subst e
      simp only [legsFind]
      by_cases hb : legT0 g L f i + stopG g ≤ ph
      · have e1 : (decide (legT0 g L f i ≤ ph) && decide (ph < legT0 g L f i + stopG g)) = false := by simp; omega
        have e2 : (decide (legT0 g L f i + stopG g ≤ ph) && decide (ph < legT0 g L f i + stopG g + legGo L (f + i) * g.times.travel)) = true := by simp; omega
        rw [e1, e2]
        simp [hb]
      · have e1 : (decide (legT0 g L f i ≤ ph) && decide (ph < legT0 g L f i + stopG g)) = true := by simp; omega
        rw [e1]
        simp [hb]
    · have hm := legT0_mono (L := L) (f := f) hs ht (show i + 1 ≤ j by omega)
      have hD := legD_pos (L := L) hs ht (f + i)
      have hstep : legT0 g L f (i + 1) = legT0 g L f i + stopG g + legGo L (f + i) * g.times.travel := by simp only [legT0, legD]; omega
      simp only [legsFind]
      have e1 : (decide (legT0 g L f i ≤ ph) && decide (ph < legT0 g L f i + stopG g)) = false := by
        simp only [legT0] at hm
        simp
        omega
      have e2 : (decide (legT0 g L f i + stopG g ≤ ph) && decide (ph < legT0 g L f i + stopG g + legGo L (f + i) * g.times.travel)) = false := by
        rw [← hstep]
        simp
        omega
      rw [e1, e2, cond_false, cond_false, ← hstep]
      exact legsFind_at hs ht h1 h2 m (i + 1) (by omega) (by omega)

theorem legT0_in {g : Gear} {L : List Int} {f : Nat} {ph : Int} (h0 : 0 ≤ ph) : ∀ {n : Nat}, ph < legT0 g L f n → ∃ j, j < n ∧ legT0 g L f j ≤ ph ∧ ph < legT0 g L f (j + 1)
  | 0, h => by simp only [legT0] at h; omega
  | n + 1, h => by
    by_cases hb : ph < legT0 g L f n
    · obtain ⟨j, h1, h2, h3⟩ := legT0_in h0 hb
      exact ⟨j, by omega, h2, h3⟩
    · exact ⟨n, by omega, by omega, h⟩

/-- A part of a ride: from a floor to another, so many ticks in. -/
def ridePart (g : Gear) (a b r : Int) : Part := ⟨a + r / g.times.travel * signI (b - a), signI (b - a), g.times.travel⟩
def rideN (g : Gear) (r : Int) : Int := r - r / g.times.travel * g.times.travel
def carIn (g : Gear) (L : List Int) (i : Nat) (k : Int) : Car := cond (decide (stopG g ≤ k)) (atPart g (ridePart g (legAt L i) (legAt L (i + 1)) (k - stopG g)) (rideN g (k - stopG g))) (atPart g ⟨legAt L i, 0, stopG g⟩ k)
def cmdIn (g : Gear) (L : List Int) (i : Nat) (k : Int) : Int := cond (decide (stopG g ≤ k)) (cmdPart (ridePart g (legAt L i) (legAt L (i + 1)) (k - stopG g)) (rideN g (k - stopG g))) (cmdPart ⟨legAt L i, 0, stopG g⟩ k)
def firstP (p : Plan) : Nat := (placeP p p.car).toNat

theorem cycle_pos {g : Gear} {p : Plan} (hp : planB g p = true) (hs : 0 < stopG g) (ht : 0 ≤ g.times.travel) {ph : Int} {j : Nat} (hj : j < (rowP p).length) (h1 : legT0 g (rowP p) (firstP p) j ≤ ph) (h2 : ph < legT0 g (rowP p) (firstP p) (j + 1)) :
    cycle_At g p ph = (carIn g (rowP p) (firstP p + j) (ph - legT0 g (rowP p) (firstP p) j), 0) ∧ cycle_Cmd g p ph = (cmdIn g (rowP p) (firstP p + j) (ph - legT0 g (rowP p) (firstP p) j), 0) := by
  have hq : legOf g p ph = some (decide (legT0 g (rowP p) (firstP p) j + stopG g ≤ ph), j, legT0 g (rowP p) (firstP p) j) :=
    legsFind_at (f := firstP p) hs ht h1 h2 (rowP p).length 0 (by omega) (by omega)
  have hw : cycle_within g p ph = partOf ph g (rowP p) (firstP p) (some (decide (legT0 g (rowP p) (firstP p) j + stopG g ≤ ph), j, legT0 g (rowP p) (firstP p) j)) := by
    unfold cycle_within
    rw [hp, cond_true, hq]
    rfl
  unfold cycle_At cycle_Cmd
  rw [hw]
  generalize legT0 g (rowP p) (firstP p) j = t at *
  unfold carIn cmdIn
  by_cases hb : t + stopG g ≤ ph
  · have e1 : decide (t + stopG g ≤ ph) = true := by simpa using hb
    have e2 : decide (stopG g ≤ ph - t) = true := by simp; omega
    have e3 : ph - (t + stopG g) = ph - t - stopG g := by omega
    rw [e1, e2]
    simp only [partOf, e3, cond_true, beq_self_eq_true, ridePart, rideN]
    have e4 : ph - (t + stopG g + (ph - t - stopG g) / g.times.travel * g.times.travel) = ph - t - stopG g - (ph - t - stopG g) / g.times.travel * g.times.travel := by omega
    rw [e4]
    exact ⟨rfl, rfl⟩
  · have e1 : decide (t + stopG g ≤ ph) = false := by simpa using hb
    have e2 : decide (stopG g ≤ ph - t) = false := by simp; omega
    rw [e1, e2]
    simp only [partOf, cond_false, cond_true, beq_self_eq_true]
    constructor <;> first | trivial | rfl

/-- Its door is held in vain. -/
theorem stepC_held {g : Gear} {c : Car} {cmd : Int} {held : Bool} (h : held = false ∨ g.most ≤ c.door.held) : stepC g c ⟨cmd, held, false⟩ = stepC g c ⟨cmd, false, false⟩ := by
  have e : isHeld g c.door held = isHeld g c.door false := by
    rcases h with rfl | h
    · rfl
    · unfold isHeld
      have : decide (c.door.held < g.most) = false := by simp; omega
      rw [this, Bool.and_false, Bool.and_false]
  have e2 : stepD g c.door held = stepD g c.door false := by unfold stepD; rw [e]
  have e3 : ∀ c' : Car, c'.door = c.door → tickC g c' held = tickC g c' false := by
    intro c' h'
    unfold tickC
    rw [h', e2]
  simp only [stepC, cond_false, e2]
  have : tickC g (begunC g c cmd) held = tickC g (begunC g c cmd) false := by
    unfold begunC
    cases hp : (c.phase == 0)
    · exact e3 c rfl
    · simp only [cond_true]
      unfold beganC
      cases (cmd == 1 && decide (c.floor + 1 < g.floors))
      · cases (cmd == 2 && decide (c.floor > 0))
        · cases (cmd == 3)
          · exact e3 c rfl
          · unfold tickC; rfl
        · unfold tickC; rfl
      · unfold tickC; rfl
  rw [this]

def idleC (fl : Int) : Car := ⟨fl, 0, 0, 0, door0⟩

/-- What a step brings. -/
structure Goes (g : Gear) (c : Car) (cmd : Int) (c' : Car) : Prop where
  ok : stepOk g c ⟨cmd, false, false⟩ = true
  next : (stepC g c ⟨cmd, false, false⟩).c = c'
  safe : (stepC g c ⟨cmd, false, false⟩).o.motor = 0 ∨ (stepC g c ⟨cmd, false, false⟩).o.door = 0
  idle : cmd = 0 ∨ c.phase = 0
  held : c.door.held = 0

theorem Goes.of {g : Gear} {c c' : Car} {cmd : Int} (h1 : (car_Step g c ⟨cmd, false, false⟩).1 = c') (h2 : (car_Step g c ⟨cmd, false, false⟩).2.2 = 0) (h3 : (car_Step g c ⟨cmd, false, false⟩).2.1.motor = 0 ∨ (car_Step g c ⟨cmd, false, false⟩).2.1.door = 0) (h4 : cmd = 0 ∨ c.phase = 0) (h5 : c.door.held = 0) : Goes g c cmd c' := by
  have hok : stepOk g c ⟨cmd, false, false⟩ = true := by
    unfold car_Step at h2
    unfold stepOk
    cases hc : carOk g c with
    | false => rw [hc] at h2; simp at h2
    | true =>
      rw [hc] at h2
      cases hw : wthin cmd 0 3 with
      | false => simp [hw, errOf] at h2
      | true => rfl
  simp only [car_Step, hok, cond_true] at h1 h3
  exact ⟨hok, h1, h3, h4, h5⟩

theorem pathO_door {g : Gear} {fl i : Int} : (pathO g fl i).door.held = 0 := by
  unfold pathO
  (repeat' split) <;> rfl

theorem goes_stop {g : Gear} (hG : gearB g = true) {fl k : Int} (hf : 0 ≤ fl ∧ fl ≤ g.floors - 1) (h0 : 0 ≤ k) (hk : k < stopG g) : Goes g (atPart g ⟨fl, 0, stopG g⟩ k) (cmdPart ⟨fl, 0, stopG g⟩ k) (pathO g fl (k + 1)) := by
  have hG' := hG
  simp only [gearB_iff, timesB_iff] at hG'
  by_cases hk0 : k = 0
  · subst hk0
    have e1 : atPart g ⟨fl, 0, stopG g⟩ 0 = idleC fl := rfl
    have e2 : cmdPart ⟨fl, 0, stopG g⟩ 0 = 3 := rfl
    rw [e1, e2]
    refine ⟨?_, ?_, .inl ?_, .inr rfl, rfl⟩
    · simp only [stepOk, carOk, hG, Bool.true_and, Bool.and_eq_true, carB_iff, wthin_iff]
      simp [idleC, doorB_iff, door0]
      omega
    · simp only [stepC, cond_false, idleC, begunC, beganC, tickC, pathO, allO]
      by_cases hl : g.times.level = 1
      · simp [hl]
        split
        · simp
          omega
        · omega
      · have : (0 : Int) + 1 < g.times.level := by omega
        have h2 : g.times.level > 1 := by omega
        simp [this, h2]
    · simp [stepC, idleC, begunC, beganC]
  · have e1 : atPart g ⟨fl, 0, stopG g⟩ k = pathO g fl k := by
      have hb : (k == 0) = false := by simpa using hk0
      unfold pathO allO
      simp only [atPart, hb, cond_false, bne_self_eq_false, doorsAt, Bool.cond_eq_ite, decide_eq_true_eq, door0]
      unfold stopG at hk
      (repeat' split) <;> first | omega | (exfalso; simp at *; done) | (simp; try omega)
    have e2 : cmdPart ⟨fl, 0, stopG g⟩ k = 0 := by
      have : decide (k > 0) = true := by simp; omega
      simp [cmdPart, this]
    rw [e1, e2]
    obtain ⟨a1, a2, a3, a4, _⟩ := pathO_step (cmd := 0) hG hf h0 hk (by omega)
    exact .of a1 a2 (.inl a4) (.inl rfl) pathO_door

theorem goes_ride {g : Gear} (hG : gearB g = true) {fl dir n : Int} (hf : 0 ≤ fl ∧ fl ≤ g.floors - 1) (hd : dir = 1 ∨ dir = -1) (hn : 0 ≤ fl + dir ∧ fl + dir ≤ g.floors - 1) (h0 : 0 ≤ n) (hk : n < g.times.travel) :
    Goes g (atPart g ⟨fl, dir, g.times.travel⟩ n) (cmdPart ⟨fl, dir, g.times.travel⟩ n) (pathR g fl dir (n + 1)) := by
  have hG' := hG
  simp only [gearB_iff, timesB_iff] at hG'
  have hdne : (dir != 0) = true := by rcases hd with rfl | rfl <;> rfl
  by_cases hk0 : n = 0
  · subst hk0
    have e1 : atPart g ⟨fl, dir, g.times.travel⟩ 0 = idleC fl := rfl
    have e2 : cmdPart ⟨fl, dir, g.times.travel⟩ 0 = cond (decide (dir > 0)) 1 2 := by rcases hd with rfl | rfl <;> rfl
    rw [e1, e2]
    refine ⟨?_, ?_, .inr rfl, .inr rfl, rfl⟩
    · simp only [stepOk, carOk, hG, Bool.true_and, Bool.and_eq_true, carB_iff, wthin_iff]
      rcases hd with rfl | rfl <;> simp [idleC, doorB_iff, door0] <;> omega
    · rcases hd with rfl | rfl
      · have hc : fl + 1 < g.floors := by omega
        by_cases hl : g.times.travel = 1
        · simp [stepC, idleC, begunC, beganC, tickC, pathR, hc, hl]
        · have h2 : g.times.travel > 1 := by omega
          simp [stepC, idleC, begunC, beganC, tickC, pathR, hc, h2]
      · have hc : fl > 0 := by omega
        by_cases hl : g.times.travel = 1
        · simp [stepC, idleC, begunC, beganC, tickC, pathR, hc, hl]
        · have h2 : g.times.travel > 1 := by omega
          simp [stepC, idleC, begunC, beganC, tickC, pathR, hc, h2]
  · have e1 : atPart g ⟨fl, dir, g.times.travel⟩ n = pathR g fl dir n := by
      have hb : (n == 0) = false := by simpa using hk0
      simp only [atPart, hb, cond_false, hdne, cond_true, pathR, if_pos hk]
      rfl
    have e2 : cmdPart ⟨fl, dir, g.times.travel⟩ n = 0 := by
      have : decide (n > 0) = true := by simp; omega
      simp [cmdPart, this]
    rw [e1, e2]
    obtain ⟨a1, a2, a3⟩ := pathR_step (o := ⟨0, false, false⟩) hG hf hd hn (by omega) hk (by simp) rfl
    refine .of a1 a2 (.inr ?_) (.inl rfl) (by unfold pathR; split <;> rfl)
    have hst : stepOk g (pathR g fl dir n) ⟨0, false, false⟩ = true := by
      have h2 := a2
      unfold car_Step at h2
      unfold stepOk
      cases hc : carOk g (pathR g fl dir n) with
      | false => rw [hc] at h2; simp at h2
      | true => rfl
    unfold car_Step
    rw [hst]
    simp only [cond_true, stepC, cond_false]
    unfold pathR
    rw [if_pos hk]
    rfl

/-- **A tick of a leg.** -/
theorem goes_leg {g : Gear} (hG : gearB g = true) {L : List Int} (hL : ∀ i, 0 ≤ legAt L i ∧ legAt L i ≤ g.floors - 1) {i : Nat} {k : Int} (h0 : 0 ≤ k) (hk : k < legD g L i) :
    Goes g (carIn g L i k) (cmdIn g L i k) (if k + 1 < legD g L i then carIn g L i (k + 1) else idleC (legAt L (i + 1))) := by
  have hG' := hG
  simp only [gearB_iff, timesB_iff] at hG'
  have hst : stopG g = g.times.level + g.times.open_ + g.dwell + g.times.close := rfl
  obtain ⟨A1, A2⟩ := hL i
  obtain ⟨B1, B2⟩ := hL (i + 1)
  unfold legD legGo at hk ⊢
  unfold carIn cmdIn
  generalize legAt L i = a at *
  generalize legAt L (i + 1) = b at *
  by_cases hb : stopG g ≤ k
  · have e1 : decide (stopG g ≤ k) = true := by simpa using hb
    have e2 : decide (stopG g ≤ k + 1) = true := by simp; omega
    rw [e1, e2]
    simp only [cond_true]
    have er : k + 1 - stopG g = (k - stopG g) + 1 := by omega
    rw [er]
    obtain ⟨r, hr⟩ : ∃ r, r = k - stopG g := ⟨_, rfl⟩
    rw [← hr]
    have hr0 : 0 ≤ r := by omega
    have hrk : r < ((b - a).natAbs : Int) * g.times.travel := by omega
    have hend : (k + 1 < stopG g + ((b - a).natAbs : Int) * g.times.travel) ↔ r + 1 < ((b - a).natAbs : Int) * g.times.travel := by omega
    simp only [hend]
    clear hend er e1 e2 hr hb hk h0
    obtain ⟨q, n, hq, hn0, hn1, hrq⟩ : ∃ q n : Int, r / g.times.travel = q ∧ 0 ≤ n ∧ n < g.times.travel ∧ r = q * g.times.travel + n := by
      refine ⟨_, r % g.times.travel, rfl, Int.emod_nonneg _ (by omega), Int.emod_lt_of_pos _ (by omega), ?_⟩
      have := Int.mul_ediv_add_emod r g.times.travel
      rw [Int.mul_comm] at this
      omega
    have hN : rideN g r = n := by unfold rideN; rw [hq]; omega
    have hP : ridePart g a b r = ⟨a + q * signI (b - a), signI (b - a), g.times.travel⟩ := by unfold ridePart; rw [hq]
    have hq0 : 0 ≤ q := by rw [← hq]; exact Int.ediv_nonneg hr0 (by omega)
    have hqg : q + 1 ≤ ((b - a).natAbs : Int) := by
      have : q < ((b - a).natAbs : Int) := by
        rw [← hq]
        exact Int.ediv_lt_of_lt_mul (by omega) hrk
      omega
    have hdir : (signI (b - a) = 1 ∧ b - a = ((b - a).natAbs : Int)) ∨ (signI (b - a) = -1 ∧ a - b = ((b - a).natAbs : Int)) := by
      unfold signI
      by_cases h : b - a > 0
      · left
        have : decide (b - a > 0) = true := by simpa using h
        rw [this]
        exact ⟨rfl, by omega⟩
      · right
        have : decide (b - a > 0) = false := by simpa using h
        rw [this]
        exact ⟨rfl, by omega⟩
    have hgo := goes_ride hG (fl := a + q * signI (b - a)) (dir := signI (b - a)) (n := n) (by rcases hdir with ⟨e, e'⟩ | ⟨e, e'⟩ <;> rw [e] <;> omega) (by rcases hdir with ⟨e, _⟩ | ⟨e, _⟩ <;> rw [e] <;> simp) (by rcases hdir with ⟨e, e'⟩ | ⟨e, e'⟩ <;> rw [e] <;> omega) hn0 hn1
    rw [hN, hP]
    have hnext : pathR g (a + q * signI (b - a)) (signI (b - a)) (n + 1) = if r + 1 < ((b - a).natAbs : Int) * g.times.travel then atPart g (ridePart g a b (r + 1)) (rideN g (r + 1)) else idleC b := by
      by_cases hn2 : n + 1 < g.times.travel
      · have hq' : (r + 1) / g.times.travel = q := by
          rw [hrq, show q * g.times.travel + n + 1 = (n + 1) + q * g.times.travel by omega, Int.add_mul_ediv_right _ _ (by omega), Int.ediv_eq_zero_of_lt (by omega) hn2]
          omega
        have hlt : r + 1 < ((b - a).natAbs : Int) * g.times.travel := by
          have h1 : (q + 1) * g.times.travel ≤ ((b - a).natAbs : Int) * g.times.travel := Int.mul_le_mul_of_nonneg_right hqg (by omega)
          rw [Int.add_mul] at h1
          omega
        rw [if_pos hlt]
        have hN' : rideN g (r + 1) = n + 1 := by unfold rideN; rw [hq']; omega
        have hP' : ridePart g a b (r + 1) = ⟨a + q * signI (b - a), signI (b - a), g.times.travel⟩ := by unfold ridePart; rw [hq']
        rw [hN', hP']
        have hb0 : (n + 1 == 0) = false := by simp; omega
        have hd0 : (signI (b - a) != 0) = true := by rcases hdir with ⟨e, _⟩ | ⟨e, _⟩ <;> rw [e] <;> rfl
        simp only [pathR, if_pos hn2, atPart, hb0, cond_false, hd0, cond_true]
        rfl
      · have hne : n + 1 = g.times.travel := by omega
        have hq' : (r + 1) / g.times.travel = q + 1 := by
          rw [hrq, show q * g.times.travel + n + 1 = (q + 1) * g.times.travel by rw [Int.add_mul]; omega]
          exact Int.mul_ediv_cancel _ (by omega)
        have hr1 : r + 1 = (q + 1) * g.times.travel := by rw [Int.add_mul]; omega
        have hpr : pathR g (a + q * signI (b - a)) (signI (b - a)) (n + 1) = idleC (a + (q + 1) * signI (b - a)) := by
          unfold pathR
          rw [if_neg (by omega)]
          have : a + q * signI (b - a) + signI (b - a) = a + (q + 1) * signI (b - a) := by rw [Int.add_mul]; omega
          rw [this]
          rfl
        rw [hpr]
        by_cases hlt : r + 1 < ((b - a).natAbs : Int) * g.times.travel
        · rw [if_pos hlt]
          have hN' : rideN g (r + 1) = 0 := by unfold rideN; rw [hq', hr1]; omega
          have hP' : ridePart g a b (r + 1) = ⟨a + (q + 1) * signI (b - a), signI (b - a), g.times.travel⟩ := by unfold ridePart; rw [hq']
          rw [hN', hP']
          rfl
        · rw [if_neg hlt]
          have hqe : q + 1 = ((b - a).natAbs : Int) := by
            rcases Int.lt_or_eq_of_le hqg with h | h
            · exfalso
              have h1 : (q + 1) * g.times.travel < ((b - a).natAbs : Int) * g.times.travel := Int.mul_lt_mul_of_pos_right h (by omega)
              omega
            · exact h
          have : a + (q + 1) * signI (b - a) = b := by
            rw [hqe]
            rcases hdir with ⟨e, e'⟩ | ⟨e, e'⟩ <;> rw [e] <;> omega
          rw [this]
    rw [← hnext]
    exact hgo
  · have e1 : decide (stopG g ≤ k) = false := by simpa using hb
    rw [e1]
    simp only [cond_false]
    have hgo := goes_stop hG (fl := a) (k := k) ⟨A1, A2⟩ h0 (by omega)
    have hmul : 0 ≤ ((b - a).natAbs : Int) * g.times.travel := Int.mul_nonneg (by omega) (by omega)
    have hnext : pathO g a (k + 1) = if k + 1 < stopG g + ((b - a).natAbs : Int) * g.times.travel then cond (decide (stopG g ≤ k + 1)) (atPart g (ridePart g a b (k + 1 - stopG g)) (rideN g (k + 1 - stopG g))) (atPart g ⟨a, 0, stopG g⟩ (k + 1)) else idleC b := by
      by_cases hk1 : k + 1 < stopG g
      · rw [if_pos (by omega)]
        have : decide (stopG g ≤ k + 1) = false := by simpa using hk1
        rw [this, cond_false]
        have hb0 : (k + 1 == 0) = false := by simp; omega
        unfold pathO allO
        simp only [atPart, hb0, cond_false, bne_self_eq_false, doorsAt, Bool.cond_eq_ite, decide_eq_true_eq, door0]
        rw [hst] at hk1
        (repeat' split) <;> first | omega | (exfalso; simp at *; done) | (simp; try omega)
      · have hke : k + 1 = stopG g := by omega
        have hpo : pathO g a (k + 1) = idleC a := by
          unfold pathO allO
          rw [hke, hst]
          (repeat' split) <;> first | omega | rfl
        rw [hpo, hke]
        by_cases hz : ((b - a).natAbs : Int) * g.times.travel = 0
        · rw [if_neg (by omega)]
          have : ((b - a).natAbs : Int) = 0 := by
            rcases Int.mul_eq_zero.1 hz with h | h
            · exact h
            · omega
          have : a = b := by omega
          rw [this]
        · rw [if_pos (by omega)]
          have : decide (stopG g ≤ stopG g) = true := by simp
          rw [this, cond_true, Int.sub_self]
          simp [ridePart, rideN, atPart, idleC, door0]
    rw [← hnext]
    exact hgo
end Go.Proofs.Ytlnfojhmgncfiaa.Px


namespace Go.Proofs.Ytlnfojhmgncfiaa.Px
open Go

def goSum (L : List Int) (f : Nat) : Nat → Int
  | 0 => 0
  | n + 1 => goSum L f n + legGo L (f + n)

theorem legT0_sum {g : Gear} {L : List Int} {f : Nat} : ∀ n : Nat, legT0 g L f n = (n : Int) * stopG g + goSum L f n * g.times.travel
  | 0 => by simp [legT0, goSum]
  | n + 1 => by
    have e1 : ((n + 1 : Nat) : Int) * stopG g = (n : Int) * stopG g + stopG g := by rw [Int.natCast_add, Int.add_mul]; simp
    have e2 : (goSum L f n + legGo L (f + n)) * g.times.travel = goSum L f n * g.times.travel + legGo L (f + n) * g.times.travel := Int.add_mul ..
    simp only [legT0, goSum, legD]
    rw [e1, e2, legT0_sum n]
    omega

theorem goSum_add {L : List Int} {f a : Nat} : ∀ b : Nat, goSum L f (a + b) = goSum L f a + goSum L (f + a) b
  | 0 => by simp [goSum]
  | b + 1 => by
    rw [show a + (b + 1) = (a + b) + 1 by omega]
    simp only [goSum]
    rw [goSum_add b, show f + (a + b) = f + a + b by omega]
    omega

theorem legAt_per {L : List Int} (i : Nat) : legAt L (i + L.length) = legAt L i := by
  unfold legAt
  rw [Nat.add_mod_right]

theorem legGo_per {L : List Int} (i : Nat) : legGo L (i + L.length) = legGo L i := by
  unfold legGo
  rw [legAt_per, show i + L.length + 1 = i + 1 + L.length by omega, legAt_per]

theorem goSum_rot {L : List Int} : ∀ f : Nat, goSum L f L.length = goSum L 0 L.length
  | 0 => rfl
  | f + 1 => by
    have h1 := goSum_add (L := L) (f := f) (a := 1) L.length
    have h2 := goSum_add (L := L) (f := f) (a := L.length) 1
    have e1 : goSum L f 1 = legGo L f := by simp [goSum]
    have e2 : goSum L (f + L.length) 1 = legGo L f := by simp [goSum, legGo_per]
    rw [Nat.add_comm 1 L.length] at h1
    rw [h1, e1, e2] at h2
    rw [← goSum_rot f]
    omega

theorem chkR_rise {fl : Int} : ∀ {l : List Int} {p : Option Int}, chkR fl p l = true → (∀ i, i + 1 < l.length → l.getD i 0 < l.getD (i + 1) 0) ∧ ∀ q, p = some q → 0 < l.length → q < l.getD 0 0
  | [], _, _ => ⟨fun i h => by simp at h, fun _ _ h => by simp at h⟩
  | x :: l, p, h => by
    have hx : (∀ q, p = some q → q < x) ∧ chkR fl (some x) l = true := by
      cases p with
      | none => simp only [chkR, chkG, Bool.and_eq_true, decide_eq_true_eq] at h; exact ⟨fun q e => (by cases e), h.2⟩
      | some q =>
        simp only [chkR, chkG, Bool.and_eq_true, decide_eq_true_eq] at h
        refine ⟨fun q' e => ?_, h.2⟩
        cases e
        exact h.1.2
    obtain ⟨i1, i2⟩ := chkR_rise hx.2
    refine ⟨fun i hi => ?_, fun q e _ => hx.1 q e⟩
    cases i with
    | zero =>
      have := i2 x rfl (by simp at hi; omega)
      simpa using this
    | succ i =>
      have := i1 i (by simp at hi; omega)
      simpa using this

theorem rowL_len {l : List Int} (h : 2 ≤ l.length) : (rowL l).length = 2 * l.length - 2 := by
  simp [rowL]; omega

theorem rowL_lo {l : List Int} {i : Nat} (h : i < l.length) : (rowL l).getD i 0 = l.getD i 0 := by
  unfold rowL
  simp only [List.getD_eq_getElem?_getD]
  rw [List.getElem?_append_left h]

theorem rowL_hi {l : List Int} {i : Nat} (h1 : l.length ≤ i) (h2 : i < 2 * l.length - 2) : (rowL l).getD i 0 = l.getD (2 * l.length - 2 - i) 0 := by
  unfold rowL
  simp only [List.getD_eq_getElem?_getD]
  rw [List.getElem?_append_right h1]
  have hlen : (l.dropLast.drop 1).length = l.length - 2 := by simp; omega
  rw [List.getElem?_reverse (by rw [hlen]; omega), hlen, List.getElem?_drop, List.getElem?_dropLast, if_pos (by omega)]
  congr 2
  omega

/-- The floors of the row, there and back. -/
theorem legAt_lo {l : List Int} (h2 : 2 ≤ l.length) {i : Nat} (h : i < l.length) : legAt (rowL l) i = l.getD i 0 := by
  unfold legAt
  rw [rowL_len h2]
  by_cases e : i = 2 * l.length - 2
  · omega
  · by_cases e' : i < 2 * l.length - 2
    · rw [Nat.mod_eq_of_lt e', rowL_lo h]
    · omega

theorem legAt_hi {l : List Int} (h2 : 2 ≤ l.length) {i : Nat} (h : l.length - 1 ≤ i) (h' : i ≤ 2 * l.length - 2) : legAt (rowL l) i = l.getD (2 * l.length - 2 - i) 0 := by
  by_cases e0 : i = 2 * l.length - 2
  · subst e0
    unfold legAt
    rw [rowL_len h2, Nat.mod_self, rowL_lo (by omega), Nat.sub_self]
  · by_cases e1 : i < l.length
    · rw [legAt_lo h2 e1]
      congr 1
      omega
    · unfold legAt
      rw [rowL_len h2, Nat.mod_eq_of_lt (by omega), rowL_hi (by omega) (by omega)]

theorem goSum_lo {l : List Int} (h2 : 2 ≤ l.length) (hr : ∀ i, i + 1 < l.length → l.getD i 0 < l.getD (i + 1) 0) : ∀ m : Nat, m < l.length → goSum (rowL l) 0 m = l.getD m 0 - l.getD 0 0
  | 0, _ => by simp [goSum]
  | m + 1, hm => by
    have := hr m hm
    simp only [goSum, Nat.zero_add, legGo]
    rw [goSum_lo h2 hr m (by omega), legAt_lo h2 (by omega), legAt_lo h2 (by omega)]
    omega

theorem goSum_hi {l : List Int} (h2 : 2 ≤ l.length) (hr : ∀ i, i + 1 < l.length → l.getD i 0 < l.getD (i + 1) 0) : ∀ m : Nat, m < l.length → goSum (rowL l) (l.length - 1) m = l.getD (l.length - 1) 0 - l.getD (l.length - 1 - m) 0
  | 0, _ => by simp [goSum]
  | m + 1, hm => by
    have := hr (l.length - 1 - (m + 1)) (by omega)
    simp only [goSum, legGo]
    rw [goSum_hi h2 hr m (by omega), legAt_hi h2 (by omega) (by omega), legAt_hi h2 (by omega) (by omega)]
    rw [show 2 * l.length - 2 - (l.length - 1 + m) = l.length - 1 - (m + 1) + 1 by omega, show 2 * l.length - 2 - (l.length - 1 + m + 1) = l.length - 1 - (m + 1) by omega]
    rw [show l.length - 1 - m = l.length - 1 - (m + 1) + 1 by omega]
    omega

theorem legT0_all {g : Gear} {p : Plan} {fl : Int} (h2 : 2 ≤ p.stops.length) (hr : chkR fl none p.stops = true) (f : Nat) : legT0 g (rowP p) f (rowP p).length = lenP g p := by
  have hrise := (chkR_rise hr).1
  rw [legT0_sum, goSum_rot]
  have hlen : (rowP p).length = 2 * p.stops.length - 2 := rowL_len h2
  have hs : goSum (rowP p) 0 (rowP p).length = 2 * (lastS p - firstS p) := by
    rw [hlen, show 2 * p.stops.length - 2 = (p.stops.length - 1) + (p.stops.length - 1) by omega, goSum_add]
    unfold rowP lastS firstS
    rw [goSum_lo h2 hrise _ (by omega), Nat.zero_add, goSum_hi h2 hrise _ (by omega), Nat.sub_self]
    omega
  rw [hs, hlen]
  unfold lenP
  rw [show ((2 * p.stops.length - 2 : Nat) : Int) = 2 * (p.stops.length : Int) - 2 by omega]

theorem carIn_zero {g : Gear} {L : List Int} {i : Nat} (hs : 0 < stopG g) : carIn g L i 0 = idleC (legAt L i) := by
  have : decide (stopG g ≤ 0) = false := by simp; omega
  unfold carIn
  rw [this]
  rfl

/-- **A car goes on just so.** -/
theorem goes_phase {g : Gear} {p : Plan} (hG : gearB g = true) (hp : planB g p = true) (h2 : 2 ≤ p.stops.length) (hr : chkR g.floors none p.stops = true) (hL : ∀ i, 0 ≤ legAt (rowP p) i ∧ legAt (rowP p) i ≤ g.floors - 1) {ph : Int} (h0 : 0 ≤ ph) (hph : ph < lenP g p) :
    (cycle_At g p ph).2 = 0 ∧ (cycle_Cmd g p ph).2 = 0 ∧ (cycle_At g p (if ph + 1 < lenP g p then ph + 1 else 0)).2 = 0 ∧ Goes g (cycle_At g p ph).1 (cycle_Cmd g p ph).1 (cycle_At g p (if ph + 1 < lenP g p then ph + 1 else 0)).1 := by
  have hG' := hG
  simp only [gearB_iff, timesB_iff] at hG'
  have hs : 0 < stopG g := by unfold stopG; omega
  have ht : 0 ≤ g.times.travel := by omega
  have hN : (rowP p).length = 2 * p.stops.length - 2 := rowL_len h2
  have hall := legT0_all (g := g) h2 hr (firstP p)
  rw [← hall] at hph ⊢
  obtain ⟨j, hj, h1, h3⟩ := legT0_in h0 hph
  obtain ⟨c1, c2⟩ := cycle_pos hp hs ht hj h1 h3
  have h3' := h3
  simp only [legT0] at h3'
  have hgo := goes_leg hG hL (i := firstP p + j) (k := ph - legT0 g (rowP p) (firstP p) j) (by omega) (by omega)
  rw [c1, c2]
  have hnext : cycle_At g p (if ph + 1 < legT0 g (rowP p) (firstP p) (rowP p).length then ph + 1 else 0) = (if ph - legT0 g (rowP p) (firstP p) j + 1 < legD g (rowP p) (firstP p + j) then carIn g (rowP p) (firstP p + j) (ph - legT0 g (rowP p) (firstP p) j + 1) else idleC (legAt (rowP p) (firstP p + j + 1)), 0) := by
    by_cases hk : ph - legT0 g (rowP p) (firstP p) j + 1 < legD g (rowP p) (firstP p + j)
    · have hm := legT0_mono (L := rowP p) (f := firstP p) hs ht (show j + 1 ≤ (rowP p).length by omega)
      simp only [legT0] at hm
      rw [if_pos (by omega), if_pos hk]
      have := (cycle_pos hp hs ht hj (ph := ph + 1) (by omega) (by simp only [legT0]; omega)).1
      rw [this, show ph + 1 - legT0 g (rowP p) (firstP p) j = ph - legT0 g (rowP p) (firstP p) j + 1 by omega]
    · rw [if_neg hk]
      have he : ph + 1 = legT0 g (rowP p) (firstP p) (j + 1) := by simp only [legT0]; omega
      by_cases hjl : j + 1 < (rowP p).length
      · have hm := legT0_mono (L := rowP p) (f := firstP p) hs ht (show j + 2 ≤ (rowP p).length by omega)
        have hD := (legD_pos (L := rowP p) hs ht (firstP p + (j + 1))).2
        have hsucc : legT0 g (rowP p) (firstP p) (j + 2) = legT0 g (rowP p) (firstP p) (j + 1) + legD g (rowP p) (firstP p + (j + 1)) := rfl
        rw [if_pos (by omega)]
        have := (cycle_pos hp hs ht hjl (ph := ph + 1) (by omega) (by rw [show j + 1 + 1 = j + 2 from rfl, hsucc]; omega)).1
        rw [this, he, Int.sub_self, carIn_zero hs]
        rfl
      · have hje : j + 1 = (rowP p).length := by omega
        rw [if_neg (by rw [← hje]; omega)]
        have hD := (legD_pos (L := rowP p) hs ht (firstP p + 0)).2
        have := (cycle_pos hp hs ht (j := 0) (ph := 0) (by omega) (by simp [legT0]) (by simp only [legT0]; omega)).1
        rw [this]
        simp only [legT0, Int.sub_zero, Int.sub_self]
        rw [carIn_zero hs, Nat.add_zero, show firstP p + j + 1 = firstP p + (rowP p).length by omega, legAt_per]
  rw [hnext]
  exact ⟨rfl, rfl, rfl, hgo⟩
end Go.Proofs.Ytlnfojhmgncfiaa.Px


namespace Go.Proofs.Ytlnfojhmgncfiaa.Px
open Go

theorem legT0_add {g : Gear} {L : List Int} {f a : Nat} : ∀ b : Nat, legT0 g L f (a + b) = legT0 g L f a + legT0 g L (f + a) b
  | 0 => by simp [legT0]
  | b + 1 => by
    rw [show a + (b + 1) = (a + b) + 1 by omega]
    simp only [legT0]
    rw [legT0_add b, show f + (a + b) = f + a + b by omega]
    omega

theorem legsSum_eq {g : Gear} {L : List Int} {f : Nat} : ∀ (n i : Nat), legsSum g L f i n = legT0 g L (f + i) n
  | 0, i => rfl
  | n + 1, i => by
    have h := legT0_add (g := g) (L := L) (f := f + i) (a := 1) n
    rw [Nat.add_comm 1 n] at h
    rw [h]
    simp only [legsSum]
    rw [legsSum_eq n (i + 1)]
    simp only [legT0, legD, Nat.add_zero]
    rw [show f + (i + 1) = f + i + 1 by omega]
    omega

theorem legD_per {g : Gear} {L : List Int} (i : Nat) : legD g L (i + L.length) = legD g L i := by
  unfold legD
  rw [legGo_per]

theorem legT0_per {g : Gear} {L : List Int} {f : Nat} : ∀ n : Nat, legT0 g L (f + L.length) n = legT0 g L f n
  | 0 => rfl
  | n + 1 => by
    simp only [legT0]
    rw [legT0_per n, show f + L.length + n = f + n + L.length by omega, legD_per]

theorem carIn_per {g : Gear} {L : List Int} (i : Nat) (k : Int) : carIn g L (i + L.length) k = carIn g L i k ∧ cmdIn g L (i + L.length) k = cmdIn g L i k := by
  unfold carIn cmdIn
  rw [legAt_per, show i + L.length + 1 = i + 1 + L.length by omega, legAt_per]
  exact ⟨rfl, rfl⟩

def firstCar (p : Plan) : Plan := { stops := p.stops, cars := p.cars, car := 0 }

theorem firstP_lt {p : Plan} (h : placeP p p.car < ((rowP p).length : Int)) (h0 : 0 < (rowP p).length) : firstP p < (rowP p).length := by
  unfold firstP
  omega

theorem shiftP_eq {g : Gear} {p : Plan} : shiftP g p = legT0 g (rowP p) 0 (firstP p) := by
  unfold shiftP
  rw [legsSum_eq]
  rfl

theorem same_round {g : Gear} {p : Plan} (hG : gearB g = true) (hp : planB g p = true) (hp0 : planB g (firstCar p) = true) (h2 : 2 ≤ p.stops.length) (hr : chkR g.floors none p.stops = true) (hf : firstP p < (rowP p).length) {ph : Int} (h0 : 0 ≤ ph) (hph : ph < lenP g p) :
    (0 ≤ shiftP g p ∧ shiftP g p < lenP g p) ∧ (cycle_At g p ph).2 = 0 ∧ (cycle_Cmd g p ph).2 = 0 ∧ cycle_At g p ph = cycle_At g (firstCar p) (Int.tmod (ph + shiftP g p) (lenP g p)) ∧ cycle_Cmd g p ph = cycle_Cmd g (firstCar p) (Int.tmod (ph + shiftP g p) (lenP g p)) := by
  have hG' := hG
  simp only [gearB_iff, timesB_iff] at hG'
  have hs : 0 < stopG g := by unfold stopG; omega
  have ht : 0 ≤ g.times.travel := by omega
  have hN : (rowP p).length = 2 * p.stops.length - 2 := rowL_len h2
  have hall := legT0_all (g := g) h2 hr (firstP p)
  have hall0 := legT0_all (g := g) h2 hr 0
  have hf0 : firstP (firstCar p) = 0 := by simp [firstP, firstCar, placeP]
  have hrow : rowP (firstCar p) = rowP p := rfl
  have hsum := legT0_add (g := g) (L := rowP p) (f := 0) (a := firstP p)
  simp only [Nat.zero_add] at hsum
  have hS0 : 0 ≤ shiftP g p := by
    rw [shiftP_eq]
    have := legT0_mono (g := g) (L := rowP p) (f := 0) hs ht (show 0 ≤ firstP p by omega)
    simpa [legT0] using this
  have hSn : shiftP g p < lenP g p := by
    rw [shiftP_eq, ← hall0]
    have := legT0_mono (g := g) (L := rowP p) (f := 0) hs ht (show firstP p + 1 ≤ (rowP p).length by omega)
    have hD := (legD_pos (L := rowP p) hs ht (0 + firstP p)).2
    simp only [legT0] at this
    omega
  have hph' := hph
  rw [← hall] at hph'
  obtain ⟨j, hj, h1, h3⟩ := legT0_in h0 hph'
  obtain ⟨c1, c2⟩ := cycle_pos hp hs ht hj h1 h3
  have hj0 := hsum j
  have hj1 := hsum (j + 1)
  rw [← shiftP_eq] at hj0 hj1
  refine ⟨⟨hS0, hSn⟩, by rw [c1], by rw [c2], ?_⟩
  rw [Int.tmod_eq_emod_of_nonneg (by omega)]
  by_cases hlt : firstP p + j < (rowP p).length
  · have hm := legT0_mono (g := g) (L := rowP p) (f := 0) hs ht (show firstP p + (j + 1) ≤ (rowP p).length by omega)
    rw [Int.emod_eq_of_lt (by omega) (by omega)]
    have hc := cycle_pos (p := firstCar p) hp0 hs ht (j := firstP p + j) (ph := ph + shiftP g p) (by rw [hrow]; exact hlt) (by rw [hrow, hf0]; omega) (by rw [hrow, hf0]; rw [show firstP p + j + 1 = firstP p + (j + 1) by omega]; omega)
    rw [hrow, hf0] at hc
    simp only [Nat.zero_add] at hc
    rw [hc.1, hc.2, c1, c2, show ph + shiftP g p - legT0 g (rowP p) 0 (firstP p + j) = ph - legT0 g (rowP p) (firstP p) j by omega]
    exact ⟨rfl, rfl⟩
  · obtain ⟨j', hj'⟩ : ∃ j', firstP p + j = (rowP p).length + j' := ⟨firstP p + j - (rowP p).length, by omega⟩
    have w0 := legT0_add (g := g) (L := rowP p) (f := 0) (a := (rowP p).length) j'
    have w1 := legT0_add (g := g) (L := rowP p) (f := 0) (a := (rowP p).length) (j' + 1)
    rw [legT0_per, hall0, ← hj'] at w0
    rw [legT0_per, hall0, show (rowP p).length + (j' + 1) = firstP p + (j + 1) by omega] at w1
    have hmod : (ph + shiftP g p) % lenP g p = ph + shiftP g p - lenP g p := by
      rw [← Int.sub_emod_right]
      exact Int.emod_eq_of_lt (by have := legT0_mono (g := g) (L := rowP p) (f := 0) hs ht (show 0 ≤ j' by omega); simp only [legT0] at this; omega) (by omega)
    rw [hmod]
    have hc := cycle_pos (p := firstCar p) hp0 hs ht (j := j') (ph := ph + shiftP g p - lenP g p) (by rw [hrow]; omega) (by rw [hrow, hf0]; omega) (by rw [hrow, hf0]; omega)
    rw [hrow, hf0] at hc
    simp only [Nat.zero_add] at hc
    rw [hc.1, hc.2, c1, c2, show ph + shiftP g p - lenP g p - legT0 g (rowP p) 0 j' = ph - legT0 g (rowP p) (firstP p) j by omega, hj', Nat.add_comm (rowP p).length j', (carIn_per j' _).1, (carIn_per j' _).2]
    exact ⟨rfl, rfl⟩
end Go.Proofs.Ytlnfojhmgncfiaa.Px


namespace Go.Proofs.Ytlnfojhmgncfiaa.Px
open Go

def manyP (p : Plan) : Int := 2 * (p.stops.length : Int) - 2
def sizeP (p : Plan) : Bool := decide (p.stops.length ≤ 70) && decide (2 ≤ p.stops.length)
def stopR (p : Plan) (i : Int) : Int := legAt (rowP p) i.toNat
def stopROk (p : Plan) (i : Int) : Bool := sizeP p && (decide (0 ≤ i) && decide (i ≤ 1000000))
def placeR (p : Plan) : Int := placeP p p.car
def placeROk (p : Plan) : Bool := sizeP p && (decide (1 ≤ p.cars) && (decide (p.cars ≤ 8) && (decide (0 ≤ p.car) && decide (p.car ≤ 8))))
def beginR (p : Plan) : Going := ⟨⟨legAt (rowP p) (placeP p p.car).toNat, 0, 0, 0, ⟨0, 0, 0⟩⟩, placeP p p.car, 3⟩
def toldOk (p : Plan) (x : Going) : Bool := sizeP p && (decide (0 ≤ x.next) && decide (x.next ≤ 1000000))
def toldCmd (p : Plan) (x : Going) : Int := cond (x.c.phase == 0) (cond (x.c.floor == stopR p x.next) 3 (cond (decide (x.c.floor < stopR p x.next)) 1 2)) 0
def toldR (p : Plan) (x : Going) : Going := ⟨x.c, x.next, toldCmd p x⟩
def stepROk (g : Gear) (p : Plan) (x : Going) : Bool := sizeP p && (decide (0 ≤ x.next) && (decide (x.next ≤ 999999) && stepOk g x.c ⟨x.cmd, false, false⟩))
def stepGo (g : Gear) (x : Going) : Going := ⟨(stepC g x.c ⟨x.cmd, false, false⟩).c, cond (x.c.phase == 3 && (stepC g x.c ⟨x.cmd, false, false⟩).c.phase == 0) (x.next + 1) x.next, 0⟩
def stepR (g : Gear) (p : Plan) (x : Going) : Going := toldR p (stepGo g x)
end Go.Proofs.Ytlnfojhmgncfiaa.Px


namespace Go.Proofs.Ytlnfojhmgncfiaa.Px
open Go

def nextOf (f : Nat) : Option (Bool × Nat × Int) → Int
  | some (b, j, _) => ((f + j : Nat) : Int) + cond b 1 0
  | none => 0
def goingAt (g : Gear) (p : Plan) (ph : Int) : Going := ⟨(cycle_At g p ph).1, nextOf (firstP p) (legOf g p ph), (cycle_Cmd g p ph).1⟩
def goingIn (g : Gear) (L : List Int) (i : Nat) (k : Int) : Going := ⟨carIn g L i k, ((i : Nat) : Int) + cond (decide (stopG g ≤ k)) 1 0, cmdIn g L i k⟩

theorem goingAt_pos {g : Gear} {p : Plan} (hp : planB g p = true) (hs : 0 < stopG g) (ht : 0 ≤ g.times.travel) {ph : Int} {j : Nat} (hj : j < (rowP p).length) (h1 : legT0 g (rowP p) (firstP p) j ≤ ph) (h2 : ph < legT0 g (rowP p) (firstP p) (j + 1)) :
    goingAt g p ph = goingIn g (rowP p) (firstP p + j) (ph - legT0 g (rowP p) (firstP p) j) := by
  obtain ⟨c1, c2⟩ := cycle_pos hp hs ht hj h1 h2
  have hq : legOf g p ph = some (decide (legT0 g (rowP p) (firstP p) j + stopG g ≤ ph), j, legT0 g (rowP p) (firstP p) j) :=
    legsFind_at (f := firstP p) hs ht h1 h2 (rowP p).length 0 (by omega) (by omega)
  unfold goingAt goingIn
  rw [c1, c2, hq]
  have : decide (legT0 g (rowP p) (firstP p) j + stopG g ≤ ph) = decide (stopG g ≤ ph - legT0 g (rowP p) (firstP p) j) := by
    rw [Bool.eq_iff_iff]
    simp
    omega
  simp only [nextOf, this]

theorem ride_at {g : Gear} (ht : 1 ≤ g.times.travel) {a b r : Int} (hr0 : 0 ≤ r) (hrk : r < ((b - a).natAbs : Int) * g.times.travel) :
    ∃ q n : Int, 0 ≤ n ∧ n < g.times.travel ∧ 0 ≤ q ∧ q + 1 ≤ ((b - a).natAbs : Int) ∧ rideN g r = n ∧ ridePart g a b r = ⟨a + q * signI (b - a), signI (b - a), g.times.travel⟩ := by
  refine ⟨r / g.times.travel, r % g.times.travel, Int.emod_nonneg _ (by omega), Int.emod_lt_of_pos _ (by omega), Int.ediv_nonneg hr0 (by omega), ?_, ?_, rfl⟩
  · have : r / g.times.travel < ((b - a).natAbs : Int) := Int.ediv_lt_of_lt_mul (by omega) hrk
    omega
  · have := Int.mul_ediv_add_emod r g.times.travel
    rw [Int.mul_comm] at this
    unfold rideN
    omega

theorem signI_abs (n : Int) (h : n ≠ 0) : (signI n = 1 ∧ n = (n.natAbs : Int)) ∨ (signI n = -1 ∧ -n = (n.natAbs : Int)) := by
  unfold signI
  by_cases h' : n > 0
  · left
    have : decide (n > 0) = true := by simpa using h'
    rw [this]
    exact ⟨rfl, by omega⟩
  · right
    have : decide (n > 0) = false := by simpa using h'
    rw [this]
    exact ⟨rfl, by omega⟩

theorem cond_self {α : Type} (b : Bool) (x : α) : cond b x x = x := by cases b <;> rfl

/-- What it is told, there. -/
theorem told_in {g : Gear} (hG : gearB g = true) {p : Plan} {i : Nat} {k : Int} (h0 : 0 ≤ k) (hk : k < legD g (rowP p) i) (c : Int) : toldCmd p ⟨(goingIn g (rowP p) i k).c, (goingIn g (rowP p) i k).next, c⟩ = (goingIn g (rowP p) i k).cmd := by
  have hG' := hG
  simp only [gearB_iff, timesB_iff] at hG'
  unfold goingIn carIn cmdIn toldCmd stopR
  unfold legD legGo at hk
  by_cases hb : stopG g ≤ k
  · have e1 : decide (stopG g ≤ k) = true := by simpa using hb
    simp only [e1, cond_true]
    rw [show (((i : Nat) : Int) + 1).toNat = i + 1 by omega]
    generalize legAt (rowP p) i = a at *
    generalize legAt (rowP p) (i + 1) = b at *
    obtain ⟨q, n, n0, n1, q0, q1, hN, hP⟩ := ride_at (g := g) (a := a) (b := b) (r := k - stopG g) (by omega) (by omega) (by omega)
    rw [hN, hP]
    have hne : b - a ≠ 0 := by intro e; rw [e] at q1; simp at q1; omega
    have hdir := signI_abs (b - a) hne
    have hdne : (signI (b - a) != 0) = true := by rcases hdir with ⟨e, _⟩ | ⟨e, _⟩ <;> rw [e] <;> rfl
    by_cases hn : n = 0
    · subst hn
      simp only [atPart, cmdPart, beq_self_eq_true, cond_true]
      have e3 : decide ((0 : Int) > 0) = false := rfl
      rw [e3, cond_false]
      rcases hdir with ⟨e, e'⟩ | ⟨e, e'⟩
      · rw [e]
        have f1 : (a + q * 1 == b) = false := by simp; omega
        have f2 : decide (a + q * 1 < b) = true := by simp; omega
        rw [f1, f2]
        rfl
      · rw [e]
        have f1 : (a + q * -1 == b) = false := by simp; omega
        have f2 : decide (a + q * -1 < b) = false := by simp; omega
        rw [f1, f2]
        rfl
    · have f1 : (n == 0) = false := by simpa using hn
      have f2 : decide (n > 0) = true := by simp; omega
      simp only [atPart, cmdPart, f1, f2, hdne, cond_true, cond_false]
      rfl
  · have e1 : decide (stopG g ≤ k) = false := by simpa using hb
    simp only [e1, cond_false]
    rw [show (((i : Nat) : Int) + 0).toNat = i by omega]
    generalize legAt (rowP p) i = a at *
    by_cases hn : k = 0
    · subst hn
      simp [atPart, cmdPart]
    · have f1 : (k == 0) = false := by simpa using hn
      have f2 : decide (k > 0) = true := by simp; omega
      have hph : ((atPart g ⟨a, 0, stopG g⟩ k).phase == 0) = false := by
        simp only [atPart, f1, cond_false, bne_self_eq_false, doorsAt]
        cases decide (k < g.times.level)
        · cases decide (k - g.times.level < g.times.open_)
          · cases decide (k - g.times.level - g.times.open_ < g.dwell)
            · cases decide (k - g.times.level - g.times.open_ - g.dwell < g.times.close) <;> rfl
            · rfl
          · rfl
        · rfl
      rw [hph]
      simp only [cmdPart, f2, cond_true, cond_false]

/-- When its door shuts. -/
theorem shuts_in {g : Gear} (hG : gearB g = true) {L : List Int} {i : Nat} {k : Int} (h0 : 0 ≤ k) (hk : k < legD g L i) {c' : Car} (hc : c' = if k + 1 < legD g L i then carIn g L i (k + 1) else idleC (legAt L (i + 1))) :
    ((carIn g L i k).phase == 3 && c'.phase == 0) = decide (k + 1 = stopG g) := by
  have hG' := hG
  simp only [gearB_iff, timesB_iff] at hG'
  have hst : stopG g = g.times.level + g.times.open_ + g.dwell + g.times.close := rfl
  have hD : stopG g ≤ legD g L i := (legD_pos (L := L) (by omega) (by omega) i).1
  by_cases hb : stopG g ≤ k
  · have e1 : decide (stopG g ≤ k) = true := by simpa using hb
    have e2 : decide (k + 1 = stopG g) = false := by simp; omega
    unfold legD legGo at hk
    obtain ⟨q, n, n0, n1, q0, q1, hN, hP⟩ := ride_at (g := g) (a := legAt L i) (b := legAt L (i + 1)) (r := k - stopG g) (by omega) (by omega) (by omega)
    have hne : legAt L (i + 1) - legAt L i ≠ 0 := by intro e; rw [e] at q1; simp at q1; omega
    have hdir := signI_abs _ hne
    have hdne : (signI (legAt L (i + 1) - legAt L i) != 0) = true := by rcases hdir with ⟨e, _⟩ | ⟨e, _⟩ <;> rw [e] <;> rfl
    have : ((carIn g L i k).phase == 3) = false := by
      unfold carIn
      rw [e1, cond_true, hN, hP]
      simp only [atPart, hdne, cond_true]
      cases (n == 0) <;> rfl
    rw [this, e2]
    rfl
  · have e1 : decide (stopG g ≤ k) = false := by simpa using hb
    have hcar : (carIn g L i k).phase = if k = 0 then 0 else if k < g.times.level then 2 else 3 := by
      unfold carIn
      rw [e1, cond_false]
      by_cases hn : k = 0
      · subst hn; rfl
      · have f1 : (k == 0) = false := by simpa using hn
        rw [if_neg hn]
        simp only [atPart, f1, cond_false, bne_self_eq_false, doorsAt]
        by_cases hl : k < g.times.level
        · have : decide (k < g.times.level) = true := by simpa using hl
          rw [this, if_pos hl]; rfl
        · have : decide (k < g.times.level) = false := by simpa using hl
          rw [this, if_neg hl]
          cases decide (k - g.times.level < g.times.open_)
          · cases decide (k - g.times.level - g.times.open_ < g.dwell)
            · cases decide (k - g.times.level - g.times.open_ - g.dwell < g.times.close) <;> rfl
            · rfl
          · rfl
    by_cases hk1 : k + 1 < stopG g
    · have e2 : decide (k + 1 = stopG g) = false := by simp; omega
      have e3 : decide (stopG g ≤ k + 1) = false := by simpa using hk1
      have hc0 : (c'.phase == 0) = false := by
        rw [hc, if_pos (by omega)]
        unfold carIn
        rw [e3, cond_false]
        have f1 : (k + 1 == 0) = false := by simp; omega
        simp only [atPart, f1, cond_false, bne_self_eq_false, doorsAt]
        cases decide (k + 1 < g.times.level)
        · cases decide (k + 1 - g.times.level < g.times.open_)
          · cases decide (k + 1 - g.times.level - g.times.open_ < g.dwell)
            · cases decide (k + 1 - g.times.level - g.times.open_ - g.dwell < g.times.close) <;> rfl
            · rfl
          · rfl
        · rfl
      rw [hc0, e2, Bool.and_false]
    · have hke : k + 1 = stopG g := by omega
      have e2 : decide (k + 1 = stopG g) = true := by simpa using hke
      have hp3 : ((carIn g L i k).phase == 3) = true := by
        rw [hcar, if_neg (by omega), if_neg (by omega)]
        rfl
      have hc0 : (c'.phase == 0) = true := by
        rw [hc]
        split
        · rename_i hlt
          unfold carIn
          have e3 : decide (stopG g ≤ k + 1) = true := by simp; omega
          rw [e3, cond_true, hke, Int.sub_self]
          simp [ridePart, rideN, atPart]
        · rfl
      rw [hp3, hc0, e2]
      rfl

/-- **A tick later.** -/
theorem step_in {g : Gear} (hG : gearB g = true) {p : Plan} (hL : ∀ i, 0 ≤ legAt (rowP p) i ∧ legAt (rowP p) i ≤ g.floors - 1) {i : Nat} {k : Int} (h0 : 0 ≤ k) (hk : k < legD g (rowP p) i) :
    stepOk g (goingIn g (rowP p) i k).c ⟨(goingIn g (rowP p) i k).cmd, false, false⟩ = true ∧ stepR g p (goingIn g (rowP p) i k) = if k + 1 < legD g (rowP p) i then goingIn g (rowP p) i (k + 1) else goingIn g (rowP p) (i + 1) 0 := by
  have hG' := hG
  simp only [gearB_iff, timesB_iff] at hG'
  have hst : stopG g = g.times.level + g.times.open_ + g.dwell + g.times.close := rfl
  have hD := legD_pos (L := rowP p) (g := g) (by omega) (by omega) i
  have hD1 := legD_pos (L := rowP p) (g := g) (by omega) (by omega) (i + 1)
  have hgo := goes_leg hG hL h0 hk
  obtain ⟨ok, next, _, _, _⟩ := hgo
  refine ⟨ok, ?_⟩
  have hsh := shuts_in hG h0 hk next
  have e1 : (stepGo g (goingIn g (rowP p) i k)) = ⟨if k + 1 < legD g (rowP p) i then carIn g (rowP p) i (k + 1) else idleC (legAt (rowP p) (i + 1)), cond (decide (k + 1 = stopG g)) ((goingIn g (rowP p) i k).next + 1) (goingIn g (rowP p) i k).next, 0⟩ := by
    unfold stepGo
    simp only [goingIn] at *
    rw [hsh, next]
  unfold stepR toldR
  rw [e1]
  simp only
  by_cases hlt : k + 1 < legD g (rowP p) i
  · rw [if_pos hlt, if_pos hlt]
    have hn : cond (decide (k + 1 = stopG g)) ((goingIn g (rowP p) i k).next + 1) (goingIn g (rowP p) i k).next = (goingIn g (rowP p) i (k + 1)).next := by
      simp only [goingIn]
      by_cases h1 : k + 1 = stopG g
      · have a1 : decide (k + 1 = stopG g) = true := by simpa using h1
        have a2 : decide (stopG g ≤ k) = false := by simp; omega
        have a3 : decide (stopG g ≤ k + 1) = true := by simp; omega
        rw [a1, a2, a3]
        simp
      · have a1 : decide (k + 1 = stopG g) = false := by simpa using h1
        have a2 : decide (stopG g ≤ k) = decide (stopG g ≤ k + 1) := by rw [Bool.eq_iff_iff]; simp; omega
        rw [a1, a2]
        rfl
    rw [hn]
    have ht := told_in hG (p := p) (i := i) (k := k + 1) (by omega) hlt 0
    simp only [goingIn] at ht ⊢
    rw [ht]
  · rw [if_neg hlt, if_neg hlt]
    have hn : cond (decide (k + 1 = stopG g)) ((goingIn g (rowP p) i k).next + 1) (goingIn g (rowP p) i k).next = (goingIn g (rowP p) (i + 1) 0).next := by
      simp only [goingIn]
      have a4 : decide (stopG g ≤ 0) = false := by simp; omega
      rw [a4]
      by_cases h1 : k + 1 = stopG g
      · have a1 : decide (k + 1 = stopG g) = true := by simpa using h1
        have a2 : decide (stopG g ≤ k) = false := by simp; omega
        rw [a1, a2]
        simp
      · have a1 : decide (k + 1 = stopG g) = false := by simpa using h1
        have a2 : decide (stopG g ≤ k) = true := by simp; omega
        rw [a1, a2]
        simp
    rw [hn]
    have ht := told_in hG (p := p) (i := i + 1) (k := 0) (by omega) (by omega) 0
    simp only [goingIn] at ht ⊢
    rw [carIn_zero (by omega)] at ht ⊢
    rw [ht]

theorem begin_at {g : Gear} {p : Plan} (hG : gearB g = true) (hp : planB g p = true) (h2 : 2 ≤ p.stops.length) : beginR p = goingAt g p 0 ∨ placeP p p.car < 0 := by
  by_cases hneg : placeP p p.car < 0
  · exact .inr hneg
  · left
    have hG' := hG
    simp only [gearB_iff, timesB_iff] at hG'
    have hs : 0 < stopG g := by unfold stopG; omega
    have hD := (legD_pos (L := rowP p) (g := g) hs (by omega) (firstP p + 0)).2
    have hN : (rowP p).length = 2 * p.stops.length - 2 := rowL_len h2
    rw [goingAt_pos hp hs (by omega) (j := 0) (by omega) (by simp [legT0]) (by simp only [legT0]; omega)]
    simp only [legT0, Int.sub_zero, Nat.add_zero, goingIn]
    have a4 : decide (stopG g ≤ 0) = false := by simp; omega
    rw [carIn_zero hs, a4]
    have hc : cmdIn g (rowP p) (firstP p) 0 = 3 := by
      unfold cmdIn
      rw [a4]
      rfl
    rw [hc]
    unfold beginR firstP
    simp only [cond_false, Int.add_zero]
    rw [show ((placeP p p.car).toNat : Int) = placeP p p.car by omega]
    rfl

/-- **The document's car, a tick later.** -/
theorem next_at {g : Gear} (hG : gearB g = true) {p : Plan} (hp : planB g p = true) (h2 : 2 ≤ p.stops.length) (hr : chkR g.floors none p.stops = true) (hL : ∀ i, 0 ≤ legAt (rowP p) i ∧ legAt (rowP p) i ≤ g.floors - 1) {n : Int} (h0 : 0 ≤ n) (hn : n < lenP g p) :
    stepOk g (goingAt g p n).c ⟨(goingAt g p n).cmd, false, false⟩ = true ∧ (0 ≤ (goingAt g p n).next ∧ (goingAt g p n).next ≤ (firstP p + (rowP p).length : Nat)) ∧ (n + 1 < lenP g p → stepR g p (goingAt g p n) = goingAt g p (n + 1)) := by
  have hG' := hG
  simp only [gearB_iff, timesB_iff] at hG'
  have hs : 0 < stopG g := by unfold stopG; omega
  have ht : 0 ≤ g.times.travel := by omega
  have hall := legT0_all (g := g) h2 hr (firstP p)
  rw [← hall] at hn ⊢
  obtain ⟨j, hj, h1, h3⟩ := legT0_in h0 hn
  have h3' := h3
  simp only [legT0] at h3'
  rw [goingAt_pos hp hs ht hj h1 h3]
  obtain ⟨s1, s2⟩ := step_in hG hL (i := firstP p + j) (k := n - legT0 g (rowP p) (firstP p) j) (by omega) (by omega)
  refine ⟨s1, ?_, fun hlt => ?_⟩
  · simp only [goingIn]
    cases decide (stopG g ≤ n - legT0 g (rowP p) (firstP p) j) <;> simp <;> omega
  · rw [s2]
    by_cases hk : n - legT0 g (rowP p) (firstP p) j + 1 < legD g (rowP p) (firstP p + j)
    · rw [if_pos hk, goingAt_pos hp hs ht hj (ph := n + 1) (by omega) (by simp only [legT0]; omega), show n + 1 - legT0 g (rowP p) (firstP p) j = n - legT0 g (rowP p) (firstP p) j + 1 by omega]
    · rw [if_neg hk]
      have he : n + 1 = legT0 g (rowP p) (firstP p) (j + 1) := by simp only [legT0]; omega
      have hjl : j + 1 < (rowP p).length := by
        rcases Nat.lt_or_ge (j + 1) (rowP p).length with h | h
        · exact h
        · have : j + 1 = (rowP p).length := by omega
          rw [← this] at hlt
          omega
      have hD := (legD_pos (L := rowP p) hs ht (firstP p + (j + 1))).2
      have hsucc : legT0 g (rowP p) (firstP p) (j + 1 + 1) = legT0 g (rowP p) (firstP p) (j + 1) + legD g (rowP p) (firstP p + (j + 1)) := rfl
      rw [goingAt_pos hp hs ht hjl (ph := n + 1) (by omega) (by rw [hsucc]; omega), he, Int.sub_self]
      rfl

/-- The first car, ahead of a stop and at it. -/
theorem shift_at {g : Gear} (hG : gearB g = true) {p : Plan} (hp : planB g p = true) (h2 : 2 ≤ p.stops.length) (hr : chkR g.floors none p.stops = true) (hf : firstP p = 0) {to : Nat} (hto : to < (rowP p).length) {n : Int} (h0 : 0 ≤ n) (hn : n ≤ legT0 g (rowP p) 0 to) :
    (decide ((goingAt g p n).next < (to : Int)) || (goingAt g p n).cmd != 3) = decide (n < legT0 g (rowP p) 0 to) ∧ n < lenP g p := by
  have hG' := hG
  simp only [gearB_iff, timesB_iff] at hG'
  have hs : 0 < stopG g := by unfold stopG; omega
  have ht : 0 ≤ g.times.travel := by omega
  have hall := legT0_all (g := g) h2 hr 0
  have hm := legT0_mono (g := g) (L := rowP p) (f := 0) hs ht (show to + 1 ≤ (rowP p).length by omega)
  have hD := (legD_pos (L := rowP p) hs ht (0 + to)).2
  have hlt : n < lenP g p := by
    rw [← hall]
    simp only [legT0] at hm
    omega
  refine ⟨?_, hlt⟩
  have hlt' := hlt
  rw [← hall] at hlt'
  obtain ⟨j, hj, h1, h3⟩ := legT0_in h0 hlt'
  rw [goingAt_pos hp hs ht hj (by rw [hf]; exact h1) (by rw [hf]; exact h3), hf]
  simp only [Nat.zero_add, goingIn]
  by_cases hne : n < legT0 g (rowP p) 0 to
  · have e1 : decide (n < legT0 g (rowP p) 0 to) = true := by simpa using hne
    rw [e1]
    have hjt : j < to := by
      rcases Nat.lt_or_ge j to with h | h
      · exact h
      · have := legT0_mono (g := g) (L := rowP p) (f := 0) hs ht h
        omega
    by_cases hb : stopG g ≤ n - legT0 g (rowP p) 0 j
    · have e2 : decide (stopG g ≤ n - legT0 g (rowP p) 0 j) = true := by simpa using hb
      have hc : (cmdIn g (rowP p) j (n - legT0 g (rowP p) 0 j) != 3) = true := by
        unfold cmdIn
        rw [e2, cond_true]
        have h3' := h3
        simp only [legT0, legD, legGo, Nat.zero_add] at h3'
        obtain ⟨q, m, n0, n1, q0, q1, hN, hP⟩ := ride_at (g := g) (a := legAt (rowP p) j) (b := legAt (rowP p) (j + 1)) (r := n - legT0 g (rowP p) 0 j - stopG g) (by omega) (by omega) (by omega)
        rw [hN, hP]
        have hne : legAt (rowP p) (j + 1) - legAt (rowP p) j ≠ 0 := by intro e; rw [e] at q1; simp at q1; omega
        rcases signI_abs _ hne with ⟨e, _⟩ | ⟨e, _⟩ <;> rw [e] <;> unfold cmdPart <;> cases decide (m > 0) <;> rfl
      rw [hc, Bool.or_true]
    · have e2 : decide (stopG g ≤ n - legT0 g (rowP p) 0 j) = false := by simpa using hb
      rw [e2]
      have : decide (((j : Nat) : Int) + cond false 1 0 < (to : Int)) = true := by simp; omega
      rw [this, Bool.true_or]
  · have hne' : n = legT0 g (rowP p) 0 to := by omega
    have e1 : decide (n < legT0 g (rowP p) 0 to) = false := by simpa using hne
    rw [e1]
    have hjt : j = to := by
      rcases Nat.lt_trichotomy j to with h | h | h
      · have := legT0_mono (g := g) (L := rowP p) (f := 0) hs ht (show j + 1 ≤ to by omega)
        omega
      · exact h
      · have h4 := legT0_mono (g := g) (L := rowP p) (f := 0) hs ht (show to + 1 ≤ j by omega)
        simp only [legT0] at h4
        omega
    subst hjt
    rw [hne', Int.sub_self]
    have a4 : decide (stopG g ≤ 0) = false := by simp; omega
    have hc : cmdIn g (rowP p) j 0 = 3 := by
      unfold cmdIn
      rw [a4]
      rfl
    rw [a4, hc]
    simp

def atOk (g : Gear) (p : Plan) (ph : Int) : Bool := planOk g p && (decide (0 ≤ ph) && decide (ph < lenP g p))
end Go.Proofs.Ytlnfojhmgncfiaa.Px


namespace Go.Proofs.Ytlnfojhmgncfiaa.Px
open Go

/-- A sum over ticks. -/
def sumT (F : Int → Int) : Int → Nat → Int
  | _, 0 => 0
  | a, n + 1 => F a + sumT F (a + 1) n

theorem sumT_add (F : Int → Int) : ∀ (m n : Nat) (a : Int), sumT F a (m + n) = sumT F a m + sumT F (a + (m : Int)) n
  | 0, n, a => by simp [sumT]
  | m + 1, n, a => by
    rw [show m + 1 + n = (m + n) + 1 by omega]
    simp only [sumT]
    rw [sumT_add F m n (a + 1), show a + 1 + (m : Int) = a + ((m + 1 : Nat) : Int) by omega]
    omega

theorem sumT_succ (F : Int → Int) (n : Nat) (a : Int) : sumT F a (n + 1) = sumT F a n + F (a + (n : Int)) := by
  rw [sumT_add F n 1 a]
  simp [sumT]

theorem sumT_congr {F G : Int → Int} : ∀ {n : Nat} {a : Int}, (∀ i, a ≤ i → i < a + (n : Int) → F i = G i) → sumT F a n = sumT G a n
  | 0, _, _ => rfl
  | n + 1, a, h => by
    simp only [sumT]
    rw [h a (by omega) (by omega), sumT_congr (fun i h1 h2 => h i (by omega) (by omega))]

theorem sumT_shift (F : Int → Int) (b : Int) : ∀ (n : Nat) (a : Int), sumT (fun x => F (x + b)) a n = sumT F (a + b) n
  | 0, _ => rfl
  | n + 1, a => by
    simp only [sumT]
    rw [sumT_shift F b n (a + 1), show a + 1 + b = a + b + 1 by omega]

theorem sumT_plus (F G : Int → Int) : ∀ (n : Nat) (a : Int), sumT (fun x => F x + G x) a n = sumT F a n + sumT G a n
  | 0, _ => rfl
  | n + 1, a => by
    simp only [sumT]
    rw [sumT_plus F G n (a + 1)]
    omega

theorem sumT_zero : ∀ (n : Nat) (a : Int), sumT (fun _ => 0) a n = 0
  | 0, _ => rfl
  | n + 1, a => by simp only [sumT]; rw [sumT_zero n (a + 1)]; rfl

theorem sumT_range {F : Int → Int} (h : ∀ i, 0 ≤ F i ∧ F i ≤ 1) : ∀ (n : Nat) (a : Int), 0 ≤ sumT F a n ∧ sumT F a n ≤ (n : Int)
  | 0, _ => by simp [sumT]
  | n + 1, a => by
    have h1 := h a
    have h2 := sumT_range h n (a + 1)
    simp only [sumT]
    omega

def indI (lo hi k : Int) : Int := cond (decide (lo ≤ k) && decide (k < hi)) 1 0

theorem sumT_ind (lo hi : Int) : ∀ (n : Nat) (a : Int), sumT (indI lo hi) a n = max 0 (min hi (a + (n : Int)) - max lo a)
  | 0, a => by simp only [sumT]; omega
  | n + 1, a => by
    simp only [sumT]
    rw [sumT_ind lo hi n (a + 1)]
    unfold indI
    by_cases h1 : lo ≤ a <;> by_cases h2 : a < hi <;> simp only [h1, h2, decide_true, decide_false, Bool.and_self, Bool.and_true, Bool.true_and, Bool.and_false, Bool.false_and, cond_true, cond_false] <;> omega

theorem sumT_in {lo hi : Int} {n : Nat} (h0 : 0 ≤ lo) (h1 : lo ≤ hi) (h2 : hi ≤ (n : Int)) : sumT (indI lo hi) 0 n = hi - lo := by
  rw [sumT_ind]; omega

theorem sumT_mult {t : Int} (ht : 1 ≤ t) : ∀ m : Nat, sumT (fun r => cond (r % t == 0) 1 0) 0 ((m : Int) * t).toNat = (m : Int)
  | 0 => by simp [sumT]
  | m + 1 => by
    have hm : 0 ≤ (m : Int) * t := Int.mul_nonneg (by omega) (by omega)
    have e : (((m + 1 : Nat) : Int) * t).toNat = ((m : Int) * t).toNat + t.toNat := by
      rw [Int.natCast_add, Int.natCast_one, Int.add_mul, Int.one_mul]; omega
    rw [e, sumT_add, sumT_mult ht m]
    have hx : (0 : Int) + ((((m : Int) * t).toNat : Nat) : Int) = (m : Int) * t := by omega
    rw [hx]
    have hc : sumT (fun r => cond (r % t == 0) 1 0) ((m : Int) * t) t.toNat = sumT (indI ((m : Int) * t) ((m : Int) * t + 1)) ((m : Int) * t) t.toNat := by
      refine sumT_congr (fun i h1 h2 => ?_)
      have hr : i % t = i - (m : Int) * t := by
        have : i = (i - (m : Int) * t) + t * (m : Int) := by rw [Int.mul_comm t]; omega
        rw [this, Int.add_mul_emod_self_left, Int.emod_eq_of_lt (by omega) (by omega)]
        rw [Int.mul_comm t]; omega
      rw [hr]
      unfold indI
      by_cases hi : i = (m : Int) * t
      · subst hi
        have a3 : decide ((m : Int) * t < (m : Int) * t + 1) = true := by simp; omega
        rw [a3]
        simp
      · have a1 : (i - (m : Int) * t == 0) = false := by simp; omega
        have a2 : decide (i < (m : Int) * t + 1) = false := by simp; omega
        rw [a1, a2, Bool.and_false]
    rw [hc, sumT_ind]
    omega

/-- A sum over legs. -/
def sumN (S : Nat → Int) (f : Nat) : Nat → Int
  | 0 => 0
  | m + 1 => sumN S f m + S (f + m)

theorem sumN_add (S : Nat → Int) (f a : Nat) : ∀ b : Nat, sumN S f (a + b) = sumN S f a + sumN S (f + a) b
  | 0 => by simp [sumN]
  | b + 1 => by
    rw [show a + (b + 1) = (a + b) + 1 by omega]
    simp only [sumN]
    rw [sumN_add S f a b, show f + (a + b) = f + a + b by omega]
    omega

theorem sumN_rot {S : Nat → Int} {n : Nat} (h : ∀ i, S (i + n) = S i) : ∀ f : Nat, sumN S f n = sumN S 0 n
  | 0 => rfl
  | f + 1 => by
    have h1 := sumN_add S f 1 n
    have h2 := sumN_add S f n 1
    have e1 : sumN S f 1 = S f := by simp [sumN]
    have e2 : sumN S (f + n) 1 = S f := by simp [sumN, h]
    rw [Nat.add_comm 1 n] at h1
    rw [h1, e1, e2] at h2
    rw [← sumN_rot h f]
    omega

theorem sumN_congr {S S' : Nat → Int} {f : Nat} : ∀ {m : Nat}, (∀ i, i < m → S (f + i) = S' (f + i)) → sumN S f m = sumN S' f m
  | 0, _ => rfl
  | m + 1, h => by
    simp only [sumN]
    rw [sumN_congr (fun i hi => h i (by omega)), h m (by omega)]

theorem sumN_front (S : Nat → Int) (f m : Nat) : sumN S f (m + 1) = S f + sumN S (f + 1) m := by
  rw [Nat.add_comm m 1, sumN_add]
  simp [sumN]

theorem sumN_back {T : Nat → Int} {S : Nat → Int} {f k : Nat} : ∀ {m : Nat}, m ≤ k → (∀ j, j < m → S (f + j) = T (k - j)) → sumN S f m = sumN T (k + 1 - m) m
  | 0, _, _ => rfl
  | m + 1, hm, h => by
    rw [sumN_front T, show k + 1 - (m + 1) + 1 = k + 1 - m by omega, ← sumN_back (by omega) (fun j hj => h j (by omega))]
    simp only [sumN]
    rw [h m (by omega), show k + 1 - (m + 1) = k - m by omega]
    omega

theorem sumN_const (c : Int) (f : Nat) : ∀ m : Nat, sumN (fun _ => c) f m = (m : Int) * c
  | 0 => by simp [sumN]
  | m + 1 => by
    simp only [sumN]
    rw [sumN_const c f m, Int.natCast_add, Int.add_mul]
    omega

theorem sumN_one {S : Nat → Int} {q : Nat} {d : Int} (hq : S q = d) (h : ∀ i, i ≠ q → S i = 0) : ∀ m : Nat, sumN S 0 m = if q < m then d else 0
  | 0 => by simp [sumN]
  | m + 1 => by
    simp only [sumN]
    rw [sumN_one hq h m, Nat.zero_add]
    by_cases e : m = q
    · subst e; rw [hq, if_neg (by omega), if_pos (by omega)]; omega
    · rw [h m e]
      by_cases h1 : q < m
      · rw [if_pos h1, if_pos (by omega)]; omega
      · rw [if_neg h1, if_neg (by omega)]; rfl

theorem sum_legs {g : Gear} {L : List Int} {f : Nat} (hs : 0 < stopG g) (ht : 0 ≤ g.times.travel) {F : Int → Int} {H : Nat → Int → Int} : ∀ {m : Nat},
    (∀ j, j < m → ∀ k, 0 ≤ k → k < legD g L (f + j) → F (legT0 g L f j + k) = H (f + j) k) → sumT F 0 (legT0 g L f m).toNat = sumN (fun i => sumT (H i) 0 (legD g L i).toNat) f m
  | 0, _ => by simp [legT0, sumT, sumN]
  | m + 1, h => by
    have h0 := legT0_mono (g := g) (L := L) (f := f) hs ht (Nat.zero_le m)
    have hD := (legD_pos (g := g) (L := L) hs ht (f + m)).2
    simp only [legT0] at h0
    have e : (legT0 g L f (m + 1)).toNat = (legT0 g L f m).toNat + (legD g L (f + m)).toNat := by
      simp only [legT0]; omega
    rw [e, sumT_add, sum_legs hs ht (fun j hj => h j (by omega))]
    simp only [sumN]
    congr 1
    rw [show (0 : Int) + (((legT0 g L f m).toNat : Nat) : Int) = 0 + legT0 g L f m by omega, ← sumT_shift]
    refine sumT_congr (fun k h1 h2 => ?_)
    rw [Int.add_comm]
    exact h m (by omega) k h1 (by omega)

/-! What is counted. -/
def openAt (c : Car) (fl : Int) : Int := cond (c.door.phase == 2 && c.floor == fl) 1 0
def chimeAt (lead : Int) (c : Car) : Int := cond (c.door.phase == 2 && c.door.left == lead) 1 0
def idleAt (c : Car) : Int := cond (c.phase == 0) 1 0

theorem doors_phase (g : Gear) (fl n : Int) (hn : 0 ≤ n) (ho : 0 ≤ g.times.open_) (hd : 0 ≤ g.dwell) (hc : 0 ≤ g.times.close) (h : n < g.times.open_ + g.dwell + g.times.close) : (doorsAt g fl n).phase = 3 ∧ (doorsAt g fl n).floor = fl ∧
    ((doorsAt g fl n).door.phase == 2) = (decide (g.times.open_ ≤ n) && decide (n < g.times.open_ + g.dwell)) ∧ (g.times.open_ ≤ n → n < g.times.open_ + g.dwell → (doorsAt g fl n).door.left = g.dwell - (n - g.times.open_)) := by
  unfold doorsAt
  by_cases h1 : n < g.times.open_
  · have a1 : decide (g.times.open_ ≤ n) = false := by simp; omega
    simp only [h1, decide_true, cond_true, a1, Bool.false_and]
    exact ⟨trivial, trivial, rfl, fun h => by omega⟩
  · have a1 : decide (g.times.open_ ≤ n) = true := by simp; omega
    simp only [h1, decide_false, cond_false, a1, Bool.true_and]
    by_cases h2 : n - g.times.open_ < g.dwell
    · have a2 : decide (n < g.times.open_ + g.dwell) = true := by simp; omega
      simp only [h2, decide_true, cond_true, a2]
      exact ⟨trivial, trivial, rfl, fun _ _ => trivial⟩
    · have a2 : decide (n < g.times.open_ + g.dwell) = false := by simp; omega
      have a3 : decide (n - g.times.open_ - g.dwell < g.times.close) = true := by simp; omega
      simp only [h2, decide_false, cond_false, a2, a3, cond_true]
      exact ⟨trivial, trivial, rfl, fun _ h => by omega⟩

theorem stop_in {g : Gear} (hG : gearB g = true) (fl : Int) {k : Int} (h0 : 0 ≤ k) (hk : k < stopG g) : let c := atPart g ⟨fl, 0, stopG g⟩ k
    c.floor = fl ∧ (c.phase == 0) = (decide (k < 1)) ∧ (c.door.phase == 2) = (decide (g.times.level + g.times.open_ ≤ k) && decide (k < g.times.level + g.times.open_ + g.dwell)) ∧
    (g.times.level + g.times.open_ ≤ k → k < g.times.level + g.times.open_ + g.dwell → c.door.left = g.dwell - (k - g.times.level - g.times.open_)) := by
  simp only [gearB_iff, timesB_iff] at hG
  have hst : stopG g = g.times.level + g.times.open_ + g.dwell + g.times.close := rfl
  intro c
  have hc : c = atPart g ⟨fl, 0, stopG g⟩ k := rfl
  clear_value c
  unfold atPart at hc
  by_cases h1 : k = 0
  · subst h1
    simp only [beq_self_eq_true, cond_true] at hc
    subst hc
    have a1 : decide (g.times.level + g.times.open_ ≤ 0) = false := by simp; omega
    rw [a1]
    exact ⟨rfl, rfl, rfl, fun h => by omega⟩
  · have e1 : (k == 0) = false := by simpa using h1
    have e2 : ((0 : Int) != 0) = false := rfl
    have a0 : decide (k < 1) = false := by simp; omega
    simp only [e1, e2, cond_false] at hc
    rw [a0]
    by_cases h2 : k < g.times.level
    · have a1 : decide (g.times.level + g.times.open_ ≤ k) = false := by simp; omega
      simp only [h2, decide_true, cond_true] at hc
      subst hc
      rw [a1]
      exact ⟨rfl, rfl, rfl, fun h => by omega⟩
    · simp only [h2, decide_false, cond_false] at hc
      subst hc
      obtain ⟨d1, d2, d3, d4⟩ := doors_phase g fl (k - g.times.level) (by omega) (by omega) (by omega) (by omega) (by omega)
      refine ⟨d2, by rw [d1]; rfl, ?_, fun b1 b2 => by rw [d4 (by omega) (by omega)]⟩
      rw [d3]
      congr 1
      · rw [Bool.eq_iff_iff]; simp; omega
      · rw [Bool.eq_iff_iff]; simp; omega

theorem ride_in {g : Gear} {x : Part} (hx : x.dir = 1 ∨ x.dir = -1) (n : Int) : (atPart g x n).door.phase = 0 ∧ ((atPart g x n).phase == 0) = (n == 0) := by
  unfold atPart
  cases h : n == 0 with
  | true => exact ⟨rfl, rfl⟩
  | false =>
    have : (x.dir != 0) = true := by rcases hx with h | h <;> rw [h] <;> rfl
    rw [this]
    exact ⟨rfl, rfl⟩

theorem open_in {g : Gear} (hG : gearB g = true) {L : List Int} {i : Nat} (fl : Int) {k : Int} (h0 : 0 ≤ k) :
    openAt (carIn g L i k) fl = cond (legAt L i == fl) (indI (g.times.level + g.times.open_) (g.times.level + g.times.open_ + g.dwell) k) 0 := by
  have hst : stopG g = g.times.level + g.times.open_ + g.dwell + g.times.close := rfl
  have hG' := hG
  simp only [gearB_iff, timesB_iff] at hG'
  unfold carIn
  by_cases h1 : stopG g ≤ k
  · have hx : (ridePart g (legAt L i) (legAt L (i + 1)) (k - stopG g)).dir = 1 ∨ (ridePart g (legAt L i) (legAt L (i + 1)) (k - stopG g)).dir = -1 := by
      simp only [ridePart, signI]
      cases decide (legAt L (i + 1) - legAt L i > 0) <;> simp
    simp only [h1, decide_true, cond_true, openAt, (ride_in hx _).1]
    have a2 : decide (k < g.times.level + g.times.open_ + g.dwell) = false := by simp; omega
    unfold indI
    rw [a2, Bool.and_false]
    cases legAt L i == fl <;> rfl
  · obtain ⟨s1, _, s3, _⟩ := stop_in hG (legAt L i) h0 (by omega)
    simp only [h1, decide_false, cond_false, openAt, s1, s3]
    unfold indI
    cases legAt L i == fl <;> simp

theorem chime_in {g : Gear} (hG : gearB g = true) {L : List Int} {i : Nat} {k : Int} (h0 : 0 ≤ k) :
    chimeAt g.times.lead (carIn g L i k) = cond (decide (g.times.lead > g.dwell)) 0 (indI (g.times.level + g.times.open_ + g.dwell - g.times.lead) (g.times.level + g.times.open_ + g.dwell - g.times.lead + 1) k) := by
  have hst : stopG g = g.times.level + g.times.open_ + g.dwell + g.times.close := rfl
  have hG' := hG
  simp only [gearB_iff, timesB_iff] at hG'
  unfold carIn
  by_cases h1 : stopG g ≤ k
  · have hx : (ridePart g (legAt L i) (legAt L (i + 1)) (k - stopG g)).dir = 1 ∨ (ridePart g (legAt L i) (legAt L (i + 1)) (k - stopG g)).dir = -1 := by
      simp only [ridePart, signI]
      cases decide (legAt L (i + 1) - legAt L i > 0) <;> simp
    simp only [h1, decide_true, cond_true, chimeAt, (ride_in hx _).1]
    have a2 : decide (k < g.times.level + g.times.open_ + g.dwell - g.times.lead + 1) = false := by simp; omega
    unfold indI
    rw [a2, Bool.and_false]
    cases decide (g.times.lead > g.dwell) <;> rfl
  · obtain ⟨_, _, s3, s4⟩ := stop_in hG (legAt L i) h0 (by omega)
    simp only [h1, decide_false, cond_false, chimeAt, s3]
    by_cases b1 : g.times.level + g.times.open_ ≤ k
    · by_cases b2 : k < g.times.level + g.times.open_ + g.dwell
      · rw [s4 b1 b2]
        unfold indI
        by_cases b3 : g.times.lead > g.dwell
        · have a3 : (g.dwell - (k - g.times.level - g.times.open_) == g.times.lead) = false := by simp; omega
          simp [b3, a3]
        · have a3 : (g.dwell - (k - g.times.level - g.times.open_) == g.times.lead) = (decide (g.times.level + g.times.open_ + g.dwell - g.times.lead ≤ k) && decide (k < g.times.level + g.times.open_ + g.dwell - g.times.lead + 1)) := by
            rw [Bool.eq_iff_iff]; simp; omega
          simp only [b1, b2, b3, decide_true, decide_false, Bool.true_and, Bool.and_true, cond_false, a3]
      · have a2 : decide (k < g.times.level + g.times.open_ + g.dwell - g.times.lead + 1) = false := by simp; omega
        simp only [b2, decide_false, Bool.and_false, Bool.false_and, cond_false, indI, a2]
        cases decide (g.times.lead > g.dwell) <;> rfl
    · simp only [b1, decide_false, Bool.false_and, cond_false, indI]
      by_cases b3 : g.times.lead > g.dwell
      · simp [b3]
      · have a2 : decide (g.times.level + g.times.open_ + g.dwell - g.times.lead ≤ k) = false := by simp; omega
        simp only [b3, decide_false, cond_false, a2, Bool.false_and]

theorem idle_in {g : Gear} (hG : gearB g = true) {L : List Int} {i : Nat} {k : Int} (h0 : 0 ≤ k) :
    idleAt (carIn g L i k) = cond (decide (stopG g ≤ k)) (cond ((k - stopG g) % g.times.travel == 0) 1 0) (indI 0 1 k) := by
  unfold carIn
  by_cases h1 : stopG g ≤ k
  · have hx : (ridePart g (legAt L i) (legAt L (i + 1)) (k - stopG g)).dir = 1 ∨ (ridePart g (legAt L i) (legAt L (i + 1)) (k - stopG g)).dir = -1 := by
      simp only [ridePart, signI]
      cases decide (legAt L (i + 1) - legAt L i > 0) <;> simp
    simp only [h1, decide_true, cond_true, idleAt, (ride_in hx _).2, rideN]
    rw [Int.emod_def, Int.mul_comm]
  · obtain ⟨_, s2, _, _⟩ := stop_in hG (legAt L i) h0 (by omega)
    simp only [h1, decide_false, cond_false, idleAt, s2, indI]
    have : decide ((0 : Int) ≤ k) = true := by simpa using h0
    rw [this, Bool.true_and]

theorem leg_open {g : Gear} (hG : gearB g = true) {L : List Int} (i : Nat) (fl : Int) : sumT (fun k => openAt (carIn g L i k) fl) 0 (legD g L i).toNat = cond (legAt L i == fl) g.dwell 0 := by
  have hst : stopG g = g.times.level + g.times.open_ + g.dwell + g.times.close := rfl
  have hG' := hG
  simp only [gearB_iff, timesB_iff] at hG'
  have hD := (legD_pos (g := g) (L := L) (by omega) (by omega) i).1
  rw [sumT_congr (G := fun k => cond (legAt L i == fl) (indI (g.times.level + g.times.open_) (g.times.level + g.times.open_ + g.dwell) k) 0) (fun k h1 h2 => open_in hG fl h1)]
  cases legAt L i == fl with
  | true =>
    simp only [cond_true]
    rw [sumT_in (by omega) (by omega) (by omega)]
    omega
  | false => simp only [cond_false]; exact sumT_zero _ _

theorem leg_chime {g : Gear} (hG : gearB g = true) {L : List Int} (i : Nat) : sumT (fun k => chimeAt g.times.lead (carIn g L i k)) 0 (legD g L i).toNat = cond (decide (g.times.lead > g.dwell)) 0 1 := by
  have hst : stopG g = g.times.level + g.times.open_ + g.dwell + g.times.close := rfl
  have hG' := hG
  simp only [gearB_iff, timesB_iff] at hG'
  have hD := (legD_pos (g := g) (L := L) (by omega) (by omega) i).1
  rw [sumT_congr (G := fun k => cond (decide (g.times.lead > g.dwell)) 0 (indI (g.times.level + g.times.open_ + g.dwell - g.times.lead) (g.times.level + g.times.open_ + g.dwell - g.times.lead + 1) k)) (fun k h1 h2 => chime_in hG h1)]
  by_cases h : g.times.lead > g.dwell
  · simp only [h, decide_true, cond_true]; exact sumT_zero _ _
  · simp only [h, decide_false, cond_false]
    rw [sumT_in (by omega) (by omega) (by omega)]
    omega

theorem leg_idle {g : Gear} (hG : gearB g = true) {L : List Int} (i : Nat) : sumT (fun k => idleAt (carIn g L i k)) 0 (legD g L i).toNat = 1 + legGo L i := by
  have hst : stopG g = g.times.level + g.times.open_ + g.dwell + g.times.close := rfl
  have hG' := hG
  simp only [gearB_iff, timesB_iff] at hG'
  have hgo : 0 ≤ legGo L i := by unfold legGo; omega
  have hm : 0 ≤ legGo L i * g.times.travel := Int.mul_nonneg hgo (by omega)
  have e : (legD g L i).toNat = (stopG g).toNat + (legGo L i * g.times.travel).toNat := by unfold legD; omega
  rw [e, sumT_add]
  congr 1
  · rw [sumT_congr (G := indI 0 1) (fun k h1 h2 => ?_)]
    · rw [sumT_in (by omega) (by omega) (by omega)]
      rfl
    · rw [idle_in hG h1]
      have : decide (stopG g ≤ k) = false := by simp; omega
      rw [this, cond_false]
  · rw [show (0 : Int) + (((stopG g).toNat : Nat) : Int) = 0 + stopG g by omega, ← sumT_shift]
    rw [sumT_congr (G := fun r => cond (r % g.times.travel == 0) 1 0) (fun k h1 h2 => ?_)]
    · have := sumT_mult (t := g.times.travel) (by omega) (legGo L i).toNat
      rwa [show (((legGo L i).toNat : Nat) : Int) = legGo L i by omega] at this
    · rw [idle_in hG (by omega)]
      have : decide (stopG g ≤ k + stopG g) = true := by simp; omega
      rw [this, cond_true, Int.add_sub_cancel]

/-! A round's sums. -/
def carAt (g : Gear) (p : Plan) (i : Int) : Car := (cycle_At g p i).1
def wantF (g : Gear) (p : Plan) (fl : Int) : Int := cond (fl == firstS p || fl == lastS p) g.dwell (cond (hasI p.stops fl) (2 * g.dwell) 0)

theorem rise_lt {l : List Int} (hr : ∀ i, i + 1 < l.length → l.getD i 0 < l.getD (i + 1) 0) {i : Nat} : ∀ {j : Nat}, i < j → j < l.length → l.getD i 0 < l.getD j 0
  | 0, h, _ => by omega
  | j + 1, h, hj => by
    have h1 := hr j hj
    by_cases e : i = j
    · subst e; exact h1
    · have := rise_lt hr (i := i) (j := j) (by omega) (by omega)
      omega

theorem hasI_iff {l : List Int} {x : Int} : hasI l x = true ↔ ∃ i, i < l.length ∧ l.getD i 0 = x := by
  unfold hasI
  rw [List.any_eq_true]
  constructor
  · rintro ⟨y, hy, e⟩
    obtain ⟨i, hi, rfl⟩ := List.mem_iff_getElem.1 hy
    exact ⟨i, hi, by simpa [List.getD_eq_getElem?_getD, hi] using e⟩
  · rintro ⟨i, hi, e⟩
    refine ⟨l[i], List.getElem_mem _, ?_⟩
    simpa [List.getD_eq_getElem?_getD, hi] using e

theorem sum_wants {l : List Int} (h2 : 2 ≤ l.length) (hr : ∀ i, i + 1 < l.length → l.getD i 0 < l.getD (i + 1) 0) (d fl : Int) (f : Nat) :
    sumN (fun i => cond (legAt (rowL l) i == fl) d 0) f (rowL l).length = cond (fl == l.getD 0 0 || fl == l.getD (l.length - 1) 0) d (cond (hasI l fl) (2 * d) 0) := by
  rw [sumN_rot (fun i => by rw [legAt_per])]
  have hk : (rowL l).length = (l.length - 1) + (l.length - 1) := by rw [rowL_len h2]; omega
  rw [hk, sumN_add, Nat.zero_add]
  have e1 : sumN (fun i => cond (legAt (rowL l) i == fl) d 0) 0 (l.length - 1) = sumN (fun i => cond (l.getD i 0 == fl) d 0) 0 (l.length - 1) :=
    sumN_congr (fun i hi => by rw [Nat.zero_add, legAt_lo h2 (by omega)])
  have e2 : sumN (fun i => cond (legAt (rowL l) i == fl) d 0) (l.length - 1) (l.length - 1) = sumN (fun i => cond (l.getD i 0 == fl) d 0) 1 (l.length - 1) := by
    have := sumN_back (S := fun i => cond (legAt (rowL l) i == fl) d 0) (T := fun i => cond (l.getD i 0 == fl) d 0) (f := l.length - 1) (k := l.length - 1) (m := l.length - 1) (Nat.le_refl _) (fun j hj => by
      rw [legAt_hi h2 (by omega) (by omega), show 2 * l.length - 2 - (l.length - 1 + j) = l.length - 1 - j by omega])
    rw [this, show l.length - 1 + 1 - (l.length - 1) = 1 by omega]
  rw [e1, e2]
  have a1 := sumN_front (fun i => cond (l.getD i 0 == fl) d 0) 0 (l.length - 1)
  have a2 : sumN (fun i => cond (l.getD i 0 == fl) d 0) 0 (l.length - 1 + 1) = _ := rfl
  simp only [sumN, Nat.zero_add] at a1
  have hlast : l.getD 0 0 < l.getD (l.length - 1) 0 := rise_lt hr (by omega) (by omega)
  cases hh : hasI l fl with
  | false =>
    have hno : ∀ i, i < l.length → (l.getD i 0 == fl) = false := fun i hi => by
      rw [Bool.eq_false_iff]
      intro e
      rw [hasI_iff.2 ⟨i, hi, by simpa using e⟩] at hh
      cases hh
    have z1 : sumN (fun i => cond (l.getD i 0 == fl) d 0) 0 (l.length - 1) = sumN (fun _ => 0) 0 (l.length - 1) := sumN_congr (fun i hi => by rw [Nat.zero_add, hno i (by omega), cond_false])
    have z2 : sumN (fun i => cond (l.getD i 0 == fl) d 0) 1 (l.length - 1) = sumN (fun _ => 0) 1 (l.length - 1) := sumN_congr (fun i hi => by rw [hno (1 + i) (by omega), cond_false])
    rw [z1, z2, sumN_const, sumN_const]
    have b1 := hno 0 (by omega)
    have b2 := hno (l.length - 1) (by omega)
    have c1 : (fl == l.getD 0 0) = false := by simp only [beq_eq_false_iff_ne] at b1 ⊢; exact fun e => b1 e.symm
    have c2 : (fl == l.getD (l.length - 1) 0) = false := by simp only [beq_eq_false_iff_ne] at b2 ⊢; exact fun e => b2 e.symm
    rw [c1, c2]
    simp
  | true =>
    obtain ⟨q, hq, hqe⟩ := hasI_iff.1 hh
    have hone : ∀ i, i < l.length → i ≠ q → (l.getD i 0 == fl) = false := fun i hi hne => by
      simp only [beq_eq_false_iff_ne]
      intro e
      rcases Nat.lt_or_gt_of_ne hne with h | h
      · have := rise_lt hr h hq; omega
      · have := rise_lt hr h hi; omega
    have hs : sumN (fun i => cond (l.getD i 0 == fl) d 0) 0 (l.length - 1) = sumN (fun i => if i = q then d else 0) 0 (l.length - 1) := sumN_congr (fun i hi => by
      rw [Nat.zero_add]
      by_cases e : i = q
      · subst e; simp only [hqe, beq_self_eq_true, cond_true, if_true]
      · rw [hone i (by omega) e, if_neg e]; rfl)
    have hs2 := sumN_one (S := fun i => if i = q then d else 0) (q := q) (d := d) (by simp) (fun i hi => by simp [hi]) (l.length - 1)
    rw [hs2] at hs
    rw [hs] at a1 ⊢
    have hT : ∀ i, i < l.length → (cond (l.getD i 0 == fl) d 0 : Int) = if i = q then d else 0 := fun i hi => by
      by_cases e : i = q
      · subst e; simp only [hqe, beq_self_eq_true, cond_true, if_true]
      · rw [hone i hi e, if_neg e]; rfl
    rw [hT 0 (by omega), hT (l.length - 1) (by omega)] at a1
    have c1 : (fl == l.getD 0 0) = decide (q = 0) := by
      by_cases e : q = 0
      · subst e; rw [← hqe]; simp
      · have := rise_lt hr (show 0 < q by omega) hq
        simp only [e, decide_false, beq_eq_false_iff_ne]; omega
    have c2 : (fl == l.getD (l.length - 1) 0) = decide (q = l.length - 1) := by
      by_cases e : q = l.length - 1
      · rw [← e, ← hqe]; simp
      · have := rise_lt hr (show q < l.length - 1 by omega) (by omega)
        simp only [e, decide_false, beq_eq_false_iff_ne]; omega
    rw [c1, c2, cond_true]
    by_cases q0 : q = 0
    · have q1 : ¬ q = l.length - 1 := by omega
      rw [if_pos (by omega : 0 = q), if_neg (by omega : ¬ l.length - 1 = q), if_pos (by omega)] at a1
      rw [if_pos (by omega)]
      simp only [q0, decide_true, Bool.true_or, cond_true]
      omega
    · by_cases q1 : q = l.length - 1
      · rw [if_neg (by omega : ¬ 0 = q), if_pos (by omega : l.length - 1 = q), if_neg (by omega)] at a1
        rw [if_neg (by omega)]
        simp only [q1, decide_true, Bool.or_true, cond_true]
        omega
      · rw [if_neg (by omega : ¬ 0 = q), if_neg (by omega : ¬ l.length - 1 = q), if_pos (by omega)] at a1
        rw [if_pos (by omega)]
        simp only [q0, q1, decide_false, Bool.or_self, cond_false]
        omega

/-- What is known of a plan that may be. -/
theorem plan_parts {g : Gear} {p : Plan} (hp : planB g p = true) : gearB g = true ∧ 2 ≤ p.stops.length ∧ chkR g.floors none p.stops = true := by
  simp only [planB, Bool.and_eq_true, decide_eq_true_eq] at hp
  exact ⟨hp.2.2.2.2.2.2, hp.1, hp.2.2.2.2.2.1⟩

theorem round_sum {g : Gear} {p : Plan} (hp : planB g p = true) {F : Int → Int} {C : Car → Int} (hF : ∀ i, F i = C (carAt g p i)) :
    sumT F 0 (lenP g p).toNat = sumN (fun i => sumT (fun k => C (carIn g (rowP p) i k)) 0 (legD g (rowP p) i).toNat) (firstP p) (rowP p).length := by
  obtain ⟨hG, h2, hr⟩ := plan_parts hp
  have hG' := hG
  simp only [gearB_iff, timesB_iff] at hG'
  have hst : stopG g = g.times.level + g.times.open_ + g.dwell + g.times.close := rfl
  rw [← legT0_all (g := g) h2 hr (firstP p)]
  refine sum_legs (H := fun i k => C (carIn g (rowP p) i k)) (by omega) (by omega) (fun j hj k h0 hk => ?_)
  rw [hF]
  unfold carAt
  rw [(cycle_pos hp (by omega) (by omega) hj (ph := legT0 g (rowP p) (firstP p) j + k) (by omega) (by simp only [legT0]; omega)).1]
  simp only
  rw [show legT0 g (rowP p) (firstP p) j + k - legT0 g (rowP p) (firstP p) j = k by omega]

theorem sum_open {g : Gear} {p : Plan} (hp : planB g p = true) (fl : Int) : sumT (fun i => openAt (carAt g p i) fl) 0 (lenP g p).toNat = wantF g p fl := by
  obtain ⟨hG, h2, hr⟩ := plan_parts hp
  rw [round_sum hp (C := fun c => openAt c fl) (fun _ => rfl)]
  rw [show (fun i => sumT (fun k => openAt (carIn g (rowP p) i k) fl) 0 (legD g (rowP p) i).toNat) = fun i => cond (legAt (rowP p) i == fl) g.dwell 0 from funext fun i => leg_open hG i fl]
  exact sum_wants h2 (chkR_rise hr).1 g.dwell fl (firstP p)

theorem sum_chime {g : Gear} {p : Plan} (hp : planB g p = true) : sumT (fun i => chimeAt g.times.lead (carAt g p i)) 0 (lenP g p).toNat = cond (decide (g.times.lead > g.dwell)) 0 (2 * (p.stops.length : Int) - 2) := by
  obtain ⟨hG, h2, hr⟩ := plan_parts hp
  rw [round_sum hp (C := fun c => chimeAt g.times.lead c) (fun _ => rfl)]
  rw [show (fun i => sumT (fun k => chimeAt g.times.lead (carIn g (rowP p) i k)) 0 (legD g (rowP p) i).toNat) = fun i => cond (decide (g.times.lead > g.dwell)) 0 1 from funext fun i => leg_chime hG i]
  rw [sumN_const]
  have : ((rowP p).length : Int) = 2 * (p.stops.length : Int) - 2 := by
    have := rowL_len h2
    unfold rowP
    omega
  rw [this]
  cases decide (g.times.lead > g.dwell) <;> simp

theorem sumN_idle (L : List Int) (f : Nat) : ∀ m : Nat, sumN (fun i => 1 + legGo L i) f m = (m : Int) + goSum L f m
  | 0 => rfl
  | m + 1 => by
    simp only [sumN, goSum]
    rw [sumN_idle L f m]
    omega

theorem sum_idle {g : Gear} {p : Plan} (hp : planB g p = true) : sumT (fun i => idleAt (carAt g p i)) 0 (lenP g p).toNat = 2 * (p.stops.length : Int) - 2 + 2 * (lastS p - firstS p) := by
  obtain ⟨hG, h2, hr⟩ := plan_parts hp
  rw [round_sum hp (C := idleAt) (fun _ => rfl)]
  rw [show (fun i => sumT (fun k => idleAt (carIn g (rowP p) i k)) 0 (legD g (rowP p) i).toNat) = fun i => 1 + legGo (rowP p) i from funext fun i => leg_idle hG i]
  rw [sumN_idle, goSum_rot]
  have hlen : (rowP p).length = 2 * p.stops.length - 2 := rowL_len h2
  have hs : goSum (rowP p) 0 (rowP p).length = 2 * (lastS p - firstS p) := by
    rw [hlen, show 2 * p.stops.length - 2 = (p.stops.length - 1) + (p.stops.length - 1) by omega, goSum_add]
    unfold rowP lastS firstS
    rw [goSum_lo h2 (chkR_rise hr).1 _ (by omega), Nat.zero_add, goSum_hi h2 (chkR_rise hr).1 _ (by omega), Nat.sub_self]
    omega
  rw [hs, hlen]
  omega
end Go.Proofs.Ytlnfojhmgncfiaa.Px
namespace Go.Proofs.Ytlnfojhmgncfiaa.Px
open Go
def wantL (g : Gear) (p : Plan) : List Int := (List.range 12).map fun f : Nat => wantF g p (f : Int)
def noneOpen (l : List Int) : Bool := decide (l = List.replicate 12 0)
def isWant (g : Gear) (p : Plan) (l : List Int) : Bool := decide (l = wantL g p)
def roundOk (g : Gear) (p : Plan) : Bool := planOk g p && decide (g.floors ≤ 12)
def chimesR (g : Gear) (p : Plan) : Int := cond (decide (g.times.lead > g.dwell)) 0 (2 * (p.stops.length : Int) - 2)
def idlesR (p : Plan) : Int := 2 * (p.stops.length : Int) - 2 + 2 * (lastS p - firstS p)
end Go.Proofs.Ytlnfojhmgncfiaa.Px


namespace Go.Proofs.Ytlnfojhmgncfiaa.Px
open Go

def openL (g : Gear) (p : Plan) (n : Nat) : List Int := (List.range 12).map fun f : Nat => sumT (fun i => openAt (carAt g p i) (f : Int)) 0 n
def chimesT (g : Gear) (p : Plan) (n : Nat) : Int := sumT (fun i => chimeAt g.times.lead (carAt g p i)) 0 n
def idlesT (g : Gear) (p : Plan) (n : Nat) : Int := sumT (fun i => idleAt (carAt g p i)) 0 n

theorem openAt_range (c : Car) (fl : Int) : 0 ≤ openAt c fl ∧ openAt c fl ≤ 1 := by unfold openAt; cases (c.door.phase == 2 && c.floor == fl) <;> simp
theorem chimeAt_range (n : Int) (c : Car) : 0 ≤ chimeAt n c ∧ chimeAt n c ≤ 1 := by unfold chimeAt; cases (c.door.phase == 2 && c.door.left == n) <;> simp
theorem idleAt_range (c : Car) : 0 ≤ idleAt c ∧ idleAt c ≤ 1 := by unfold idleAt; cases c.phase == 0 <;> simp
theorem openL_len (g : Gear) (p : Plan) (n : Nat) : (openL g p n).length = 12 := by simp [openL]
theorem wantL_len (g : Gear) (p : Plan) : (wantL g p).length = 12 := by simp [wantL]
theorem openL_zero (g : Gear) (p : Plan) : openL g p 0 = List.replicate 12 0 := rfl
theorem openL_get (g : Gear) (p : Plan) (n : Nat) {f : Nat} (h : f < 12) : (openL g p n).getD f 0 = sumT (fun i => openAt (carAt g p i) (f : Int)) 0 n := by
  simp [openL, List.getD_eq_getElem?_getD, h]
theorem wantL_get (g : Gear) (p : Plan) {f : Nat} (h : f < 12) : (wantL g p).getD f 0 = wantF g p (f : Int) := by
  simp [wantL, List.getD_eq_getElem?_getD, h]
theorem openL_all {g : Gear} {p : Plan} (hp : planB g p = true) : openL g p (lenP g p).toNat = wantL g p := by
  unfold openL wantL
  exact List.map_congr_left fun f _ => sum_open hp (f : Int)
theorem openL_next (g : Gear) (p : Plan) (n : Nat) {fl : Int} (h0 : 0 ≤ fl) (h1 : fl ≤ 11) (hf : (carAt g p n).floor = fl) (hd : ((carAt g p n).door.phase == 2) = true) :
    (openL g p n).set fl.toNat ((openL g p n).getD fl.toNat 0 + 1) = openL g p (n + 1) := by
  have hlt : fl.toNat < 12 := by omega
  apply List.ext_getElem?
  intro j
  by_cases e : fl.toNat = j
  · subst e
    rw [List.getElem?_set_self (by rw [openL_len]; exact hlt), openL_get g p n hlt]
    simp only [openL, List.getElem?_map, List.getElem?_range hlt, Option.map_some, Option.some.injEq, sumT_succ, Int.zero_add]
    rw [show ((fl.toNat : Nat) : Int) = fl by omega]
    simp only [openAt, hd, hf, Bool.true_and, beq_self_eq_true, cond_true]
  · rw [List.getElem?_set_ne e]
    simp only [openL, List.getElem?_map]
    by_cases hj : j < 12
    · simp only [List.getElem?_range hj, Option.map_some, Option.some.injEq, sumT_succ, Int.zero_add]
      have : (fl == (j : Int)) = false := by simp; omega
      have : openAt (carAt g p n) (j : Int) = 0 := by simp only [openAt, hd, hf, this, Bool.true_and, cond_false]
      omega
    · rw [List.getElem?_eq_none (by simp; omega)]
      rfl
theorem openL_stay (g : Gear) (p : Plan) (n : Nat) (hd : ((carAt g p n).door.phase == 2) = false) : openL g p n = openL g p (n + 1) := by
  unfold openL
  refine List.map_congr_left fun f _ => ?_
  rw [sumT_succ, Int.zero_add]
  simp only [openAt, hd, Bool.false_and, cond_false]
  omega
theorem chimesT_next (g : Gear) (p : Plan) (n : Nat) : chimesT g p (n + 1) = chimesT g p n + chimeAt g.times.lead (carAt g p n) := by unfold chimesT; rw [sumT_succ, Int.zero_add]
theorem idlesT_next (g : Gear) (p : Plan) (n : Nat) : idlesT g p (n + 1) = idlesT g p n + idleAt (carAt g p n) := by unfold idlesT; rw [sumT_succ, Int.zero_add]
theorem count_range (g : Gear) (p : Plan) (n : Nat) : (0 ≤ chimesT g p n ∧ chimesT g p n ≤ (n : Int)) ∧ (0 ≤ idlesT g p n ∧ idlesT g p n ≤ (n : Int)) ∧ ∀ f, f < 12 → 0 ≤ (openL g p n).getD f 0 ∧ (openL g p n).getD f 0 ≤ (n : Int) :=
  ⟨sumT_range (fun i => chimeAt_range _ _) n 0, sumT_range (fun i => idleAt_range _) n 0, fun f hf => by rw [openL_get g p n hf]; exact sumT_range (fun i => openAt_range _ _) n 0⟩

theorem car_floor {g : Gear} {p : Plan} (hp : planB g p = true) (hL : ∀ i, 0 ≤ legAt (rowP p) i ∧ legAt (rowP p) i ≤ g.floors - 1) {ph : Int} (h0 : 0 ≤ ph) (hph : ph < lenP g p) : (cycle_At g p ph).2 = 0 ∧ 0 ≤ (carAt g p ph).floor ∧ (carAt g p ph).floor ≤ g.floors - 1 := by
  obtain ⟨hG, h2, hr⟩ := plan_parts hp
  obtain ⟨r1, _, _, hgo⟩ := goes_phase hG hp h2 hr hL h0 hph
  have := hgo.ok
  simp only [stepOk, carOk, carB, wthin, Bool.and_eq_true, decide_eq_true_eq] at this
  refine ⟨r1, ?_⟩
  unfold carAt
  omega
end Go.Proofs.Ytlnfojhmgncfiaa.Px
