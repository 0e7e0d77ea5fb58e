/- Days and dates, as plain functions. -/
import Derived.Test.YtfhepbbkggdlcaaGreatDoorPxApi0
import Derived.Test.YtfhepbbkggdlcaaGreatDoorPxSpecConfig
import Derived.IntWalk
set_option linter.unusedVariables false
set_option linter.unusedSimpArgs false
namespace Go.Proofs.YtfhepbbkggdlcaaGreatDoor.Px
open Go
def big (n : Int) : Bool := decide (-1000000000000 ≤ n) && decide (n ≤ 1000000000000)
def byB (b : Int) : Bool := decide (1 ≤ b) && decide (b ≤ 1000000)
def divOk (a b : Int) : Bool := big a && byB b
def divsDiv (a b : Int) : Int × Int := (a / b, 0)
def divsMod (a b : Int) : Int × Int := (a % b, 0)
def nextOk (a b r : Int) : Bool := divOk a b && (decide (0 ≤ r) && decide (r < b))
def divsNext (a b r : Int) : Int × Int := (a + (r - a % b) % b, 0)
def leapG (y : Int) : Bool := (y.tmod 4 == 0 && y.tmod 100 != 0) || y.tmod 400 == 0
def lensG : List Int := [31, 28, 31, 30, 31, 30, 31, 31, 30, 31, 30, 31]
def monthB (y m : Int) : Bool := decide (1 ≤ y) && (decide (y ≤ 9999) && (decide (1 ≤ m) && decide (m ≤ 12)))
def daysG (y m : Int) : Int := cond (monthB y m) (cond (m == 2 && leapG y) 29 (selI lensG (m - 1).toNat)) 0
def yearB (y : Int) : Bool := decide (1 ≤ y) && decide (y ≤ 10000)
def beforeG (y : Int) : Int := 365 * (y - 1) + (y - 1) / 4 - (y - 1) / 100 + (y - 1) / 400
def sumG (y : Int) : Nat → Int
 | 0 => 0
 | k + 1 => sumG y k + daysG y ((k : Int) + 1)
def aheadG (y : Int) : Sums := ⟨0, sumG y 1, sumG y 2, sumG y 3, sumG y 4, sumG y 5, sumG y 6, sumG y 7, sumG y 8, sumG y 9, sumG y 10, sumG y 11, sumG y 12⟩
def dayG (d : Date) : Int × Int := cond (decide (d.day < 1) || decide (d.day > daysG d.year d.month)) (0, 20) (beforeG d.year + sumG d.year (d.month - 1).toNat + d.day, 0)
def date0 : Date := ⟨0, 0, 0⟩
def wr (n : Int) : Int := IntKind.wrap IntKind.i64 n
def ofC (n : Int) : Int := Int.tmod (wr (n - 1)) 146097
def ofQ (n : Int) : Int := bif decide (3 < wr ((ofC n).tdiv 36524)) then 3 else wr ((ofC n).tdiv 36524)
def ofD (n : Int) : Int := wr (ofC n - wr (ofQ n * 36524))
def ofE (n : Int) : Int := Int.tmod (ofD n) 1461
def ofO (n : Int) : Int := bif decide (3 < wr ((ofE n).tdiv 365)) then 3 else wr ((ofE n).tdiv 365)
def lfG (n : Int) : Int := wr (ofE n - wr (ofO n * 365))
def yrG (n : Int) : Int := wr (wr (wr (1 + wr (400 * wr ((wr (n - 1)).tdiv 146097))) + wr (wr (100 * ofQ n) + wr (4 * wr ((ofD n).tdiv 1461)))) + ofO n)
def monGo (y left : Int) (m : Nat) : Nat → Nat
 | 0 => m
 | k + 1 => cond (decide (left < sumG y m)) m (monGo y left (m + 1) k)
def monG (n : Int) : Nat := monGo (yrG n) (lfG n) 1 11
def ofG (n : Int) : Date × Int := cond (decide (n < 1) || decide (n > 3652059)) (date0, 21) (⟨yrG n, ((monG n : Nat) : Int), lfG n - sumG (yrG n) (monG n - 1) + 1⟩, 0)
def firstG (y m : Int) : Int := beforeG y + sumG y (m - 1).toNat + 1
def fromG (y m w : Int) : Int := firstG y m + (w - firstG y m % 7) % 7
def nthBad (w k : Int) : Bool := decide (w < 0) || decide (w > 6) || (k != -1 && (decide (k < 1) || decide (k > 5)))
def nthG (y m w k : Int) : Int × Int := cond (daysG y m == 0) (0, 20) (cond (nthBad w k) (0, 22)
 (cond (k == -1) (fromG y m w + (firstG y m + daysG y m - 1 - fromG y m w) / 7 * 7, 0)
  (cond (decide (fromG y m w + 7 * (k - 1) ≥ firstG y m + daysG y m)) (0, 22) (fromG y m w + 7 * (k - 1), 0))))
theorem wrI {n : Int} (h : -9223372036854775808 ≤ n ∧ n ≤ 9223372036854775807) : IntKind.wrap IntKind.i64 n = n := IntWalk.i64_in _ (by omega)
theorem div_down {a b : Int} (hb : 1 ≤ b) : (a.tmod b < 0 → a / b = a.tdiv b - 1 ∧ a % b = a.tmod b + b) ∧ (0 ≤ a.tmod b → a / b = a.tdiv b ∧ a % b = a.tmod b) ∧ -b < a.tmod b ∧ a.tmod b < b := by
 have h1 : a = b * a.tdiv b + a.tmod b := (Int.mul_tdiv_add_tmod a b).symm
 have h2 : a.tmod b < b := Int.tmod_lt_of_pos a (by omega)
 have h3 : -b < a.tmod b := by
  have := Int.tmod_lt_of_pos (-a) (show 0 < b by omega)
  rw [Int.neg_tmod] at this
  omega
 have e1 : a = b * (a / b) + a % b := (Int.mul_ediv_add_emod a b).symm
 have e2 := Int.emod_nonneg a (show b ≠ 0 by omega)
 have e3 := Int.emod_lt_of_pos a (show 0 < b by omega)
 have key : ∀ q r : Int, a = b * q + r → 0 ≤ r → r < b → a / b = q ∧ a % b = r := by
  intro q r h hr0 hrb
  have := (Int.ediv_emod_unique (a := a) (b := b) (r := r) (q := q) (by omega)).2 ⟨by omega, hr0, hrb⟩
  exact this
 refine ⟨fun h => key _ _ ?_ (by omega) (by omega), fun h => key _ _ h1 h h2, h3, h2⟩
 rw [Int.mul_sub]
 omega
theorem daysG_range (y m : Int) : 0 ≤ daysG y m ∧ daysG y m ≤ 31 ∧ (daysG y m ≠ 0 → 1 ≤ y ∧ y ≤ 9999 ∧ 1 ≤ m ∧ m ≤ 12) := by
 unfold daysG
 cases h : monthB y m with
 | false => simp
 | true =>
  simp only [monthB, Bool.and_eq_true, decide_eq_true_eq] at h
  have hm : m = 1 ∨ m = 2 ∨ m = 3 ∨ m = 4 ∨ m = 5 ∨ m = 6 ∨ m = 7 ∨ m = 8 ∨ m = 9 ∨ m = 10 ∨ m = 11 ∨ m = 12 := by omega
  refine ⟨?_, ?_, fun _ => h⟩ <;> rcases hm with rfl | rfl | rfl | rfl | rfl | rfl | rfl | rfl | rfl | rfl | rfl | rfl <;> cases leapG y <;> decide
theorem sumG_range (y : Int) : ∀ k : Nat, 0 ≤ sumG y k ∧ sumG y k ≤ 31 * (k : Int)
 | 0 => by simp [sumG]
 | k + 1 => by
  have h1 := sumG_range y k
  have h2 := daysG_range y ((k : Int) + 1)
  simp only [sumG]
  omega
theorem beforeG_range {y : Int} (h1 : 1 ≤ y) (h2 : y ≤ 10000) : 0 ≤ beforeG y ∧ beforeG y ≤ 3700000 := by
 unfold beforeG
 omega
end Go.Proofs.YtfhepbbkggdlcaaGreatDoor.Px
namespace Go.Proofs.YtfhepbbkggdlcaaGreatDoor.Px
open Go
def lit (n : Int) : Bool := decide (-100000 ≤ n) && decide (n ≤ 100000)
def mid (n : Int) : Bool := decide (-100000000000 ≤ n) && decide (n ≤ 100000000000)
def whenOk (z : Zone) (x : Turn) (_ : Int) : Bool := lit z.base && lit x.minute
def whenG (z : Zone) (x : Turn) (y : Int) : Int := (nthG y x.month x.weekday (cond (x.week == 5) (-1) x.week)).1 * 1440 + x.minute - z.base
def turnsOk (z : Zone) : Bool := lit z.base && (lit z.on.minute && lit z.off.minute)
def shiftOk (z : Zone) (t : Int) : Bool := turnsOk z && mid t
def yearOf (z : Zone) (t : Int) : Int := (ofG ((t + z.base) / 1440)).1.year
def sumB (t a b : Int) : Bool := (decide (a < b) && (decide (a ≤ t) && decide (t < b))) || (decide (b < a) && (decide (t < b) || decide (a ≤ t)))
def shiftG (z : Zone) (t : Int) : Int := cond (z.shift == 0) 0 (cond (sumB t (whenG z z.on (yearOf z t)) (whenG z z.off (yearOf z t))) z.shift 0)
def instG (z : Zone) (d m : Int) : List Int × Int :=
 cond (zone_Check z != 0) ([], zone_Check z) (cond (!inB d 401 3651998 || !inB m 0 1439) ([], 64)
  ((cond (decide (z.shift > 0) && decide (shiftG z (d * 1440 + m - z.base - z.shift) > 0)) [d * 1440 + m - z.base - z.shift] []) ++ cond (shiftG z (d * 1440 + m - z.base) == 0) [d * 1440 + m - z.base] [], 0))
end Go.Proofs.YtfhepbbkggdlcaaGreatDoor.Px


namespace Go.Proofs.YtfhepbbkggdlcaaGreatDoor.Px
open Go
theorem of_parts {n : Int} (h1 : 1 ≤ n) (h2 : n ≤ 3652059) : ofC n = (n - 1) % 146097 ∧ ofQ n = (if 3 < ofC n / 36524 then 3 else ofC n / 36524) ∧ ofD n = ofC n - ofQ n * 36524 ∧ ofE n = ofD n % 1461 ∧ ofO n = (if 3 < ofE n / 365 then 3 else ofE n / 365) ∧ lfG n = ofE n - ofO n * 365 ∧
  yrG n = 1 + 400 * ((n - 1) / 146097) + (100 * ofQ n + 4 * (ofD n / 1461)) + ofO n := by
 have w0 : wr (n - 1) = n - 1 := wrI (by omega)
 have c1 : ofC n = (n - 1) % 146097 := by unfold ofC; rw [w0]; exact Int.tmod_eq_emod_of_nonneg (by omega)
 have c2 : ofQ n = (if 3 < ofC n / 36524 then 3 else ofC n / 36524) := by
  unfold ofQ
  rw [Int.tdiv_eq_ediv_of_nonneg (by omega), show wr (ofC n / 36524) = ofC n / 36524 from wrI (by omega), Bool.cond_decide]
 have q0 : 0 ≤ ofQ n ∧ ofQ n ≤ 3 := by rw [c2]; split <;> omega
 have c3 : ofD n = ofC n - ofQ n * 36524 := by
  unfold ofD
  rw [show wr (ofQ n * 36524) = ofQ n * 36524 from wrI (by omega)]
  exact wrI (by omega)
 have d0 : 0 ≤ ofD n ∧ ofD n ≤ 36524 := by rw [c3, c2]; split <;> omega
 have c4 : ofE n = ofD n % 1461 := by unfold ofE; exact Int.tmod_eq_emod_of_nonneg (by omega)
 have c5 : ofO n = (if 3 < ofE n / 365 then 3 else ofE n / 365) := by
  unfold ofO
  rw [Int.tdiv_eq_ediv_of_nonneg (by omega), show wr (ofE n / 365) = ofE n / 365 from wrI (by omega), Bool.cond_decide]
 have o0 : 0 ≤ ofO n ∧ ofO n ≤ 3 := by rw [c5]; split <;> omega
 refine ⟨c1, c2, c3, c4, c5, ?_, ?_⟩
 ·unfold lfG
  rw [show wr (ofO n * 365) = ofO n * 365 from wrI (by omega)]
  exact wrI (by omega)
 ·unfold yrG
  rw [w0, Int.tdiv_eq_ediv_of_nonneg (show 0 ≤ n - 1 by omega), Int.tdiv_eq_ediv_of_nonneg d0.1]
  rw [show wr ((n - 1) / 146097) = (n - 1) / 146097 from wrI (by omega), show wr (ofD n / 1461) = ofD n / 1461 from wrI (by omega), show wr (400 * ((n - 1) / 146097)) = 400 * ((n - 1) / 146097) from wrI (by omega),
   show wr (100 * ofQ n) = 100 * ofQ n from wrI (by omega), show wr (4 * (ofD n / 1461)) = 4 * (ofD n / 1461) from wrI (by omega), show wr (1 + 400 * ((n - 1) / 146097)) = 1 + 400 * ((n - 1) / 146097) from wrI (by omega),
   show wr (100 * ofQ n + 4 * (ofD n / 1461)) = 100 * ofQ n + 4 * (ofD n / 1461) from wrI (by omega), show wr (1 + 400 * ((n - 1) / 146097) + (100 * ofQ n + 4 * (ofD n / 1461))) = 1 + 400 * ((n - 1) / 146097) + (100 * ofQ n + 4 * (ofD n / 1461)) from wrI (by omega)]
  exact wrI (by omega)
theorem before_parts {a c b d : Int} (hc : 0 ≤ c ∧ c ≤ 3) (hb : 0 ≤ b ∧ b ≤ 24) (hd : 0 ≤ d ∧ d ≤ 3) : beforeG (1 + 400 * a + (100 * c + 4 * b) + d) = 146097 * a + 36524 * c + 1461 * b + 365 * d := by
 unfold beforeG
 have e : 1 + 400 * a + (100 * c + 4 * b) + d - 1 = 400 * a + 100 * c + 4 * b + d := by omega
 rw [e]
 have h4 : (400 * a + 100 * c + 4 * b + d) / 4 = 100 * a + 25 * c + b := by omega
 have h100 : (400 * a + 100 * c + 4 * b + d) / 100 = 4 * a + c := by omega
 have h400 : (400 * a + 100 * c + 4 * b + d) / 400 = a := by omega
 rw [h4, h100, h400]
 omega
theorem before_next {a c b d : Int} (hc : 0 ≤ c ∧ c ≤ 3) (hb : 0 ≤ b ∧ b ≤ 24) (hd : 0 ≤ d ∧ d ≤ 3) : beforeG (1 + 400 * a + (100 * c + 4 * b) + d + 1) = 146097 * a + 36524 * c + 1461 * b + 365 * d + 365 + (if d = 3 ∧ (b < 24 ∨ c = 3) then 1 else 0) := by
 unfold beforeG
 have e : 1 + 400 * a + (100 * c + 4 * b) + d + 1 - 1 = 400 * a + 100 * c + 4 * b + d + 1 := by omega
 rw [e]
 have h4 : (400 * a + 100 * c + 4 * b + d + 1) / 4 = 100 * a + 25 * c + b + (if d = 3 then 1 else 0) := by split <;> omega
 have h100 : (400 * a + 100 * c + 4 * b + d + 1) / 100 = 4 * a + c + (if d = 3 ∧ b = 24 then 1 else 0) := by split <;> omega
 have h400 : (400 * a + 100 * c + 4 * b + d + 1) / 400 = a + (if d = 3 ∧ b = 24 ∧ c = 3 then 1 else 0) := by split <;> omega
 rw [h4, h100, h400]
 by_cases h1 : d = 3 <;> by_cases h2 : b = 24 <;> by_cases h3 : c = 3 <;> simp only [h1, h2, h3, true_and, and_true, false_and, and_false, if_true, if_false, or_true, or_false] <;> (repeat' split) <;> omega
theorem of_spec {n : Int} (h1 : 1 ≤ n) (h2 : n ≤ 3652059) : 1 ≤ yrG n ∧ yrG n ≤ 9999 ∧ 0 ≤ lfG n ∧ lfG n ≤ 365 ∧ n = beforeG (yrG n) + lfG n + 1 ∧ n ≤ beforeG (yrG n + 1) := by
 obtain ⟨c1, c2, c3, c4, c5, c6, c7⟩ := of_parts h1 h2
 have q0 : 0 ≤ ofQ n ∧ ofQ n ≤ 3 := by rw [c2]; split <;> omega
 have d0 : 0 ≤ ofD n ∧ ofD n ≤ 36524 ∧ (ofD n = 36524 → ofQ n = 3) := by rw [c3, c2]; split <;> omega
 have b0 : 0 ≤ ofD n / 1461 ∧ ofD n / 1461 ≤ 24 := by omega
 have o0 : 0 ≤ ofO n ∧ ofO n ≤ 3 := by rw [c5]; split <;> omega
 have l0 : 0 ≤ lfG n ∧ lfG n ≤ 365 ∧ (lfG n = 365 → ofO n = 3 ∧ ofE n = 1460) := by rw [c6, c5]; split <;> omega
 have hb := before_parts (a := (n - 1) / 146097) q0 b0 o0
 have hn := before_next (a := (n - 1) / 146097) q0 b0 o0
 rw [← c7] at hb hn
 have s1 : n - 1 = 146097 * ((n - 1) / 146097) + ofC n := by rw [c1]; exact (Int.mul_ediv_add_emod _ _).symm
 have s2 : ofC n = 36524 * ofQ n + ofD n := by clear hb hn s1 c1 c2 c4 c5 c6 c7; omega
 have s3 : ofD n = 1461 * (ofD n / 1461) + ofE n := by rw [c4]; exact (Int.mul_ediv_add_emod _ _).symm
 have s4 : ofE n = 365 * ofO n + lfG n := by clear hb hn s1 s2 s3 c1 c2 c3 c4 c5 c7; omega
 have hA : (n - 1) / 146097 ≤ 24 := by clear hb hn s1 s2 s3 s4 c1 c2 c3 c4 c5 c6 c7 q0 d0 b0 o0 l0; omega
 have hE : ofE n = 1460 → ofD n / 1461 = 24 → ofQ n = 3 := by
  intro e1 e2
  apply d0.2.2
  clear hb hn s1 s2 s4 c1 c2 c3 c4 c5 c6 c7 q0 d0 b0 o0 l0
  omega
 have hy1 : 1 ≤ yrG n ∧ yrG n ≤ 10000 := by
  rw [c7]
  clear hb hn s1 s2 s3 s4 c1 c2 c3 c4 c5 c6 c7 d0 l0 hE
  have : 0 ≤ (n - 1) / 146097 := by omega
  omega
 clear c1 c2 c3 c4 c5 c6 c7 d0
 generalize (n - 1) / 146097 = A at *
 generalize ofD n / 1461 = B at *
 generalize ofC n = C at *
 generalize ofQ n = Q at *
 generalize ofD n = D at *
 generalize ofE n = E at *
 generalize ofO n = O at *
 generalize lfG n = L at *
 have e : n = beforeG (yrG n) + L + 1 := by rw [hb]; omega
 have hlt : n ≤ beforeG (yrG n + 1) := by
  rw [hn]
  by_cases hl : L = 365
  ·obtain ⟨l1, l2⟩ := l0.2.2 hl
   have hq := hE l2
   by_cases hB : B = 24
   ·have := hq hB
    rw [if_pos ⟨l1, .inr this⟩]
    omega
   ·rw [if_pos ⟨l1, .inl (by omega)⟩]
    omega
  ·split <;> omega
 refine ⟨hy1.1, ?_, l0.1, l0.2.1, e, hlt⟩
 by_cases hy : yrG n = 10000
 ·have : beforeG 10000 = 3652059 := by decide
  rw [hy, this] at e
  omega
 ·omega
theorem daysG_least {y m : Int} (h : daysG y m ≠ 0) : 28 ≤ daysG y m := by
 obtain ⟨_, _, r3⟩ := daysG_range y m
 obtain ⟨y1, y2, m1, m2⟩ := r3 h
 have hb : monthB y m = true := by simp only [monthB, Bool.and_eq_true, decide_eq_true_eq]; omega
 unfold daysG
 rw [hb, cond_true]
 have hm : m = 1 ∨ m = 2 ∨ m = 3 ∨ m = 4 ∨ m = 5 ∨ m = 6 ∨ m = 7 ∨ m = 8 ∨ m = 9 ∨ m = 10 ∨ m = 11 ∨ m = 12 := by omega
 rcases hm with rfl | rfl | rfl | rfl | rfl | rfl | rfl | rfl | rfl | rfl | rfl | rfl <;> cases leapG y <;> decide
theorem before_mono {y z : Int} (h0 : 1 ≤ y) (h : y ≤ z) : beforeG y ≤ beforeG z := by
 unfold beforeG
 omega
end Go.Proofs.YtfhepbbkggdlcaaGreatDoor.Px


namespace Go.Proofs.YtfhepbbkggdlcaaGreatDoor.Px
open Go
def rDiv (a b : Int) : Int := a / b
def rLong (y : Int) : Int := cond (leapG y) 366 365
def dayOk (n : Int) : Bool := decide (1 ≤ n) && decide (n ≤ 3652059)
def rOf (n : Int) : Date := (ofG n).1
def midW (n : Int) : Bool := mid n
def rWeekday (n : Int) : Int := n % 7
def monR (y r : Int) : Nat := monGo y (r - 1) 1 11
def summerR (z : Zone) (t : Int) : Bool := cond (z.shift == 0) false (cond (decide (whenG z z.on (yearOf z t) < whenG z z.off (yearOf z t)))
 (decide (whenG z z.on (yearOf z t) ≤ t) && decide (t < whenG z z.off (yearOf z t))) (!(decide (whenG z z.off (yearOf z t) ≤ t) && decide (t < whenG z z.on (yearOf z t)))))
def toldR (z : Zone) (t : Int) : Int := cond (summerR z t) (t + z.base + z.shift) (t + z.base)
def instR (z : Zone) (d m : Int) : List Int :=
 (cond (decide (z.shift > 0) && (toldR z (d * 1440 + m - z.base - z.shift) == d * 1440 + m)) [d * 1440 + m - z.base - z.shift] []) ++ cond (toldR z (d * 1440 + m - z.base) == d * 1440 + m) [d * 1440 + m - z.base] []
def recG (d : Int) : Bool := cond (decide (402 ≤ d)) (decide (d ≤ 3651990)) false
def whereIn (f : Int → List Int) : Nat → Int → Int
 | 0, t => t
 | k + 1, t => cond (f t).isEmpty (whereIn f k (t + 1)) t
def firstIn (f : Int → List Int) (k : Nat) (t : Int) : Int := (f (whereIn f k t)).getD 0 0
def reachIn (f : Int → List Int) : Nat → Int → Bool
 | 0, t => !(f t).isEmpty
 | k + 1, t => !(f t).isEmpty || reachIn f k (t + 1)
def rowG (z : Zone) (t : Int) : List Int := (instG z (t / 1440) (t % 1440)).1
def rowR (z : Zone) (t : Int) : List Int := instR z (t / 1440) (t % 1440)
def toldOk (t : Int) : Bool := decide (578880 ≤ t) && decide (t ≤ 5258867040)
def momOk (d m : Int) : Bool := recG d && (decide (0 ≤ m) && decide (m < 1440))
def momG (z : Zone) (d m : Int) : Int × Int := cond (zone_Check z != 0) (0, zone_Check z) (cond (momOk d m) (firstIn (rowG z) 200 (d * 1440 + m), 0) (0, 140))
def kind1 (w : Window) : Bool := w.kind == 1
def noneW (_ : Window) : Unit := ()
def Cel.void : Cel Unit where
 kinds := []
 enc _ := []
 dec l := some ((), l)
 dflt := ()
 back l x r h := by
  simp only [Option.some.injEq, Prod.mk.injEq, true_and] at h
  rw [h, List.nil_append]
 ok _ := rfl
 total ks l h := ⟨(), l, rfl, h⟩
abbrev Dat.void {X : Elts} : Dat (X := X) Unit := Dat.ofCel Cel.void
def timedG (c : Config) (w : Window) (d : Int) (b : Bool) : Int × Int × Bool := ((momG c.zone d w.minute).1, IntKind.i64.wrap ((momG c.zone d w.minute).1 + w.len), b)
def weekOk (_ : Unit) (_ : Config) (_ : Window) (d : Int) : Bool := midW d
def weekOpen (_ : Unit) (c : Config) (w : Window) (d : Int) : Int × Int × Bool := timedG c w d (bits .and .i64 (w.arg.fdiv (2 ^ (min (d % 7).toNat 64))) 1 == 1)
end Go.Proofs.YtfhepbbkggdlcaaGreatDoor.Px


namespace Go.Proofs.YtfhepbbkggdlcaaGreatDoor.Px
open Go
theorem leap_iff {y : Int} (h : 1 ≤ y) : leapG y = true ↔ (y % 4 = 0 ∧ y % 100 ≠ 0) ∨ y % 400 = 0 := by
 unfold leapG
 rw [Int.tmod_eq_emod_of_nonneg (by omega), Int.tmod_eq_emod_of_nonneg (by omega), Int.tmod_eq_emod_of_nonneg (by omega)]
 simp only [Bool.or_eq_true, Bool.and_eq_true, beq_iff_eq, bne_iff_ne, ne_eq]
theorem long_before {y : Int} (h : 1 ≤ y) : beforeG (y + 1) = beforeG y + rLong y := by
 unfold beforeG rLong
 rw [show y + 1 - 1 = y by omega]
 have hi := leap_iff h
 have h4 : y / 4 = (y - 1) / 4 + (if y % 4 = 0 then 1 else 0) := by split <;> omega
 have h100 : y / 100 = (y - 1) / 100 + (if y % 100 = 0 then 1 else 0) := by split <;> omega
 have h400 : y / 400 = (y - 1) / 400 + (if y % 400 = 0 then 1 else 0) := by split <;> omega
 have d4 : y % 100 = 0 → y % 4 = 0 := by omega
 have d1 : y % 400 = 0 → y % 100 = 0 := by omega
 rw [h4, h100, h400]
 cases hl : leapG y with
 | true =>
  have hn := hi.1 hl
  rw [cond_true]
  clear hi h4 h100 h400
  (repeat' split) <;> omega
 | false =>
  have hn := mt hi.2 (by rw [hl]; decide)
  rw [cond_false]
  clear hi h4 h100 h400
  (repeat' split) <;> omega
theorem sum_year {y : Int} (h1 : 1 ≤ y) (h2 : y ≤ 9999) : sumG y 12 = rLong y := by
 have hb : ∀ m : Int, 1 ≤ m → m ≤ 12 → monthB y m = true := fun m a b => by simp only [monthB, Bool.and_eq_true, decide_eq_true_eq]; omega
 have e : ∀ m : Nat, m < 12 → daysG y ((m : Int) + 1) = cond (((m : Int) + 1) == 2 && leapG y) 29 (selI lensG ((m : Int) + 1 - 1).toNat) := fun m hm => by
  unfold daysG
  rw [hb _ (by omega) (by omega), cond_true]
 simp only [sumG, rLong]
 rw [e 0 (by omega), e 1 (by omega), e 2 (by omega), e 3 (by omega), e 4 (by omega), e 5 (by omega), e 6 (by omega), e 7 (by omega), e 8 (by omega), e 9 (by omega), e 10 (by omega), e 11 (by omega)]
 cases leapG y <;> rfl
theorem sum_mono (y : Int) : ∀ {i j : Nat}, i ≤ j → sumG y i ≤ sumG y j := by
 intro i j h
 induction j with
 | zero => rw [show i = 0 by omega]; exact Int.le_refl _
 | succ j ih =>
  by_cases e : i = j + 1
  ·rw [e]; exact Int.le_refl _
  ·have := ih (by omega)
   have := daysG_range y ((j : Int) + 1)
   simp only [sumG]
   omega
theorem first_next {y m : Int} (h : monthB y m = true) : firstG y (m + 1) = firstG y m + daysG y m := by
 simp only [monthB, Bool.and_eq_true, decide_eq_true_eq] at h
 unfold firstG
 have e : (m + 1 - 1).toNat = (m - 1).toNat + 1 := by omega
 rw [e]
 simp only [sumG]
 rw [show (((m - 1).toNat : Nat) : Int) + 1 = m by omega]
 omega
theorem days_month {y m : Int} (h : monthB y m = true) : 28 ≤ daysG y m ∧ daysG y m ≤ 31 := by
 refine ⟨daysG_least ?_, (daysG_range y m).2.1⟩
 simp only [monthB, Bool.and_eq_true, decide_eq_true_eq] at h
 have hb : monthB y m = true := by simp only [monthB, Bool.and_eq_true, decide_eq_true_eq]; omega
 unfold daysG
 rw [hb, cond_true]
 have hm : m = 1 ∨ m = 2 ∨ m = 3 ∨ m = 4 ∨ m = 5 ∨ m = 6 ∨ m = 7 ∨ m = 8 ∨ m = 9 ∨ m = 10 ∨ m = 11 ∨ m = 12 := by omega
 rcases hm with rfl | rfl | rfl | rfl | rfl | rfl | rfl | rfl | rfl | rfl | rfl | rfl <;> cases leapG y <;> decide
theorem first_far {y m n : Int} (hm : monthB y m = true) (hn : monthB y n = true) (h : m + 2 ≤ n) : firstG y m + daysG y m + 28 ≤ firstG y n := by
 have hm' := hm
 have hn' := hn
 simp only [monthB, Bool.and_eq_true, decide_eq_true_eq] at hm' hn'
 have hk : monthB y (m + 1) = true := by simp only [monthB, Bool.and_eq_true, decide_eq_true_eq]; omega
 have e1 := first_next hm
 have e2 := first_next hk
 have e3 := days_month hk
 have : firstG y (m + 1 + 1) ≤ firstG y n := by
  unfold firstG
  have := sum_mono y (i := (m + 1 + 1 - 1).toNat) (j := (n - 1).toNat) (by omega)
  omega
 omega
theorem nth_in {y m w k : Int} (hm : monthB y m = true) (hw : 0 ≤ w ∧ w ≤ 6) (hk : 1 ≤ k ∧ k ≤ 5) :
  firstG y m ≤ (nthG y m w (cond (k == 5) (-1) k)).1 ∧ (nthG y m w (cond (k == 5) (-1) k)).1 < firstG y m + daysG y m := by
 have hd := days_month hm
 have hf : firstG y m ≤ fromG y m w ∧ fromG y m w ≤ firstG y m + 6 := by unfold fromG; omega
 unfold nthG
 rw [show (daysG y m == 0) = false by rw [beq_eq_false_iff_ne]; omega, cond_false]
 by_cases h5 : k = 5
 ·subst h5
  rw [show ((5 : Int) == 5) = true from rfl, cond_true]
  have hb : nthBad w (-1) = false := by
   unfold nthBad
   rw [show decide (w < 0) = false by simp; omega, show decide (w > 6) = false by simp; omega]
   rfl
  rw [hb, cond_false, show ((-1 : Int) == -1) = true from rfl, cond_true]
  simp only
  omega
 ·rw [show (k == 5) = false by rw [beq_eq_false_iff_ne]; omega, cond_false]
  have hb : nthBad w k = false := by
   unfold nthBad
   rw [show decide (w < 0) = false by simp; omega, show decide (w > 6) = false by simp; omega, show decide (k < 1) = false by simp; omega, show decide (k > 5) = false by simp; omega]
   simp
  rw [hb, cond_false, show (k == -1) = false by rw [beq_eq_false_iff_ne]; omega, cond_false, show decide (fromG y m w + 7 * (k - 1) ≥ firstG y m + daysG y m) = false by simp; omega, cond_false]
  simp only
  omega
theorem turn_parts {x : Turn} (h : turnB x = true) : (1 ≤ x.month ∧ x.month ≤ 12) ∧ (1 ≤ x.week ∧ x.week ≤ 5) ∧ (0 ≤ x.weekday ∧ x.weekday ≤ 6) ∧ (0 ≤ x.minute ∧ x.minute ≤ 1439) := by
 simp only [turnB, Bool.and_eq_true, inB_iff] at h
 exact ⟨h.1.1.1, h.1.1.2, h.1.2, h.2⟩
theorem turns_parts {z : Zone} (h : turnsB z = true) : turnB z.on = true ∧ turnB z.off = true ∧ (z.on.month + 2 ≤ z.off.month ∨ z.off.month + 2 ≤ z.on.month) := by
 simp only [turnsB, Bool.and_eq_true, inB_iff] at h
 refine ⟨h.1.1, h.1.2, ?_⟩
 have := h.2
 unfold apart at this
 split at this <;> omega
theorem when_apart {z : Zone} {y : Int} (h : turnsB z = true) (h1 : 1 ≤ y) (h2 : y ≤ 9999) : (z.on.month + 2 ≤ z.off.month → whenG z z.on y + 20000 ≤ whenG z z.off y) ∧ (z.off.month + 2 ≤ z.on.month → whenG z z.off y + 20000 ≤ whenG z z.on y) := by
 obtain ⟨a, b, _⟩ := turns_parts h
 obtain ⟨a1, a2, a3, a4⟩ := turn_parts a
 obtain ⟨b1, b2, b3, b4⟩ := turn_parts b
 have ha : monthB y z.on.month = true := by simp only [monthB, Bool.and_eq_true, decide_eq_true_eq]; omega
 have hb : monthB y z.off.month = true := by simp only [monthB, Bool.and_eq_true, decide_eq_true_eq]; omega
 have na := nth_in ha a3 a2
 have nb := nth_in hb b3 b2
 unfold whenG
 refine ⟨fun h => ?_, fun h => ?_⟩
 ·have := first_far ha hb h
  omega
 ·have := first_far hb ha h
  omega
theorem zone_facts {z : Zone} (h : zone_Check z = 0) : (-720 ≤ z.base ∧ z.base ≤ 840) ∧ (0 ≤ z.shift ∧ z.shift ≤ 120) ∧ turnsOk z = true ∧ (z.shift ≠ 0 → turnsB z = true) := by
 unfold zone_Check at h
 cases h1 : inB z.base (-720) 840 with
 | false => rw [h1] at h; simp at h
 | true =>
  rw [h1, cond_true] at h
  cases h2 : inB z.shift 0 120 with
  | false => rw [h2] at h; simp at h
  | true =>
   rw [h2, cond_true] at h
   rw [inB_iff] at h1 h2
   by_cases h3 : z.shift = 0
   ·rw [h3] at h
    simp only [beq_self_eq_true, cond_true] at h
    cases h4 : (decide (z.on = turn0) && decide (z.off = turn0)) with
    | false => rw [h4] at h; simp at h
    | true =>
     simp only [Bool.and_eq_true, decide_eq_true_eq] at h4
     refine ⟨h1, h2, ?_, fun hne => absurd h3 hne⟩
     simp only [turnsOk, lit, h4.1, h4.2, turn0, Bool.and_eq_true, decide_eq_true_eq]
     omega
   ·have e : (z.shift == 0) = false := by rw [beq_eq_false_iff_ne]; exact h3
    rw [e, cond_false] at h
    cases h4 : turnsB z with
    | false => rw [h4] at h; simp at h
    | true =>
     refine ⟨h1, h2, ?_, fun _ => rfl⟩
     simp only [turnsB, turnB, Bool.and_eq_true, inB_iff] at h4
     simp only [turnsOk, lit, Bool.and_eq_true, decide_eq_true_eq]
     omega
theorem dayOk_iff {n : Int} : dayOk n = true ↔ 1 ≤ n ∧ n ≤ 3652059 := by simp [dayOk]
theorem year_of {z : Zone} {t : Int} (h : dayOk ((t + z.base) / 1440) = true) : yearOf z t = yrG ((t + z.base) / 1440) ∧ 1 ≤ yearOf z t ∧ yearOf z t ≤ 9999 := by
 have h' := dayOk_iff.1 h
 obtain ⟨y1, y2, _⟩ := of_spec h'.1 h'.2
 have e : yearOf z t = yrG ((t + z.base) / 1440) := by
  unfold yearOf ofG
  rw [show (decide ((t + z.base) / 1440 < 1) || decide ((t + z.base) / 1440 > 3652059)) = false by simp; omega, cond_false]
 rw [e]
 exact ⟨rfl, y1, y2⟩
theorem summer_shift {z : Zone} {t : Int} (hz : zone_Check z = 0) (hd : dayOk ((t + z.base) / 1440) = true) : summerR z t = decide (shiftG z t > 0) ∧ (shiftG z t = 0 ∨ shiftG z t = z.shift) := by
 obtain ⟨_, hs, _, hb⟩ := zone_facts hz
 obtain ⟨_, y1, y2⟩ := year_of hd
 unfold summerR shiftG
 by_cases h0 : z.shift = 0
 ·rw [h0]
  exact ⟨rfl, .inl rfl⟩
 ·have e : (z.shift == 0) = false := by rw [beq_eq_false_iff_ne]; exact h0
  rw [e, cond_false, cond_false]
  have hw := when_apart (hb h0) y1 y2
  have ht := (turns_parts (hb h0)).2.2
  generalize whenG z z.on (yearOf z t) = a at *
  generalize whenG z z.off (yearOf z t) = b at *
  have hab : a < b ∨ b < a := by rcases ht with h | h <;> omega
  clear hw ht hb e hd y1 y2 hz
  refine ⟨?_, ?_⟩
  ·unfold sumB
   rcases hab with h | h
   ·rw [show decide (a < b) = true by simpa using h, show decide (b < a) = false by simp; omega]
    simp only [cond_true, Bool.true_and, Bool.false_and, Bool.or_false]
    cases (decide (a ≤ t) && decide (t < b))
    ·rfl
    ·simp only [cond_true]
     symm; simp; omega
   ·rw [show decide (a < b) = false by simp; omega, show decide (b < a) = true by simpa using h]
    simp only [cond_false, Bool.true_and, Bool.false_and, Bool.false_or]
    rw [show (!(decide (b ≤ t) && decide (t < a))) = (decide (t < b) || decide (a ≤ t)) by rw [Bool.eq_iff_iff]; simp; try omega]
    cases (decide (t < b) || decide (a ≤ t))
    ·rfl
    ·simp only [cond_true]
     symm; simp; omega
  ·cases sumB t a b
   ·exact .inl rfl
   ·exact .inr rfl
theorem inB_true {n a b : Int} (h1 : a ≤ n) (h2 : n ≤ b) : inB n a b = true := inB_iff.2 ⟨h1, h2⟩
theorem day_in {z : Zone} {t x : Int} (hz : zone_Check z = 0) (h1 : 578880 ≤ t) (h2 : t ≤ 5258868000) (h3 : t - 2000 ≤ x) (h4 : x ≤ t + 2000) : dayOk ((x + z.base) / 1440) = true := by
 obtain ⟨hb, _⟩ := zone_facts hz
 rw [dayOk_iff]
 omega
theorem row_same {z : Zone} {t : Int} (hz : zone_Check z = 0) (h1 : 578880 ≤ t) (h2 : t ≤ 5258868000) : rowR z t = rowG z t ∧ rowG z t = (cond (decide (z.shift > 0) && decide (shiftG z (t - z.base - z.shift) > 0)) [t - z.base - z.shift] []) ++ cond (shiftG z (t - z.base) == 0) [t - z.base] [] := by
 obtain ⟨hb, hs, _⟩ := zone_facts hz
 have et : t / 1440 * 1440 + t % 1440 = t := by omega
 have d1 := day_in (x := t - z.base - z.shift) hz h1 h2 (by omega) (by omega)
 have d2 := day_in (x := t - z.base) hz h1 h2 (by omega) (by omega)
 obtain ⟨s1, o1⟩ := summer_shift hz d1
 obtain ⟨s2, o2⟩ := summer_shift hz d2
 have eG : rowG z t = (cond (decide (z.shift > 0) && decide (shiftG z (t - z.base - z.shift) > 0)) [t - z.base - z.shift] []) ++ cond (shiftG z (t - z.base) == 0) [t - z.base] [] := by
  unfold rowG instG
  rw [hz, show ((0 : Int) != 0) = false from rfl, cond_false, inB_true (n := t / 1440) (by omega) (by omega), inB_true (n := t % 1440) (by omega) (by omega), et]
  rfl
 refine ⟨?_, eG⟩
 rw [eG]
 unfold rowR instR
 rw [et]
 have k1 : (decide (z.shift > 0) && (toldR z (t - z.base - z.shift) == t)) = (decide (z.shift > 0) && decide (shiftG z (t - z.base - z.shift) > 0)) := by
  by_cases h0 : z.shift > 0
  ·rw [show decide (z.shift > 0) = true by simpa using h0, Bool.true_and, Bool.true_and]
   unfold toldR
   rw [s1]
   cases decide (shiftG z (t - z.base - z.shift) > 0)
   ·rw [cond_false, beq_eq_false_iff_ne]; omega
   ·rw [cond_true, beq_iff_eq]; omega
  ·rw [show decide (z.shift > 0) = false by simpa using h0, Bool.false_and, Bool.false_and]
 have k2 : (toldR z (t - z.base) == t) = (shiftG z (t - z.base) == 0) := by
  unfold toldR
  rw [s2]
  rcases o2 with e | e
  ·rw [e]
   simp
  ·rw [e]
   by_cases h0 : z.shift > 0
   ·rw [show decide (z.shift > 0) = true by simpa using h0, cond_true]
    rw [Bool.eq_iff_iff, beq_iff_eq, beq_iff_eq]; omega
   ·rw [show z.shift = 0 by omega]; simp
 rw [k1, k2]
theorem reach_of {f : Int → List Int} : ∀ {k j : Nat} {t : Int}, j ≤ k → (f (t + j)).isEmpty = false → reachIn f k t = true
 | 0, j, t, hj, h => by
  rw [show j = 0 by omega, show t + ((0 : Nat) : Int) = t by omega] at h
  simp only [reachIn, h, Bool.not_false]
 | k + 1, j, t, hj, h => by
  simp only [reachIn]
  cases j with
  | zero =>
   rw [show t + ((0 : Nat) : Int) = t by omega] at h
   rw [h]
   rfl
  | succ j => rw [reach_of (k := k) (j := j) (by omega) (by rw [show t + 1 + (j : Int) = t + ((j + 1 : Nat) : Int) by omega]; exact h), Bool.or_true]
theorem reach_G {z : Zone} {t : Int} (hz : zone_Check z = 0) (h : toldOk t = true) : reachIn (rowG z) 200 t = true := by
 simp only [toldOk, Bool.and_eq_true, decide_eq_true_eq] at h
 obtain ⟨hb, hs, _⟩ := zone_facts hz
 have e1 := (row_same hz h.1 (by omega)).2
 cases he : (rowG z t).isEmpty with
 | false => exact reach_of (j := 0) (by omega) (by rw [show t + ((0 : Nat) : Int) = t by omega]; exact he)
 | true =>
  have d2 := day_in (x := t - z.base) hz h.1 (by omega) (by omega) (by omega)
  obtain ⟨s2, o2⟩ := summer_shift hz d2
  have hne : shiftG z (t - z.base) ≠ 0 := by
   intro e0
   rw [e1, e0] at he
   simp at he
  have e0 : shiftG z (t - z.base) = z.shift := by rcases o2 with e | e; exact absurd e hne; exact e
  refine reach_of (j := z.shift.toNat) (by omega) ?_
  rw [show t + (z.shift.toNat : Int) = t + z.shift by omega, (row_same hz (t := t + z.shift) (by omega) (by omega)).2]
  rw [show t + z.shift - z.base - z.shift = t - z.base by omega, show decide (z.shift > 0) = true by simp; omega, show decide (shiftG z (t - z.base) > 0) = true by simp; omega]
  rfl
theorem where_range (f : Int → List Int) : ∀ (k : Nat) (t : Int), t ≤ whereIn f k t ∧ whereIn f k t ≤ t + k
 | 0, t => by simp [whereIn]
 | k + 1, t => by
  have := where_range f k (t + 1)
  simp only [whereIn]
  cases (f t).isEmpty <;> simp only [cond_true, cond_false] <;> omega
theorem where_found {f : Int → List Int} : ∀ {k : Nat} {t : Int}, reachIn f k t = true → (f (whereIn f k t)).isEmpty = false
 | 0, t, h => by simpa [reachIn, whereIn] using h
 | k + 1, t, h => by
  simp only [reachIn, Bool.or_eq_true, Bool.not_eq_true'] at h
  simp only [whereIn]
  cases he : (f t).isEmpty with
  | false => exact he
  | true =>
   rw [he] at h
   rcases h with h | h
   ·cases h
   ·exact where_found h
theorem told_ok {d m : Int} (h : momOk d m = true) : toldOk (d * 1440 + m) = true := by
 simp only [momOk, recG, Bool.and_eq_true, decide_eq_true_eq] at h
 have h1 : 402 ≤ d := by
  cases hd : decide (402 ≤ d)
  ·rw [hd] at h; simp at h
  ·simpa using hd
 rw [decide_eq_true h1, cond_true, decide_eq_true_eq] at h
 simp only [toldOk, Bool.and_eq_true, decide_eq_true_eq]
 omega
end Go.Proofs.YtfhepbbkggdlcaaGreatDoor.Px
