/- The feasts of a year. -/
import Derived.Test.YtgfinnhojeghhaaDoorPxSpecGreg
import Derived.KernelRfl
import Derived.Test.YtgfinnhojeghhaaDoorPxLaw
set_option linter.unusedVariables false
set_option linter.unusedSimpArgs false
namespace Go.Proofs.YtgfinnhojeghhaaDoor.Px
open Go

def hols : List (Int × Int × Int × Bool) := [(1, 1, 1, false), (1, 2, 1, false), (1, 10, 2, false), (1, 15, 3, false), (1, 16, 3, true), (1, 22, 4, false), (1, 23, 4, true), (8, 15, 5, false), (8, 16, 5, true), (8, 21, 6, false), (8, 22, 6, true), (10, 6, 7, false), (10, 7, 7, true)]
def holAt (j : Nat) : Int × Int × Int × Bool := hols.getD j (0, 0, 0, false)
def hit (m d : Int) (j : Nat) : Bool := m == (holAt j).1 && d == (holAt j).2.1
/-- What the whole map says of a date. -/
def holF (m d : Int) : Int × Bool := match (List.range 13).find? (hit m d) with
  | some j => (holAt j).2.2
  | none => (0, false)

/-- A date's feast. -/
def kindF (m d : Int) (ab : Bool) : Int := cond (ab || !(holF m d).2) (holF m d).1 0
def kindCon {X : Elts} : PCon (X := X) := fun args _ => match args with
  | [.agg [.int k1 _, .int k2 m, .int k3 d], .bool ab] => cond (kEq k1 .i64 && (kEq k2 .i64 && kEq k3 .i64)) (some (true, .int .i64 (kindF m d ab))) none
  | _ => none
end Go.Proofs.YtgfinnhojeghhaaDoor.Px


namespace Go.Proofs.YtgfinnhojeghhaaDoor.Px
open Go

def yearM (h : Int) : Bool := decide (1 ≤ h) && decide (h ≤ 100000)
def yearM2 (h : Int) : Bool := decide (1 ≤ h) && decide (h ≤ 99999)
def monthsM (h : Int) : Int := (235 * h - 234) / 19
def partsM (h : Int) : Int := 5604 + 765433 * monthsM h
def moonM (h : Int) : Int × Int := (-1373427 + partsM h / 25920, partsM h % 25920)
def leapM (h : Int) : Bool := decide ((7 * (h % 19) + 1) % 19 < 7)
/-- Is a year put off, by the first three rules? -/
def putM (h : Int) : Bool := decide ((moonM h).2 ≥ 19440) || (((moonM h).1 % 7 == 2 && (decide ((moonM h).2 ≥ 9924) && !leapM h)) || ((moonM h).1 % 7 == 1 && (decide ((moonM h).2 ≥ 16789) && leapM (h - 1))))
def offM (w n : Int) : Int := cond ((w + n) % 7 == 0 || ((w + n) % 7 == 3 || (w + n) % 7 == 5)) (n + 1) n
def delayM (h : Int) : Int := offM ((moonM h).1 % 7) (cond (putM h) 1 0)
def newY (h : Int) : Int := (moonM h).1 + delayM h
def lenM (h : Int) : Int := newY (h + 1) - newY h
def recM (h : Int) : Bool := inB h 3762 9999
def newYearG (h : Int) : Int × Int := cond (recM h) (newY h, 0) (0, 30)
def lenG (h : Int) : Int × Int := cond (recM h) (lenM h, 0) (0, 30)
def long30 (h m : Int) : Bool := (m == 2 && (lenM h).tmod 10 == 5) || ((m == 3 && (lenM h).tmod 10 != 3) || (m == 1 || (m == 5 || (m == 6 || (m == 8 || (m == 10 || m == 12))))))
def daysH (h m : Int) : Int := cond (recM h && (decide (1 ≤ m) && decide (m ≤ 13))) (cond (m == 6 && !leapM h) 0 (cond (long30 h m) 30 29)) 0

def yearFacts (i : Nat) : Bool := (decide (lenM (3762 + i) = 353) || (decide (lenM (3762 + i) = 354) || (decide (lenM (3762 + i) = 355) || (decide (lenM (3762 + i) = 383) || (decide (lenM (3762 + i) = 384) || decide (lenM (3762 + i) = 385)))))) && (leapM (3762 + i) == decide (lenM (3762 + i) ≥ 383))
def allTo (f : Nat → Bool) : Nat → Bool
  | 0 => true
  | n + 1 => cond (f n) (allTo f n) false
end Go.Proofs.YtgfinnhojeghhaaDoor.Px


namespace Go.Proofs.YtgfinnhojeghhaaDoor.Px
open Go

theorem allTo_at {f : Nat → Bool} : ∀ {n : Nat}, allTo f n = true → ∀ i, i < n → f i = true
  | 0, _, i, h => absurd h (Nat.not_lt_zero i)
  | n + 1, h, i, hi => by
    simp only [allTo] at h
    cases hn : f n with
    | false => rw [hn] at h; cases h
    | true =>
      rw [hn, cond_true] at h
      by_cases e : i = n
      · rw [e, hn]
      · exact allTo_at h i (by omega)

theorem facts_all : allTo yearFacts 6238 = true := by kernel_rfl
def lens : List Int := [353, 354, 355, 383, 384, 385]
theorem year_is {h : Int} (hr : recM h = true) : lenM h ∈ lens ∧ leapM h = decide (383 ≤ lenM h) := by
  simp only [recM, inB, Bool.and_eq_true, decide_eq_true_eq] at hr
  have hf := allTo_at facts_all (h - 3762).toNat (by omega)
  have e : (3762 : Int) + ((h - 3762).toNat : Int) = h := by omega
  simp only [yearFacts, e, Bool.and_eq_true, Bool.or_eq_true, decide_eq_true_eq, beq_iff_eq] at hf
  exact ⟨by simp only [lens, List.mem_cons, List.not_mem_nil, or_false]; exact hf.1, hf.2⟩
theorem len_range {h : Int} (hr : recM h = true) : 353 ≤ lenM h ∧ lenM h ≤ 385 := by
  have := (year_is hr).1
  simp only [lens, List.mem_cons, List.not_mem_nil, or_false] at this
  omega
end Go.Proofs.YtgfinnhojeghhaaDoor.Px


namespace Go.Proofs.YtgfinnhojeghhaaDoor.Px
open Go

theorem newY_next (h : Int) : newY (h + 1) = newY h + lenM h := by unfold lenM; omega
theorem newY_first : newY 3762 = 249 := by kernel_rfl
theorem newY_last : newY 10000 = 2278651 := by kernel_rfl

theorem recM_iff (h : Int) : recM h = true ↔ 3762 ≤ h ∧ h ≤ 9999 := by
  simp only [recM, inB, Bool.and_eq_true, decide_eq_true_eq]
/-- Years begin one behind the other. -/
theorem newY_far {h : Int} (h1 : 3762 ≤ h) : ∀ k : Nat, h + k ≤ 10000 → newY h + 353 * (k : Int) ≤ newY (h + k) ∧ newY (h + k) ≤ newY h + 385 * (k : Int)
  | 0, _ => by simp
  | k + 1, hk => by
    have hp := newY_far h1 k (by omega)
    have hl := len_range (h := h + k) ((recM_iff _).2 (by omega))
    have e : h + ((k + 1 : Nat) : Int) = h + k + 1 := by omega
    rw [e, newY_next]
    omega
theorem newY_mono {a b : Int} (h1 : 3762 ≤ a) (h2 : a ≤ b) (h3 : b ≤ 10000) : newY a + 353 * (b - a) ≤ newY b ∧ newY b ≤ newY a + 385 * (b - a) := by
  have := newY_far h1 (b - a).toNat (by omega)
  have e : a + ((b - a).toNat : Int) = b := by omega
  rw [e] at this
  omega

/-- The first year from one on at whose end a day is over. -/
def yearGo (n : Int) : Nat → Int → Int
  | 0, h => h
  | k + 1, h => cond (decide (n < newY (h + 1))) h (yearGo n k (h + 1))
def yearReach (n : Int) : Nat → Int → Bool
  | 0, _ => false
  | k + 1, h => recM h && (decide (n < newY (h + 1)) || yearReach n k (h + 1))
def hebFirst : Int := 249
def hebEnd : Int := 2278651
def inH (n : Int) : Bool := decide (249 ≤ n) && decide (n < 2278651)
/-- The year at which the search begins. -/
def fromH (n : Int) : Int := 3762 + (n - 249).tdiv 386
def hyear (n : Int) : Int := yearGo n 600 (fromH n)

theorem year_go {n y : Int} (hy : recM y = true) (y1 : newY y ≤ n) (y2 : n < newY (y + 1)) : ∀ (k : Nat) (h : Int), 3762 ≤ h → h ≤ y → y - h < k → yearGo n k h = y ∧ yearReach n k h = true
  | 0, h, _, h2, h3 => by omega
  | k + 1, h, h1, h2, h3 => by
    have hr := (recM_iff y).1 hy
    have hh : recM h = true := (recM_iff h).2 (by omega)
    unfold yearGo yearReach
    rw [hh]
    by_cases e : h = y
    · subst e
      rw [decide_eq_true y2]
      exact ⟨rfl, rfl⟩
    · have hm := newY_mono (a := h + 1) (b := y) (by omega) (by omega) (by omega)
      rw [decide_eq_false (by omega : ¬ n < newY (h + 1))]
      exact year_go hy y1 y2 k (h + 1) (by omega) (by omega) (by omega)

/-- Every day that is reckoned has a year. -/
theorem has_step (f : Int → Int) {n a : Int} (h1 : f a ≤ n) : ∀ k : Nat, n < f (a + (k : Int)) → ∃ i : Nat, i < k ∧ f (a + (i : Int)) ≤ n ∧ n < f (a + (i : Int) + 1)
  | 0, h => by rw [show a + ((0 : Nat) : Int) = a by omega] at h; omega
  | k + 1, h => by
    by_cases hb : f (a + (k : Int)) ≤ n
    · refine ⟨k, by omega, hb, ?_⟩
      rw [show a + (k : Int) + 1 = a + ((k + 1 : Nat) : Int) by omega]
      exact h
    · obtain ⟨i, i1, i2⟩ := has_step f h1 k (by omega)
      exact ⟨i, by omega, i2⟩
theorem has_year {n : Int} (h1 : 249 ≤ n) (h2 : n < 2278651) : ∃ y, recM y = true ∧ newY y ≤ n ∧ n < newY (y + 1) := by
  obtain ⟨i, i1, i2⟩ := has_step newY (a := 3762) (n := n) (by rw [newY_first]; exact h1) 6238 (by rw [show (3762 : Int) + ((6238 : Nat) : Int) = 10000 by omega, newY_last]; exact h2)
  exact ⟨3762 + (i : Int), (recM_iff _).2 (by omega), i2⟩

theorem hyear_spec {n : Int} (hn : inH n = true) : recM (hyear n) = true ∧ newY (hyear n) ≤ n ∧ n < newY (hyear n + 1) ∧ yearReach n 600 (fromH n) = true ∧ fromH n = 3762 + (n - 249) / 386 ∧ 3762 ≤ fromH n ∧ fromH n ≤ hyear n := by
  simp only [inH, Bool.and_eq_true, decide_eq_true_eq] at hn
  obtain ⟨y, y0, y1, y2⟩ := has_year hn.1 hn.2
  have e : fromH n = 3762 + (n - 249) / 386 := by unfold fromH; rw [Int.tdiv_eq_ediv_of_nonneg (by omega)]
  have hr := (recM_iff y).1 y0
  have hm := newY_mono (a := 3762) (b := y + 1) (by omega) (by omega) (by omega)
  have hm2 := newY_mono (a := 3762) (b := y) (by omega) (by omega) (by omega)
  rw [newY_first] at hm hm2
  have hf : 3762 ≤ fromH n ∧ fromH n ≤ y ∧ y - fromH n < 600 := by rw [e]; omega
  obtain ⟨g1, g2⟩ := year_go y0 y1 y2 600 (fromH n) hf.1 hf.2.1 (by omega)
  unfold hyear
  rw [g1]
  exact ⟨y0, y1, y2, g2, e, hf.1, hf.2.1⟩
/-- The year is the only one. -/
theorem hyear_only {n y : Int} (hy : recM y = true) (y1 : newY y ≤ n) (y2 : n < newY (y + 1)) : hyear n = y := by
  have hr := (recM_iff y).1 hy
  have hi : inH n = true := by
    have a := newY_mono (a := 3762) (b := y) (by omega) (by omega) (by omega)
    have b := newY_mono (a := y + 1) (b := 10000) (by omega) (by omega) (by omega)
    rw [newY_first] at a
    rw [newY_last] at b
    simp only [inH, Bool.and_eq_true, decide_eq_true_eq]
    omega
  obtain ⟨h0, h1, h2, _⟩ := hyear_spec hi
  have hq := (recM_iff _).1 h0
  rcases Int.lt_trichotomy (hyear n) y with h | h | h
  · have := newY_mono (a := hyear n + 1) (b := y) (by omega) (by omega) (by omega); omega
  · exact h
  · have := newY_mono (a := y + 1) (b := hyear n) (by omega) (by omega) (by omega); omega
end Go.Proofs.YtgfinnhojeghhaaDoor.Px


namespace Go.Proofs.YtgfinnhojeghhaaDoor.Px
open Go

/-! A day's Hebrew date. -/
def datH (n h : Int) : Nat → Int → Int → Int → Int → Bool × Int × Int × Int
  | 0, _, f, mo, da => (false, mo, da, f)
  | k + 1, m, f, mo, da => cond (decide (n < f)) (true, mo, da, f) (cond (decide (daysH h m > 0)) (datH n h k (m + 1) (f + daysH h m) m (n - f + 1)) (datH n h k (m + 1) (f + daysH h m) mo da))
def monOk (n h h' m f : Int) : Bool := h == h' && (inH n && (decide (1 ≤ m) && (decide (m ≤ 14) && (decide (0 ≤ f) && decide (f ≤ 3000000 + 30 * m)))))
def hdate0 : HDate := ⟨0, 0, 0⟩
def hdateOf (n : Int) : HDate := ⟨hyear n, (datH n (hyear n) 13 1 (newY (hyear n)) 0 0).2.1, (datH n (hyear n) 13 1 (newY (hyear n)) 0 0).2.2.1⟩
def hofG (n : Int) : HDate × Int := cond (inH n) (hdateOf n, 0) (hdate0, 41)
/-! Feasts and days of rest. -/
def feastOf (n : Int) (ab : Bool) : Int := kindF (hdateOf n).month (hdateOf n).day ab
def kindDay (n : Int) (ab : Bool) : Int := cond (inH n) (feastOf n ab) 0
def restG (n : Int) (ab : Bool) : Bool := inH n && (n % 7 == 6 || feastOf n ab != 0)
def runEnd (b : Int) (ab : Bool) : Nat → Int → Int
  | 0, n => n
  | k + 1, n => cond (restG (n + b) ab) (runEnd b ab k (n + b)) n
def runReach (b : Int) (ab : Bool) : Nat → Int → Bool
  | 0, _ => false
  | k + 1, n => !restG (n + b) ab || runReach b ab k (n + b)
def runOk (b : Int) (ab : Bool) (n : Int) : Bool := (b == 1 || b == -1) && (inH n && runReach b ab 10 n)
def runG (n : Int) (ab : Bool) : Int × Int × Int := cond (restG n ab) (runEnd (-1) ab 10 n, runEnd 1 ab 10 n, 0) (0, 0, 51)
/-! Sunsets. -/
def sunDay (d : Date) (s : Sun) : Int := selI (sunL s) (d.month - 1).toNat + (selI (sunL s) (d.month % 12).toNat - selI (sunL s) (d.month - 1).toNat) * (d.day - 1) / daysG d.year d.month
def sunAt (s : Sun) (n : Int) : Int × Int := cond (sunset_Check s != 0) (0, sunset_Check s) (cond (dayOk n) (sunDay (ofG n).1 s, 0) (0, 72))
def sunMom (z : Zone) (s : Sun) (n : Int) : Int × Int := cond (zone_Check z != 0) (0, zone_Check z) (cond (sunset_Check s != 0) (0, sunset_Check s) (cond (inB n 401 3651998) (n * 1440 + sunDay (ofG n).1 s - z.base, 0) (0, 72)))
/-! Windows. -/
def openOk (_ : Unit) (c : Config) (w : Window) (d : Int) : Bool := config_Check c == 0 && (config_Window w == 0 && recG d)
def datedOpen (_ : Unit) (c : Config) (w : Window) (d : Int) : Int × Int × Bool := timedG c w d (w.arg == d)
def yearOpen (_ : Unit) (c : Config) (w : Window) (d : Int) : Int × Int × Bool := timedG c w d (kindDay (d - w.shift) c.abroad == w.arg)
def restOpen (_ : Unit) (c : Config) (w : Window) (d : Int) : Int × Int × Bool := cond (restG (d + 1) c.abroad && !restG d c.abroad)
  ((sunMom c.zone c.sun d).1 - w.minute, (sunMom c.zone c.sun (runEnd 1 c.abroad 10 (d + 1))).1 + w.len, true) (0, 0, false)
def kind2 (w : Window) : Bool := w.kind == 2
def kind3 (w : Window) : Bool := w.kind == 3
def kind4 (w : Window) : Bool := !(w.kind == 1 || (w.kind == 2 || w.kind == 3))
def opens (c : Config) (w : Window) (d : Int) : Int × Int × Bool := cond (w.kind == 1) (weekOpen () c w d) (cond (w.kind == 2) (datedOpen () c w d) (cond (w.kind == 3) (yearOpen () c w d) (restOpen () c w d)))
def span0 : Span := ⟨0, 0, 0, 0⟩
def spanErr (c : Config) (w : Window) (d : Int) : Int := orE (config_Check c) (orE (config_Window w) (errIf (recG d) 140))
def spanG (c : Config) (w : Window) (d : Int) : Span × Bool × Int := cond (spanErr c w d != 0) (span0, false, spanErr c w d)
  (cond (opens c w d).2.2 (⟨(opens c w d).1, (opens c w d).2.1, w.mode, w.prio⟩, true, 0) (span0, false, 0))
def spanOk (c : Config) (_ : Window) (_ : Int) : Bool := smallC c
/-- Noon of each day of a few lies within a span. -/
def noonB (b f t x y : Int) : Bool := lit b && (decide (0 ≤ x) && (decide (x ≤ 10000000) && (decide (x ≤ y) && (decide (y - x ≤ 2) && (decide (f ≤ x * 1440 + 720 - b) && decide (y * 1440 + 720 - b < t))))))
/-- What is said of a function. -/
def eAt {X : Elts} (c : Cfg (X := X)) (n : Nat) : PCon (X := X) := match look c.E n with
  | some e => e
  | none => fun _ _ => none
theorem eAt_ok {X : Elts} {P : Program} {G : World → Prop} {c : Cfg (X := X)} {n : Nat} (hp : Prog P G c) (h : ∃ e, look c.E n = some e) : PConOk P G n (eAt c n) := by
  obtain ⟨e, he⟩ := h
  unfold eAt
  rw [he]
  exact hp.calls n e he
/-- Which kind of window: a choice between contracts. -/
def ofSel {X : Elts} (c1 c2 c3 c4 : PCon (X := X)) : PCon (X := X) := fun args s => match args with
  | [.agg (.int k p :: l)] => match p with
    | .ofNat 1 => c1 [.agg (.int k p :: l)] s
    | .ofNat 2 => c2 [.agg (.int k p :: l)] s
    | .ofNat 3 => c3 [.agg (.int k p :: l)] s
    | _ => c4 [.agg (.int k p :: l)] s
  | _ => none
theorem of_sel {X : Elts} {P : Program} {G : World → Prop} {n : Nat} {c1 c2 c3 c4 : PCon (X := X)} (h1 : PConOk P G n c1) (h2 : PConOk P G n c2) (h3 : PConOk P G n c3) (h4 : PConOk P G n c4) : PConOk P G n (ofSel c1 c2 c3 c4) := by
  refine ⟨h1.1, fun args hp ok v hc => ?_⟩
  unfold ofSel at hc
  split at hc
  · split at hc
    · exact h1.2 _ _ _ _ hc
    · exact h2.2 _ _ _ _ hc
    · exact h3.2 _ _ _ _ hc
    · exact h4.2 _ _ _ _ hc
  · cases hc
end Go.Proofs.YtgfinnhojeghhaaDoor.Px
