/- The feasts of a year. -/
import Derived.Test.YtfhepbbkggdlcaaGreatDoorPxSpecGreg
import Derived.KernelRfl
import Derived.Test.YtfhepbbkggdlcaaGreatDoorPxLaw
set_option linter.unusedVariables false
set_option linter.unusedSimpArgs false
namespace Go.Proofs.YtfhepbbkggdlcaaGreatDoor.Px
open Go
def hols : List (Int × Int × Int × Bool) := [(1, 1, 1, false), (1, 2, 1, false), (1, 10, 2, false), (1, 15, 3, false), (1, 16, 3, true), (1, 22, 4, false), (1, 23, 4, true), (8, 15, 5, false), (8, 16, 5, true), (8, 21, 6, false), (8, 22, 6, true), (10, 6, 7, false), (10, 7, 7, true)]
def holAt (j : Nat) : Int × Int × Int × Bool := hols.getD j (0, 0, 0, false)
def hit (m d : Int) (j : Nat) : Bool := m == (holAt j).1 && d == (holAt j).2.1
def holF (m d : Int) : Int × Bool := match (List.range 13).find? (hit m d) with
 | some j => (holAt j).2.2
 | none => (0, false)
def kindF (m d : Int) (ab : Bool) : Int := cond (ab || !(holF m d).2) (holF m d).1 0
def kindCon {X : Elts} : PCon (X := X) := fun args _ => match args with
 | [.agg [.int k1 _, .int k2 m, .int k3 d], .bool ab] => cond (kEq k1 .i64 && (kEq k2 .i64 && kEq k3 .i64)) (some (true, .int .i64 (kindF m d ab))) none
 | _ => none
end Go.Proofs.YtfhepbbkggdlcaaGreatDoor.Px


namespace Go.Proofs.YtfhepbbkggdlcaaGreatDoor.Px
open Go
def yearM (h : Int) : Bool := decide (1 ≤ h) && decide (h ≤ 100000)
def yearM2 (h : Int) : Bool := decide (1 ≤ h) && decide (h ≤ 99999)
def monthsM (h : Int) : Int := (235 * h - 234) / 19
def partsM (h : Int) : Int := 5604 + 765433 * monthsM h
def moonM (h : Int) : Int × Int := (-1373427 + partsM h / 25920, partsM h % 25920)
def leapM (h : Int) : Bool := decide ((7 * (h % 19) + 1) % 19 < 7)
def putM (h : Int) : Bool := decide ((moonM h).2 ≥ 19440) || (((moonM h).1 % 7 == 2 && (decide ((moonM h).2 ≥ 9924) && !leapM h)) || ((moonM h).1 % 7 == 1 && (decide ((moonM h).2 ≥ 16789) && leapM (h - 1))))
def offM (w n : Int) : Int := cond ((w + n) % 7 == 0 || ((w + n) % 7 == 3 || (w + n) % 7 == 5)) (n + 1) n
def delayM (h : Int) : Int := offM ((moonM h).1 % 7) (cond (putM h) 1 0)
def newY (h : Int) : Int := (moonM h).1 + delayM h
def lenM (h : Int) : Int := newY (h + 1) - newY h
def recM (h : Int) : Bool := inB h 3762 9999
def newYearG (h : Int) : Int × Int := cond (recM h) (newY h, 0) (0, 30)
def lenG (h : Int) : Int × Int := cond (recM h) (lenM h, 0) (0, 30)
def long30 (h m : Int) : Bool := (m == 2 && (lenM h).tmod 10 == 5) || ((m == 3 && (lenM h).tmod 10 != 3) || (m == 1 || (m == 5 || (m == 6 || (m == 8 || (m == 10 || m == 12))))))
def daysH (h m : Int) : Int := cond (recM h && (decide (1 ≤ m) && decide (m ≤ 13))) (cond (m == 6 && !leapM h) 0 (cond (long30 h m) 30 29)) 0
def yearFacts (i : Nat) : Bool := (decide (lenM (3762 + i) = 353) || (decide (lenM (3762 + i) = 354) || (decide (lenM (3762 + i) = 355) || (decide (lenM (3762 + i) = 383) || (decide (lenM (3762 + i) = 384) || decide (lenM (3762 + i) = 385)))))) && (leapM (3762 + i) == decide (lenM (3762 + i) ≥ 383))
def allTo (f : Nat → Bool) : Nat → Bool
 | 0 => true
 | n + 1 => cond (f n) (allTo f n) false
end Go.Proofs.YtfhepbbkggdlcaaGreatDoor.Px


namespace Go.Proofs.YtfhepbbkggdlcaaGreatDoor.Px
open Go
theorem allTo_at {f : Nat → Bool} : ∀ {n : Nat}, allTo f n = true → ∀ i, i < n → f i = true
 | 0, _, i, h => absurd h (Nat.not_lt_zero i)
 | n + 1, h, i, hi => by
  simp only [allTo] at h
  cases hn : f n with
  | false => rw [hn] at h; cases h
  | true =>
   rw [hn, cond_true] at h
   by_cases e : i = n
   ·rw [e, hn]
   ·exact allTo_at h i (by omega)
theorem facts_all : allTo yearFacts 6238 = true := by kernel_rfl
def lens : List Int := [353, 354, 355, 383, 384, 385]
theorem year_is {h : Int} (hr : recM h = true) : lenM h ∈ lens ∧ leapM h = decide (383 ≤ lenM h) := by
 simp only [recM, inB, Bool.and_eq_true, decide_eq_true_eq] at hr
 have hf := allTo_at facts_all (h - 3762).toNat (by omega)
 have e : (3762 : Int) + ((h - 3762).toNat : Int) = h := by omega
 simp only [yearFacts, e, Bool.and_eq_true, Bool.or_eq_true, decide_eq_true_eq, beq_iff_eq] at hf
 exact ⟨by simp only [lens, List.mem_cons, List.not_mem_nil, or_false]; exact hf.1, hf.2⟩
theorem len_range {h : Int} (hr : recM h = true) : 353 ≤ lenM h ∧ lenM h ≤ 385 := by
 have := (year_is hr).1
 simp only [lens, List.mem_cons, List.not_mem_nil, or_false] at this
 omega
end Go.Proofs.YtfhepbbkggdlcaaGreatDoor.Px


namespace Go.Proofs.YtfhepbbkggdlcaaGreatDoor.Px
open Go
theorem newY_next (h : Int) : newY (h + 1) = newY h + lenM h := by unfold lenM; omega
theorem newY_first : newY 3762 = 249 := by kernel_rfl
theorem newY_last : newY 10000 = 2278651 := by kernel_rfl
theorem recM_iff (h : Int) : recM h = true ↔ 3762 ≤ h ∧ h ≤ 9999 := by
 simp only [recM, inB, Bool.and_eq_true, decide_eq_true_eq]
theorem newY_far {h : Int} (h1 : 3762 ≤ h) : ∀ k : Nat, h + k ≤ 10000 → newY h + 353 * (k : Int) ≤ newY (h + k) ∧ newY (h + k) ≤ newY h + 385 * (k : Int)
 | 0, _ => by simp
 | k + 1, hk => by
  have hp := newY_far h1 k (by omega)
  have hl := len_range (h := h + k) ((recM_iff _).2 (by omega))
  have e : h + ((k + 1 : Nat) : Int) = h + k + 1 := by omega
  rw [e, newY_next]
  omega
theorem newY_mono {a b : Int} (h1 : 3762 ≤ a) (h2 : a ≤ b) (h3 : b ≤ 10000) : newY a + 353 * (b - a) ≤ newY b ∧ newY b ≤ newY a + 385 * (b - a) := by
 have := newY_far h1 (b - a).toNat (by omega)
 have e : a + ((b - a).toNat : Int) = b := by omega
 rw [e] at this
 omega
def yearGo (n : Int) : Nat → Int → Int
 | 0, h => h
 | k + 1, h => cond (decide (n < newY (h + 1))) h (yearGo n k (h + 1))
def yearReach (n : Int) : Nat → Int → Bool
 | 0, _ => false
 | k + 1, h => recM h && (decide (n < newY (h + 1)) || yearReach n k (h + 1))
def inH (n : Int) : Bool := decide (249 ≤ n) && decide (n < 2278651)
def fromH (n : Int) : Int := 3762 + (n - 249).tdiv 386
def hyear (n : Int) : Int := yearGo n 600 (fromH n)
theorem year_go {n y : Int} (hy : recM y = true) (y1 : newY y ≤ n) (y2 : n < newY (y + 1)) : ∀ (k : Nat) (h : Int), 3762 ≤ h → h ≤ y → y - h < k → yearGo n k h = y ∧ yearReach n k h = true
 | 0, h, _, h2, h3 => by omega
 | k + 1, h, h1, h2, h3 => by
  have hr := (recM_iff y).1 hy
  have hh : recM h = true := (recM_iff h).2 (by omega)
  unfold yearGo yearReach
  rw [hh]
  by_cases e : h = y
  ·subst e
   rw [decide_eq_true y2]
   exact ⟨rfl, rfl⟩
  ·have hm := newY_mono (a := h + 1) (b := y) (by omega) (by omega) (by omega)
   rw [decide_eq_false (by omega : ¬ n < newY (h + 1))]
   exact year_go hy y1 y2 k (h + 1) (by omega) (by omega) (by omega)
theorem has_step (f : Int → Int) {n a : Int} (h1 : f a ≤ n) : ∀ k : Nat, n < f (a + (k : Int)) → ∃ i : Nat, i < k ∧ f (a + (i : Int)) ≤ n ∧ n < f (a + (i : Int) + 1)
 | 0, h => by rw [show a + ((0 : Nat) : Int) = a by omega] at h; omega
 | k + 1, h => by
  by_cases hb : f (a + (k : Int)) ≤ n
  ·refine ⟨k, by omega, hb, ?_⟩
   rw [show a + (k : Int) + 1 = a + ((k + 1 : Nat) : Int) by omega]
   exact h
  ·obtain ⟨i, i1, i2⟩ := has_step f h1 k (by omega)
   exact ⟨i, by omega, i2⟩
theorem has_year {n : Int} (h1 : 249 ≤ n) (h2 : n < 2278651) : ∃ y, recM y = true ∧ newY y ≤ n ∧ n < newY (y + 1) := by
 obtain ⟨i, i1, i2⟩ := has_step newY (a := 3762) (n := n) (by rw [newY_first]; exact h1) 6238 (by rw [show (3762 : Int) + ((6238 : Nat) : Int) = 10000 by omega, newY_last]; exact h2)
 exact ⟨3762 + (i : Int), (recM_iff _).2 (by omega), i2⟩
theorem hyear_spec {n : Int} (hn : inH n = true) : recM (hyear n) = true ∧ newY (hyear n) ≤ n ∧ n < newY (hyear n + 1) ∧ yearReach n 600 (fromH n) = true ∧ fromH n = 3762 + (n - 249) / 386 ∧ 3762 ≤ fromH n ∧ fromH n ≤ hyear n := by
 simp only [inH, Bool.and_eq_true, decide_eq_true_eq] at hn
 obtain ⟨y, y0, y1, y2⟩ := has_year hn.1 hn.2
 have e : fromH n = 3762 + (n - 249) / 386 := by unfold fromH; rw [Int.tdiv_eq_ediv_of_nonneg (by omega)]
 have hr := (recM_iff y).1 y0
 have hm := newY_mono (a := 3762) (b := y + 1) (by omega) (by omega) (by omega)
 have hm2 := newY_mono (a := 3762) (b := y) (by omega) (by omega) (by omega)
 rw [newY_first] at hm hm2
 have hf : 3762 ≤ fromH n ∧ fromH n ≤ y ∧ y - fromH n < 600 := by rw [e]; omega
 obtain ⟨g1, g2⟩ := year_go y0 y1 y2 600 (fromH n) hf.1 hf.2.1 (by omega)
 unfold hyear
 rw [g1]
 exact ⟨y0, y1, y2, g2, e, hf.1, hf.2.1⟩
theorem hyear_only {n y : Int} (hy : recM y = true) (y1 : newY y ≤ n) (y2 : n < newY (y + 1)) : hyear n = y := by
 have hr := (recM_iff y).1 hy
 have hi : inH n = true := by
  have a := newY_mono (a := 3762) (b := y) (by omega) (by omega) (by omega)
  have b := newY_mono (a := y + 1) (b := 10000) (by omega) (by omega) (by omega)
  rw [newY_first] at a
  rw [newY_last] at b
  simp only [inH, Bool.and_eq_true, decide_eq_true_eq]
  omega
 obtain ⟨h0, h1, h2, _⟩ := hyear_spec hi
 have hq := (recM_iff _).1 h0
 rcases Int.lt_trichotomy (hyear n) y with h | h | h
 ·have := newY_mono (a := hyear n + 1) (b := y) (by omega) (by omega) (by omega); omega
 ·exact h
 ·have := newY_mono (a := y + 1) (b := hyear n) (by omega) (by omega) (by omega); omega
end Go.Proofs.YtfhepbbkggdlcaaGreatDoor.Px


namespace Go.Proofs.YtfhepbbkggdlcaaGreatDoor.Px
open Go
def datH (n h : Int) : Nat → Int → Int → Int → Int → Bool × Int × Int × Int
 | 0, _, f, mo, da => (false, mo, da, f)
 | k + 1, m, f, mo, da => cond (decide (n < f)) (true, mo, da, f) (cond (decide (daysH h m > 0)) (datH n h k (m + 1) (f + daysH h m) m (n - f + 1)) (datH n h k (m + 1) (f + daysH h m) mo da))
def monOk (n h h' m f : Int) : Bool := h == h' && (inH n && (decide (1 ≤ m) && (decide (m ≤ 14) && (decide (0 ≤ f) && decide (f ≤ 3000000 + 30 * m)))))
def hdate0 : HDate := ⟨0, 0, 0⟩
def hdateOf (n : Int) : HDate := ⟨hyear n, (datH n (hyear n) 13 1 (newY (hyear n)) 0 0).2.1, (datH n (hyear n) 13 1 (newY (hyear n)) 0 0).2.2.1⟩
def hofG (n : Int) : HDate × Int := cond (inH n) (hdateOf n, 0) (hdate0, 41)
def feastOf (n : Int) (ab : Bool) : Int := kindF (hdateOf n).month (hdateOf n).day ab
def kindDay (n : Int) (ab : Bool) : Int := cond (inH n) (feastOf n ab) 0
def restG (n : Int) (ab : Bool) : Bool := inH n && (n % 7 == 6 || feastOf n ab != 0)
def runEnd (b : Int) (ab : Bool) : Nat → Int → Int
 | 0, n => n
 | k + 1, n => cond (restG (n + b) ab) (runEnd b ab k (n + b)) n
def runReach (b : Int) (ab : Bool) : Nat → Int → Bool
 | 0, _ => false
 | k + 1, n => !restG (n + b) ab || runReach b ab k (n + b)
def runOk (b : Int) (ab : Bool) (n : Int) : Bool := (b == 1 || b == -1) && (inH n && runReach b ab 10 n)
def runG (n : Int) (ab : Bool) : Int × Int × Int := cond (restG n ab) (runEnd (-1) ab 10 n, runEnd 1 ab 10 n, 0) (0, 0, 51)
def sunDay (d : Date) (s : Sun) : Int := selI (sunL s) (d.month - 1).toNat + (selI (sunL s) (d.month % 12).toNat - selI (sunL s) (d.month - 1).toNat) * (d.day - 1) / daysG d.year d.month
def sunAt (s : Sun) (n : Int) : Int × Int := cond (sunset_Check s != 0) (0, sunset_Check s) (cond (dayOk n) (sunDay (ofG n).1 s, 0) (0, 72))
def sunMom (z : Zone) (s : Sun) (n : Int) : Int × Int := cond (zone_Check z != 0) (0, zone_Check z) (cond (sunset_Check s != 0) (0, sunset_Check s) (cond (inB n 401 3651998) (n * 1440 + sunDay (ofG n).1 s - z.base, 0) (0, 72)))
def openOk (_ : Unit) (c : Config) (w : Window) (d : Int) : Bool := config_Check c == 0 && (config_Window w == 0 && recG d)
def datedOpen (_ : Unit) (c : Config) (w : Window) (d : Int) : Int × Int × Bool := timedG c w d (w.arg == d)
def yearOpen (_ : Unit) (c : Config) (w : Window) (d : Int) : Int × Int × Bool := timedG c w d (kindDay (d - w.shift) c.abroad == w.arg)
def restOpen (_ : Unit) (c : Config) (w : Window) (d : Int) : Int × Int × Bool := cond (restG (d + 1) c.abroad && !restG d c.abroad)
 ((sunMom c.zone c.sun d).1 - w.minute, (sunMom c.zone c.sun (runEnd 1 c.abroad 10 (d + 1))).1 + w.len, true) (0, 0, false)
def kind2 (w : Window) : Bool := w.kind == 2
def kind3 (w : Window) : Bool := w.kind == 3
def kind4 (w : Window) : Bool := !(w.kind == 1 || (w.kind == 2 || w.kind == 3))
def opens (c : Config) (w : Window) (d : Int) : Int × Int × Bool := cond (w.kind == 1) (weekOpen () c w d) (cond (w.kind == 2) (datedOpen () c w d) (cond (w.kind == 3) (yearOpen () c w d) (restOpen () c w d)))
def noSpan : Span := ⟨0, 0, 0, 0⟩
def spanErr (c : Config) (w : Window) (d : Int) : Int := orE (config_Check c) (orE (config_Window w) (errIf (recG d) 140))
def spanG (c : Config) (w : Window) (d : Int) : Span × Bool × Int := cond (spanErr c w d != 0) (noSpan, false, spanErr c w d)
 (cond (opens c w d).2.2 (⟨(opens c w d).1, (opens c w d).2.1, w.mode, w.prio⟩, true, 0) (noSpan, false, 0))
def spanOk (c : Config) (_ : Window) (_ : Int) : Bool := smallC c
def eAt {X : Elts} (c : Cfg (X := X)) (n : Nat) : PCon (X := X) := match look c.E n with
 | some e => e
 | none => fun _ _ => none
theorem eAt_ok {X : Elts} {P : Program} {G : World → Prop} {c : Cfg (X := X)} {n : Nat} (hp : Prog P G c) (h : ∃ e, look c.E n = some e) : PConOk P G n (eAt c n) := by
 obtain ⟨e, he⟩ := h
 unfold eAt
 rw [he]
 exact hp.calls n e he
def ofSel {X : Elts} (c1 c2 c3 c4 : PCon (X := X)) : PCon (X := X) := fun args s => match args with
 | [.agg (.int k p :: l)] => match p with
  | .ofNat 1 => c1 [.agg (.int k p :: l)] s
  | .ofNat 2 => c2 [.agg (.int k p :: l)] s
  | .ofNat 3 => c3 [.agg (.int k p :: l)] s
  | _ => c4 [.agg (.int k p :: l)] s
 | _ => none
theorem of_sel {X : Elts} {P : Program} {G : World → Prop} {n : Nat} {c1 c2 c3 c4 : PCon (X := X)} (h1 : PConOk P G n c1) (h2 : PConOk P G n c2) (h3 : PConOk P G n c3) (h4 : PConOk P G n c4) : PConOk P G n (ofSel c1 c2 c3 c4) := by
 refine ⟨h1.1, fun args hp ok v hc => ?_⟩
 unfold ofSel at hc
 split at hc
 ·split at hc
  ·exact h1.2 _ _ _ _ hc
  ·exact h2.2 _ _ _ _ hc
  ·exact h3.2 _ _ _ _ hc
  ·exact h4.2 _ _ _ _ hc
 ·cases hc
end Go.Proofs.YtfhepbbkggdlcaaGreatDoor.Px


namespace Go.Proofs.YtfhepbbkggdlcaaGreatDoor.Px
open Go
def longL (L m : Int) : Bool := (m == 2 && L.tmod 10 == 5) || ((m == 3 && L.tmod 10 != 3) || (m == 1 || (m == 5 || (m == 6 || (m == 8 || (m == 10 || m == 12))))))
def daysL (L m : Int) : Int := cond (decide (1 ≤ m) && decide (m ≤ 13)) (cond (m == 6 && !decide (383 ≤ L)) 0 (cond (longL L m) 30 29)) 0
def datL (L : Int) : Nat → Int → Int → Int → Int → Int × Int
 | 0, _, _, mo, da => (mo, da)
 | k + 1, m, o, mo, da => cond (decide (o < 0)) (mo, da) (cond (decide (daysL L m > 0)) (datL L k (m + 1) (o - daysL L m) m (o + 1)) (datL L k (m + 1) (o - daysL L m) mo da))
theorem days_len {h : Int} (hr : recM h = true) (m : Int) : daysH h m = daysL (lenM h) m := by
 unfold daysH daysL long30 longL
 rw [hr, (year_is hr).2, Bool.true_and]
theorem dat_len {h : Int} (hr : recM h = true) (n : Int) : ∀ (k : Nat) (m f mo da : Int), (datH n h k m f mo da).2.1 = (datL (lenM h) k m (n - f) mo da).1 ∧ (datH n h k m f mo da).2.2.1 = (datL (lenM h) k m (n - f) mo da).2 := by
 intro k
 induction k with
 | zero => intro m f mo da; exact ⟨rfl, rfl⟩
 | succ k ih =>
  intro m f mo da
  unfold datH datL
  rw [← days_len hr, show decide (n - f < 0) = decide (n < f) by rw [Bool.eq_iff_iff]; simp; omega]
  have e : n - f - daysH h m = n - (f + daysH h m) := by omega
  rw [e]
  cases decide (n < f)
  ·cases decide (daysH h m > 0)
   ·exact ih _ _ _ _
   ·exact ih _ _ _ _
  ·exact ⟨rfl, rfl⟩
def feL (L : Int) (o : Nat) : Bool := kindF (datL L 13 1 (o : Int) 0 0).1 (datL L 13 1 (o : Int) 0 0).2 true != 0
def feN (L : Int) (o : Nat) : Bool := cond (decide ((o : Int) < L)) (feL L o) (decide ((o : Int) < L + 2))
def win4 (L : Int) (o : Nat) : Bool := !((feN L o && (feN L (o + 1) && feN L (o + 2))) || ((feN L o && (feN L (o + 1) && feN L (o + 3))) || ((feN L o && (feN L (o + 2) && feN L (o + 3))) || (feN L (o + 1) && (feN L (o + 2) && feN L (o + 3))))))
theorem win_353 : allTo (win4 353) 353 = true := by kernel_rfl
theorem win_354 : allTo (win4 354) 354 = true := by kernel_rfl
theorem win_355 : allTo (win4 355) 355 = true := by kernel_rfl
theorem win_383 : allTo (win4 383) 383 = true := by kernel_rfl
theorem win_384 : allTo (win4 384) 384 = true := by kernel_rfl
theorem win_385 : allTo (win4 385) 385 = true := by kernel_rfl
theorem two_353 : feL 353 2 = false ∧ feL 354 2 = false ∧ feL 355 2 = false ∧ feL 383 2 = false ∧ feL 384 2 = false ∧ feL 385 2 = false := ⟨by kernel_rfl, by kernel_rfl, by kernel_rfl, by kernel_rfl, by kernel_rfl, by kernel_rfl⟩
theorem win_all {L : Int} (h : L ∈ lens) {o : Nat} (ho : (o : Int) < L) : win4 L o = true := by
 simp only [lens, List.mem_cons, List.not_mem_nil, or_false] at h
 rcases h with rfl | rfl | rfl | rfl | rfl | rfl
 ·exact allTo_at win_353 o (by omega)
 ·exact allTo_at win_354 o (by omega)
 ·exact allTo_at win_355 o (by omega)
 ·exact allTo_at win_383 o (by omega)
 ·exact allTo_at win_384 o (by omega)
 ·exact allTo_at win_385 o (by omega)
theorem two_all {L : Int} (h : L ∈ lens) : feL L 2 = false := by
 simp only [lens, List.mem_cons, List.not_mem_nil, or_false] at h
 obtain ⟨a, b, c, d, e, f⟩ := two_353
 rcases h with rfl | rfl | rfl | rfl | rfl | rfl <;> assumption
theorem kind_abroad (m d : Int) (ab : Bool) (h : kindF m d ab ≠ 0) : kindF m d true ≠ 0 := by
 unfold kindF at h ⊢
 cases ab with
 | true => exact h
 | false =>
  cases hb : (holF m d).2 with
  | true => rw [hb] at h; exact absurd rfl h
  | false => rw [hb] at h; exact h
theorem feast_fe {n : Int} {ab : Bool} (hi : inH n = true) (h : feastOf n ab ≠ 0) : feL (lenM (hyear n)) (n - newY (hyear n)).toNat = true := by
 obtain ⟨y0, y1, y2, _⟩ := hyear_spec hi
 have hd := dat_len y0 n 13 1 (newY (hyear n)) 0 0
 have h' := kind_abroad _ _ _ h
 unfold hdateOf at h'
 dsimp only at h'
 rw [hd.1, hd.2] at h'
 unfold feL
 rw [show (((n - newY (hyear n)).toNat : Nat) : Int) = n - newY (hyear n) by omega]
 exact bne_iff_ne.2 h'
theorem feast_near {n : Int} {ab : Bool} {y : Int} (hy : recM y = true) (h1 : newY y ≤ n) (h2 : n ≤ newY (y + 1) + 2) (hi : inH n = true) (h : feastOf n ab ≠ 0) : feN (lenM y) (n - newY y).toNat = true := by
 have hf := feast_fe hi h
 have hr := (recM_iff y).1 hy
 have hn := newY_next y
 unfold feN
 have e : (((n - newY y).toNat : Nat) : Int) = n - newY y := by omega
 rw [e]
 by_cases hc : n < newY (y + 1)
 ·rw [hyear_only hy h1 hc] at hf
  rw [decide_eq_true (by omega), hf]
  rfl
 ·rw [decide_eq_false (by omega), cond_false]
  have hb : n < 2278651 := by
   simp only [inH, Bool.and_eq_true, decide_eq_true_eq] at hi
   exact hi.2
  have hl : y + 1 ≤ 9999 := by
   by_cases hq : y + 1 ≤ 9999
   ·exact hq
   ·have : y + 1 = 10000 := by omega
    rw [this, newY_last] at hc
    omega
  have hy1 : recM (y + 1) = true := (recM_iff _).2 (by omega)
  have hlen := len_range hy1
  have hn2 := newY_next (y + 1)
  have he : hyear n = y + 1 := hyear_only hy1 (by omega) (by omega)
  rw [he] at hf
  rcases (show n = newY (y + 1) + 2 ∨ n - newY y < lenM y + 2 by omega) with h3 | h3
  ·rw [h3, show (newY (y + 1) + 2 - newY (y + 1)).toNat = 2 by omega, two_all (year_is hy1).1] at hf
   cases hf
  ·exact decide_eq_true h3
theorem rest_iff (n : Int) (ab : Bool) : restG n ab = true ↔ inH n = true ∧ (n % 7 = 6 ∨ feastOf n ab ≠ 0) := by
 simp only [restG, Bool.and_eq_true, Bool.or_eq_true, beq_iff_eq, bne_iff_ne]
theorem rest4 {n : Int} {ab : Bool} (h0 : restG n ab = true) (h1 : restG (n + 1) ab = true) (h2 : restG (n + 2) ab = true) (h3 : restG (n + 3) ab = true) : False := by
 rw [rest_iff] at h0 h1 h2 h3
 obtain ⟨y0, y1, y2, _⟩ := hyear_spec h0.1
 generalize hyear n = y at *
 have hn := newY_next y
 have hw := win_all (year_is y0).1 (o := (n - newY y).toNat) (by omega)
 have f : ∀ j : Nat, j ≤ 3 → inH (n + (j : Int)) = true → feastOf (n + (j : Int)) ab ≠ 0 → feN (lenM y) ((n - newY y).toNat + j) = true := by
  intro j hj hi hf
  have := feast_near y0 (by omega) (by omega) hi hf
  rw [show (n + (j : Int) - newY y).toNat = (n - newY y).toNat + j by omega] at this
  exact this
 have f0 := f 0 (by omega)
 have f1 := f 1 (by omega)
 have f2 := f 2 (by omega)
 have f3 := f 3 (by omega)
 simp only [Int.natCast_zero, Int.add_zero, Nat.add_zero] at f0
 have e0 := f0 h0.1
 have e1 := f1 h1.1
 have e2 := f2 h2.1
 have e3 := f3 h3.1
 unfold win4 at hw
 have g0 : n % 7 = 6 ∨ feN (lenM y) (n - newY y).toNat = true := h0.2.imp id e0
 have g1 : (n + 1) % 7 = 6 ∨ feN (lenM y) ((n - newY y).toNat + 1) = true := h1.2.imp id e1
 have g2 : (n + 2) % 7 = 6 ∨ feN (lenM y) ((n - newY y).toNat + 2) = true := h2.2.imp id e2
 have g3 : (n + 3) % 7 = 6 ∨ feN (lenM y) ((n - newY y).toNat + 3) = true := h3.2.imp id e3
 clear f f0 f1 f2 f3 e0 e1 e2 e3 h0 h1 h2 h3 hn
 generalize feN (lenM y) (n - newY y).toNat = b0 at *
 generalize feN (lenM y) ((n - newY y).toNat + 1) = b1 at *
 generalize feN (lenM y) ((n - newY y).toNat + 2) = b2 at *
 generalize feN (lenM y) ((n - newY y).toNat + 3) = b3 at *
 cases b0 <;> cases b1 <;> cases b2 <;> cases b3 <;> simp at hw g0 g1 g2 g3 <;> omega
theorem run_reach {n : Int} {ab : Bool} (h : restG n ab = true) : runReach 1 ab 10 n = true ∧ runReach (-1) ab 10 n = true := by
 constructor
 ·cases h1 : restG (n + 1) ab
  ·simp [runReach, h1]
  ·cases h2 : restG (n + 1 + 1) ab
   ·simp [runReach, h1, h2]
   ·cases h3 : restG (n + 1 + 1 + 1) ab
    ·simp [runReach, h1, h2, h3]
    ·exact (rest4 h h1 (by rw [show n + 2 = n + 1 + 1 by omega]; exact h2) (by rw [show n + 3 = n + 1 + 1 + 1 by omega]; exact h3)).elim
 ·cases h1 : restG (n + -1) ab
  ·simp [runReach, h1]
  ·cases h2 : restG (n + -1 + -1) ab
   ·simp [runReach, h1, h2]
   ·cases h3 : restG (n + -1 + -1 + -1) ab
    ·simp [runReach, h1, h2, h3]
    ·exact (rest4 (n := n - 3) (by rw [show n - 3 = n + -1 + -1 + -1 by omega]; exact h3) (by rw [show n - 3 + 1 = n + -1 + -1 by omega]; exact h2) (by rw [show n - 3 + 2 = n + -1 by omega]; exact h1) (by rw [show n - 3 + 3 = n by omega]; exact h)).elim
theorem run_ok {n : Int} {ab : Bool} (h : restG n ab = true) : runOk 1 ab n = true ∧ runOk (-1) ab n = true := by
 have hi := ((rest_iff n ab).1 h).1
 have hr := run_reach h
 unfold runOk
 rw [hi, hr.1, hr.2]
 exact ⟨rfl, rfl⟩
theorem run_end {ab : Bool} : ∀ (k : Nat) (n : Int), runReach 1 ab k n = true → ∃ j : Nat, runEnd 1 ab k n = n + (j : Int) ∧ (∀ i : Nat, 1 ≤ i → i ≤ j → restG (n + (i : Int)) ab = true) ∧ restG (n + (j : Int) + 1) ab = false
 | 0, n, h => by cases h
 | k + 1, n, h => by
  simp only [runReach, Bool.or_eq_true, Bool.not_eq_true'] at h
  unfold runEnd
  cases hr : restG (n + 1) ab with
  | false => exact ⟨0, by simp, fun i h1 h2 => by omega, by simpa using hr⟩
  | true =>
   rw [hr] at h
   obtain ⟨j, j1, j2, j3⟩ := run_end k (n + 1) (h.resolve_left (by simp))
   refine ⟨j + 1, by rw [cond_true, j1]; omega, fun i h1 h2 => ?_, by rw [show n + ((j + 1 : Nat) : Int) + 1 = n + 1 + (j : Int) + 1 by omega]; exact j3⟩
   by_cases hi : i = 1
   ·subst hi; exact hr
   ·have := j2 (i - 1) (by omega) (by omega)
    rw [show n + 1 + ((i - 1 : Nat) : Int) = n + (i : Int) by omega] at this
    exact this
theorem run_last {n : Int} {ab : Bool} (h : restG n ab = true) : n ≤ runEnd 1 ab 10 n ∧ runEnd 1 ab 10 n ≤ n + 2 ∧ restG (runEnd 1 ab 10 n + 1) ab = false ∧ ∀ m, n ≤ m → m ≤ runEnd 1 ab 10 n → restG m ab = true := by
 obtain ⟨j, j1, j2, j3⟩ := run_end 10 n (run_reach h).1
 have hj : j ≤ 2 := by
  by_cases hj : j ≤ 2
  ·exact hj
  ·exact (rest4 h (j2 1 (by omega) (by omega)) (j2 2 (by omega) (by omega)) (j2 3 (by omega) (by omega))).elim
 rw [j1]
 refine ⟨by omega, by omega, j3, fun m h1 h2 => ?_⟩
 by_cases hm : m = n
 ·rw [hm]; exact h
 ·have := j2 (m - n).toNat (by omega) (by omega)
  rw [show n + (((m - n).toNat : Nat) : Int) = m by omega] at this
  exact this
end Go.Proofs.YtfhepbbkggdlcaaGreatDoor.Px


namespace Go.Proofs.YtfhepbbkggdlcaaGreatDoor.Px
open Go
theorem mon_in {y left : Int} : ∀ (k m : Nat), 1 ≤ m → m + k = 12 → sumG y (m - 1) ≤ left → left < sumG y 12 → m ≤ monGo y left m k ∧ monGo y left m k ≤ 12 ∧ sumG y (monGo y left m k - 1) ≤ left ∧ left < sumG y (monGo y left m k)
 | 0, m, h1, h2, h3, h4 => by
  have : m = 12 := by omega
  subst this
  exact ⟨Nat.le_refl _, Nat.le_refl _, h3, h4⟩
 | k + 1, m, h1, h2, h3, h4 => by
  unfold monGo
  by_cases hc : left < sumG y m
  ·rw [decide_eq_true hc]
   exact ⟨Nat.le_refl _, by rw [cond_true]; omega, h3, hc⟩
  ·rw [decide_eq_false hc, cond_false]
   obtain ⟨a, b, c, d⟩ := mon_in k (m + 1) (by omega) (by omega) (by rw [Nat.add_sub_cancel]; omega) h4
   exact ⟨by omega, b, c, d⟩
theorem of_date {n : Int} (h : dayOk n = true) : (1 ≤ (ofG n).1.month ∧ (ofG n).1.month ≤ 12) ∧ (1 ≤ (ofG n).1.day ∧ (ofG n).1.day ≤ daysG (ofG n).1.year (ofG n).1.month) ∧ (ofG n).2 = 0 ∧ daysG (ofG n).1.year (ofG n).1.month ≤ 31 := by
 obtain ⟨h1, h2⟩ := dayOk_iff.1 h
 obtain ⟨y1, y2, l1, l2, e1, e2⟩ := of_spec h1 h2
 have hs := sum_year y1 y2
 have hl := long_before y1
 obtain ⟨a, b, c, d⟩ := mon_in (y := yrG n) (left := lfG n) 11 1 (by omega) (by omega) (by simp only [Nat.sub_self, sumG]; omega) (by rw [hs]; omega)
 have hc : (decide (n < 1) || decide (n > 3652059)) = false := by simp; omega
 have e : ofG n = (⟨yrG n, ((monG n : Nat) : Int), lfG n - sumG (yrG n) (monG n - 1) + 1⟩, 0) := by
  unfold ofG
  rw [hc]
  rfl
 rw [e]
 dsimp only
 have hm : monGo (yrG n) (lfG n) 1 11 = monG n := rfl
 rw [hm] at a b c d
 have hsum : sumG (yrG n) (monG n) = sumG (yrG n) (monG n - 1) + daysG (yrG n) ((monG n : Nat) : Int) := by
  obtain ⟨j, hj⟩ : ∃ j, monG n = j + 1 := ⟨monG n - 1, by omega⟩
  rw [hj]
  simp only [sumG, Nat.add_sub_cancel]
  rfl
 have hd := daysG_range (yrG n) ((monG n : Nat) : Int)
 exact ⟨⟨by omega, by omega⟩, ⟨by omega, by omega⟩, rfl, hd.2.1⟩
theorem sel_all {p : Int → Bool} : ∀ {l : List Int} {k : Nat}, l.all p = true → k < l.length → p (selI l k) = true
 | x :: l, 0, h, _ => by simp only [List.all_cons, Bool.and_eq_true] at h; exact h.1
 | x :: l, k + 1, h, hk => by
  simp only [List.all_cons, Bool.and_eq_true] at h
  exact sel_all (l := l) h.2 (by simpa using hk)
theorem sun_minutes {s : Sun} (h : sunset_Check s = 0) {k : Nat} (hk : k < 12) : 900 ≤ selI (sunL s) k ∧ selI (sunL s) k ≤ 1320 := by
 have ha : ((sunL s).all fun n => inB n 900 1320) = true := by
  unfold sunset_Check at h
  cases ha : ((sunL s).all fun n => inB n 900 1320) with
  | true => rfl
  | false => rw [ha, cond_false] at h; cases h
 exact inB_iff.1 (sel_all ha hk)
theorem div_between {a b x d : Int} (hd : 0 < d) (h1 : 0 ≤ x) (h2 : x < d) : (0 ≤ b - a → 0 ≤ (b - a) * x / d ∧ (b - a) * x / d ≤ b - a) ∧ (b - a ≤ 0 → b - a ≤ (b - a) * x / d ∧ (b - a) * x / d ≤ 0) := by
 generalize b - a = q
 refine ⟨fun hq => ?_, fun hq => ?_⟩
 ·refine ⟨Int.ediv_nonneg (Int.mul_nonneg hq h1) (by omega), ?_⟩
  exact Int.ediv_le_of_le_mul hd (Int.mul_le_mul_of_nonneg_left (by omega) hq)
 ·constructor
  ·apply Int.le_ediv_of_mul_le hd
   exact Int.mul_le_mul_of_nonpos_left hq (by omega)
  ·have h0 : q * x ≤ 0 := Int.mul_nonpos_of_nonpos_of_nonneg hq h1
   have := Int.ediv_le_ediv hd h0
   rw [Int.zero_ediv] at this
   exact this
theorem sun_range {s : Sun} {n : Int} (hs : sunset_Check s = 0) (hn : dayOk n = true) : 900 ≤ sunDay (ofG n).1 s ∧ sunDay (ofG n).1 s ≤ 1320 := by
 obtain ⟨⟨m1, m2⟩, ⟨d1, d2⟩, _, _⟩ := of_date hn
 unfold sunDay
 have ha := sun_minutes hs (k := ((ofG n).1.month - 1).toNat) (by omega)
 have hb := sun_minutes hs (k := ((ofG n).1.month % 12).toNat) (by omega)
 have hv := div_between (a := selI (sunL s) ((ofG n).1.month - 1).toNat) (b := selI (sunL s) ((ofG n).1.month % 12).toNat) (x := (ofG n).1.day - 1) (d := daysG (ofG n).1.year (ofG n).1.month) (by omega) (by omega) (by omega)
 generalize (selI (sunL s) ((ofG n).1.month % 12).toNat - selI (sunL s) ((ofG n).1.month - 1).toNat) * ((ofG n).1.day - 1) / daysG (ofG n).1.year (ofG n).1.month = v at *
 omega
theorem window_facts {w : Window} (h : config_Window w = 0) : (w.kind = 1 ∨ w.kind = 2 ∨ w.kind = 3 ∨ w.kind = 4) ∧ (w.kind = 4 → (0 ≤ w.minute ∧ w.minute ≤ 180) ∧ (0 ≤ w.len ∧ w.len ≤ 180)) ∧ (w.kind ≠ 4 → (0 ≤ w.minute ∧ w.minute ≤ 1439) ∧ (1 ≤ w.len ∧ w.len ≤ 10080)) ∧ (-7 ≤ w.shift ∧ w.shift ≤ 7) := by
 have hb : windowB w = true := by
  unfold config_Window errIf at h
  cases hb : windowB w with
  | true => rfl
  | false => rw [hb] at h; cases h
 unfold windowB timedB at hb
 simp only [Bool.and_eq_true] at hb
 obtain ⟨_, hb⟩ := hb
 cases k1 : w.kind == 1 with
 | true =>
  have := beq_iff_eq.1 k1
  rw [k1, cond_true] at hb
  simp only [Bool.and_eq_true, inB_iff, beq_iff_eq] at hb
  exact ⟨.inl this, fun e => by omega, fun _ => hb.1.1, by omega⟩
 | false =>
  rw [k1, cond_false] at hb
  cases k2 : w.kind == 2 with
  | true =>
   have := beq_iff_eq.1 k2
   rw [k2, cond_true] at hb
   simp only [Bool.and_eq_true, inB_iff, beq_iff_eq] at hb
   exact ⟨.inr (.inl this), fun e => by omega, fun _ => hb.1.1, by omega⟩
  | false =>
   rw [k2, cond_false] at hb
   cases k3 : w.kind == 3 with
   | true =>
    have := beq_iff_eq.1 k3
    rw [k3, cond_true] at hb
    simp only [Bool.and_eq_true, inB_iff, beq_iff_eq] at hb
    exact ⟨.inr (.inr (.inl this)), fun e => by omega, fun _ => hb.1.1, by omega⟩
   | false =>
    rw [k3, cond_false] at hb
    simp only [Bool.and_eq_true, inB_iff, beq_iff_eq] at hb
    exact ⟨.inr (.inr (.inr hb.1.1.1.1)), fun _ => ⟨hb.1.2, hb.2⟩, fun e => absurd hb.1.1.1.1 e, by omega⟩
theorem rec_iff (d : Int) : recG d = true ↔ 402 ≤ d ∧ d ≤ 3651990 := by
 unfold recG
 cases h : decide (402 ≤ d) with
 | true => rw [cond_true, decide_eq_true_eq]; simp at h; omega
 | false => simp at h; simp; omega
theorem check_parts {c : Config} (h : config_Check c = 0) : zone_Check c.zone = 0 ∧ sunset_Check c.sun = 0 := by
 unfold config_Check orE at h
 cases h1 : config_size c == 0
 ·rw [h1] at h; simp only [cond_false] at h; rw [h] at h1; cases h1
 rw [h1, cond_true] at h
 cases h2 : config_stops c == 0
 ·rw [h2] at h; simp only [cond_false] at h; rw [h] at h2; cases h2
 rw [h2, cond_true] at h
 cases h3 : config_times c == 0
 ·rw [h3] at h; simp only [cond_false] at h; rw [h] at h3; cases h3
 rw [h3, cond_true] at h
 cases h4 : zone_Check c.zone == 0
 ·rw [h4] at h; simp only [cond_false] at h; rw [h] at h4; cases h4
 rw [h4, cond_true] at h
 cases h5 : sunset_Check c.sun == 0
 ·rw [h5] at h; simp only [cond_false] at h; rw [h] at h5; cases h5
 exact ⟨beq_iff_eq.1 h4, beq_iff_eq.1 h5⟩
theorem mom_ok {z : Zone} {d m : Int} (hz : zone_Check z = 0) (hd : recG d = true) (hm : 0 ≤ m ∧ m ≤ 1439) : (momG z d m).2 = 0 ∧ 500000 ≤ (momG z d m).1 ∧ (momG z d m).1 ≤ 6000000000 := by
 have ho : momOk d m = true := by unfold momOk; rw [hd]; simp; omega
 have ht := told_ok ho
 have hr := reach_G hz ht
 have hw := where_range (rowG z) 200 (d * 1440 + m)
 have hf := where_found hr
 have hd' := (rec_iff d).1 hd
 obtain ⟨z1, z2, _⟩ := zone_facts hz
 have hrow := (row_same (t := whereIn (rowG z) 200 (d * 1440 + m)) hz (by omega) (by omega)).2
 have e : momG z d m = (firstIn (rowG z) 200 (d * 1440 + m), 0) := by
  unfold momG
  rw [hz, ho]
  rfl
 rw [e]
 refine ⟨rfl, ?_⟩
 dsimp only
 unfold firstIn
 generalize whereIn (rowG z) 200 (d * 1440 + m) = t at *
 rw [hrow] at hf ⊢
 cases h1 : (decide (z.shift > 0) && decide (shiftG z (t - z.base - z.shift) > 0)) <;> cases h2 : shiftG z (t - z.base) == 0 <;> rw [h1, h2] at hf <;> simp at hf ⊢ <;> omega
theorem sun_mom {z : Zone} {s : Sun} {n : Int} (hz : zone_Check z = 0) (hs : sunset_Check s = 0) (h1 : 401 ≤ n) (h2 : n ≤ 3651998) : ∃ m : Int, sunMom z s n = (n * 1440 + m - z.base, 0) ∧ 900 ≤ m ∧ m ≤ 1320 := by
 refine ⟨sunDay (ofG n).1 s, ?_, sun_range hs (dayOk_iff.2 (by omega))⟩
 unfold sunMom
 rw [hz, hs, inB_true h1 h2]
 rfl
theorem span_cases (c : Config) (w : Window) (d : Int) : (spanErr c w d ≠ 0 ∧ spanG c w d = (noSpan, false, spanErr c w d)) ∨ ((config_Check c = 0 ∧ config_Window w = 0 ∧ recG d = true) ∧ spanG c w d = cond (opens c w d).2.2 (⟨(opens c w d).1, (opens c w d).2.1, w.mode, w.prio⟩, true, 0) (noSpan, false, 0)) := by
 unfold spanG
 cases he : spanErr c w d != 0 with
 | true => exact .inl ⟨by simpa using he, rfl⟩
 | false =>
  refine .inr ⟨?_, rfl⟩
  have h : spanErr c w d = 0 := by simpa using he
  unfold spanErr orE at h
  cases h1 : config_Check c == 0
  ·rw [h1] at h; simp only [cond_false] at h; rw [h] at h1; cases h1
  rw [h1, cond_true] at h
  cases h2 : config_Window w == 0
  ·rw [h2] at h; simp only [cond_false] at h; rw [h] at h2; cases h2
  rw [h2, cond_true] at h
  refine ⟨beq_iff_eq.1 h1, beq_iff_eq.1 h2, ?_⟩
  cases h3 : recG d with
  | true => rfl
  | false => rw [h3] at h; cases h
theorem rest_open {c : Config} {w : Window} {d : Int} (hk : w.kind = 4) (hc : config_Check c = 0) (hw : config_Window w = 0) (hd : recG d = true) :
  (opens c w d).2.2 = (restG (d + 1) c.abroad && !restG d c.abroad) ∧ ((opens c w d).2.2 = true → ∃ L m n : Int, L = runEnd 1 c.abroad 10 (d + 1) ∧ (d + 1 ≤ L ∧ L ≤ d + 3) ∧ (900 ≤ m ∧ m ≤ 1320) ∧ (900 ≤ n ∧ n ≤ 1320) ∧ (0 ≤ w.minute ∧ w.minute ≤ 180) ∧ (0 ≤ w.len ∧ w.len ≤ 180) ∧
   (opens c w d).1 = d * 1440 + m - c.zone.base - w.minute ∧ (opens c w d).2.1 = L * 1440 + n - c.zone.base + w.len) := by
 obtain ⟨hz, hs⟩ := check_parts hc
 obtain ⟨_, hf, _⟩ := window_facts hw
 obtain ⟨f1, f2⟩ := hf hk
 have hd' := (rec_iff d).1 hd
 have eo : opens c w d = restOpen () c w d := by
  unfold opens
  rw [hk]
  rfl
 rw [eo]
 unfold restOpen
 cases hb : (restG (d + 1) c.abroad && !restG d c.abroad) with
 | false => exact ⟨rfl, fun h => by cases h⟩
 | true =>
  refine ⟨rfl, fun _ => ?_⟩
  simp only [Bool.and_eq_true, Bool.not_eq_true'] at hb
  obtain ⟨l1, l2, _, _⟩ := run_last hb.1
  obtain ⟨m, m1, m2⟩ := sun_mom (n := d) hz hs (by omega) (by omega)
  obtain ⟨n, n1, n2⟩ := sun_mom (n := runEnd 1 c.abroad 10 (d + 1)) hz hs (by omega) (by omega)
  refine ⟨_, m, n, rfl, ⟨l1, by omega⟩, m2, n2, f1, f2, ?_, ?_⟩
  ·rw [m1]; rfl
  ·rw [n1]; rfl
theorem timed_open {c : Config} {w : Window} {d : Int} (hk : w.kind ≠ 4) (hc : config_Check c = 0) (hw : config_Window w = 0) (hd : recG d = true) :
  (momG c.zone d w.minute).2 = 0 ∧ (500000 ≤ (momG c.zone d w.minute).1 ∧ (momG c.zone d w.minute).1 ≤ 6000000000) ∧ (1 ≤ w.len ∧ w.len ≤ 10080) ∧ (opens c w d).1 = (momG c.zone d w.minute).1 ∧ (opens c w d).2.1 = (momG c.zone d w.minute).1 + w.len := by
 obtain ⟨hz, hs⟩ := check_parts hc
 obtain ⟨hkk, _, hf, _⟩ := window_facts hw
 obtain ⟨f1, f2⟩ := hf hk
 obtain ⟨m1, m2, m3⟩ := mom_ok hz hd f1
 refine ⟨m1, ⟨m2, m3⟩, f2, ?_⟩
 have e : ∀ b, timedG c w d b = ((momG c.zone d w.minute).1, (momG c.zone d w.minute).1 + w.len, b) := by
  intro b
  unfold timedG
  rw [wrI (by omega)]
 unfold opens weekOpen datedOpen yearOpen
 rw [e, e, e]
 rcases hkk with h | h | h | h
 ·rw [h]; exact ⟨rfl, rfl⟩
 ·rw [h]; exact ⟨rfl, rfl⟩
 ·rw [h]; exact ⟨rfl, rfl⟩
 ·exact absurd h hk
end Go.Proofs.YtfhepbbkggdlcaaGreatDoor.Px
