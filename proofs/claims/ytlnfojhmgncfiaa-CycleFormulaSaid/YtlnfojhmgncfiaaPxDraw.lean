/- Regions that draw their order, whose operations turn nothing. -/
import Derived.Test.YtlnfojhmgncfiaaPxSound
import Derived.Deep.Quiet
set_option linter.unusedVariables false
set_option linter.unusedSimpArgs false
namespace Go.Proofs.Ytlnfojhmgncfiaa.Px
open Go Go.RowKit

section
variable [X : Elts] {P : Program} {G : World → Prop} {cfg : Cfg (X := X)} {w0 : World} {R : Type} {fail : R} {φ : R → Prop}

def quiet3 (op : Op) : Prop := memOf op = some 0 ∨ memOf op = some 1 ∨ memOf op = some 2

def cfgQ (cfg : Cfg (X := X)) : Cfg (X := X) := { cfg with H := [], apn := false }

theorem effOp_none {hp : List (Blk (X := X))} {tm : List Slot} {cs : List (Nat × Bool)} {op : Op} (h : quiet3 op) : effOp (cfgQ cfg) hp tm cs op = none := by
  cases op <;> simp [quiet3, memOf] at h <;> simp only [effOp]
  rename_i c
  split
  · split
    · split
      · split
        · split
          · rename_i el _
            simp [cfgQ]
          · rfl
        · rfl
      · rfl
    · split
      · rfl
      · rfl
    · rfl
  · rfl

theorem quietAt_of {ρ : List Loc} {hp : List (Blk (X := X))} {a : Act} {w : World} {o : Oper} {x : Value} (hr : HR w0 ρ hp w) (h : PureRes P w x ((execOp a.eval o).run P w)) : o.quietAt P a (HR w0 ρ hp) w x := by
  unfold Oper.quietAt
  generalize (execOp a.eval o).run P w = r at *
  cases r with
  | halt y w' => simp only [PureRes] at h
  | ok n w' =>
    cases n <;> simp only [PureRes] at h <;> simp only [Oper.quietUpon]
    case value u => exact h
    case enter f args => exact ⟨h.1, h.2.mono fun e w'' ⟨he, hb⟩ => ⟨he, hr.grow hb⟩⟩

theorem runOp_quiet (hf0 : ¬ φ fail) (hq : QOk P G cfg) (hG : G w0) {hasG : Bool} {cs : List (Nat × Bool)} {o : Oper} {s : St (X := X)} {K : St (X := X) → R} {ρ : List Loc} {a : Act} {w1 : World}
    (hk : quiet3 o.op) (h : φ (runOp (cfgQ cfg) fail (fun _ _ _ _ => fail) hasG cs o s K)) (hf : FR ρ s.tm a) (h1 : HR w0 ρ s.hp w1) (hc : holdB s.tm cs = true) (hg : hasG = false → noOpts s.tm) :
    ∃ x, (∀ w, HR w0 ρ s.hp w → o.quietAt P a (HR w0 ρ s.hp) w x) ∧ ∃ s', φ (K s') ∧ FR ρ s'.tm (a.put o.dst x) ∧ s'.hp = s.hp ∧ (hasG = false → noOpts s'.tm) := by
  rw [runOp_eq] at h
  unfold runOp0 at h
  split at h
  · rename_i ok v hp
    cases ok with
    | false => exact absurd h hf0
    | true =>
      rw [cond_true] at h
      obtain ⟨x, hx, _⟩ := pureOp_sound (cfg := cfg) hq hG hf hc h1 hp rfl
      refine ⟨x, fun w hw => ?_, put1_hp hf0 h hf hg hx⟩
      obtain ⟨y, hy, hres⟩ := pureOp_sound (cfg := cfg) hq hG hf hc hw hp rfl
      rw [hx] at hy
      simp only [Option.some.injEq] at hy
      subst hy
      exact quietAt_of hw hres
  · split at h
    · rename_i c x y hop
      split at h
      · rename_i v hv
        obtain ⟨dst, op, ty, pos, after, gd⟩ := o
        simp only at hop
        subst hop
        obtain ⟨z, hz, _⟩ := pick_sound (P := P) (w := w1) (dst := dst) (ty := ty) (pos := pos) (after := after) (gd := gd) hf hc hv
        refine ⟨z, fun w hw => ?_, put1_hp hf0 h hf hg hz⟩
        obtain ⟨z', hz', hrun⟩ := pick_sound (P := P) (w := w) (dst := dst) (ty := ty) (pos := pos) (after := after) (gd := gd) hf hc hv
        rw [hz] at hz'
        simp only [Option.some.injEq] at hz'
        subst hz'
        exact quietAt_of hw (.value hrun)
      · split at h
        · rename_i t _
          split at h
          · rename_i ds g hb
            cases hds : ds.all (covers cs) with
            | false => rw [hds] at h; exact absurd h hf0
            | true =>
              rw [hds, cond_true] at h
              obtain ⟨dst, op, ty, pos, after, gd⟩ := o
              simp only at hop
              subst hop
              have key : ∃ v, rd s.tm ((t, g) :: cs) (if g then x else y) = some v ∧ φ (put1 fail hasG ⟨dst, .pick (.tmp t) x y, ty, pos, after, gd⟩ (.is v) s K) := by
                cases g with
                | true =>
                  rw [cond_true] at h
                  split at h
                  · rename_i v hv; exact ⟨v, hv, h⟩
                  · exact absurd h hf0
                | false =>
                  rw [cond_false] at h
                  split at h
                  · rename_i v hv; exact ⟨v, hv, h⟩
                  · exact absurd h hf0
              obtain ⟨v, hv, h⟩ := key
              obtain ⟨z, hz, _⟩ := pick_branch (P := P) (w := w1) (dst := dst) (ty := ty) (pos := pos) (after := after) (gd := gd) hf hc hb hds hv
              refine ⟨z, fun w hw => ?_, put1_hp hf0 h hf hg hz⟩
              obtain ⟨z', hz', hrun⟩ := pick_branch (P := P) (w := w) (dst := dst) (ty := ty) (pos := pos) (after := after) (gd := gd) hf hc hb hds hv
              rw [hz] at hz'
              simp only [Option.some.injEq] at hz'
              subst hz'
              exact quietAt_of hw (.value hrun)
          · exact absurd h hf0
        · exact absurd h hf0
    · rw [effOp_none hk] at h
      simp only at h
      split at h
      · split at h
        · split at h
          · rw [Bool.cond_self] at h; exact absurd h hf0
          · exact absurd h hf0
          · exact absurd h hf0
        · exact absurd h hf0
      · exact absurd h hf0

theorem opsGo_quiet (hf0 : ¬ φ fail) (hq : QOk P G cfg) (hG : G w0) {ops : Array Oper} {hasG : Bool} {hp : List (Blk (X := X))} {ρ : List Loc} {w1 : World} (h1 : HR w0 ρ hp w1) {K : St (X := X) → R} : ∀ (l : List Oper), (∀ o ∈ l, quiet3 o.op) → ∀ {s : St (X := X)} {a : Act},
    φ (opsGo (cfgQ cfg) fail (fun _ _ _ _ => fail) ops.toList hasG l s K) → s.hp = hp → FR ρ s.tm a → (hasG = false → noOpts s.tm) →
    wpQuiet P ops (HR w0 ρ hp) (fun a' => ∃ s', φ (K s') ∧ FR ρ s'.tm a' ∧ s'.hp = hp ∧ (hasG = false → noOpts s'.tm)) l a
  | [], _, s, a, h, hh, hf, hg => ⟨s, h, hf, hh, hg⟩
  | o :: l, hk, s, a, h, hh, hf, hg => by
    have hko := hk o (List.mem_cons_self ..)
    have hkl : ∀ o ∈ l, quiet3 o.op := fun o ho => hk o (List.mem_cons_of_mem _ ho)
    subst hh
    have next : ∀ (x : Value), (∃ s', φ (opsGo (cfgQ cfg) fail (fun _ _ _ _ => fail) ops.toList hasG l s' K) ∧ FR ρ s'.tm (a.put o.dst x) ∧ s'.hp = s.hp ∧ (hasG = false → noOpts s'.tm)) →
        wpQuiet P ops (HR w0 ρ s.hp) (fun a' => ∃ s', φ (K s') ∧ FR ρ s'.tm a' ∧ s'.hp = s.hp ∧ (hasG = false → noOpts s'.tm)) l (a.put o.dst x) := by
      rintro x ⟨s', b1, b2, b3, b4⟩
      exact opsGo_quiet hf0 hq hG h1 l hkl b1 b3 b2 b4
    unfold wpQuiet
    unfold opsGo opStep at h
    split at h
    · rename_i hgd
      rw [if_pos (by simp [Region.wanted, hgd])]
      obtain ⟨x, hx, hn⟩ := runOp_quiet hf0 hq hG hko h hf h1 rfl hg
      exact ⟨x, hx, next x hn⟩
    · rename_i g pol hgd
      split at h
      · rename_i og hog
        split at h
        · rename_i tg htg
          split at h
          · rename_i ds b hb
            rw [nth_eq] at hog
            have hog' : ops[g]? = some og := by simpa using hog
            have hwant := wanted_eq hf hgd hog' htg hb
            rw [hwant]
            split at h
            · rename_i ok v hp
              cases hhb : holdB s.tm (ds ++ [(tg, pol)]) with
              | true =>
                rw [hhb] at h
                cases ok with
                | false => exact absurd h hf0
                | true =>
                  simp only [Bool.not_true, Bool.or_false, cond_true] at h
                  simp only [if_true]
                  obtain ⟨x, hx, _⟩ := pureOp_sound (cfg := cfg) hq hG hf hhb h1 hp rfl
                  refine ⟨x, fun w hw => ?_, next x (put1_hp hf0 h hf hg ⟨fun _ => hx, (fun e => by rw [hhb] at e; cases e)⟩)⟩
                  obtain ⟨y, hy, hres⟩ := pureOp_sound (cfg := cfg) hq hG hf hhb hw hp rfl
                  rw [hx] at hy
                  simp only [Option.some.injEq] at hy
                  subst hy
                  exact quietAt_of hw hres
              | false =>
                rw [hhb] at h
                simp only [Bool.not_false, Bool.or_true, cond_true] at h
                simp only [Bool.false_eq_true, if_false]
                exact next undef (put1_hp hf0 h hf hg ⟨(fun e => by rw [hhb] at e; cases e), fun _ => rfl⟩)
            · split at h
              · rename_i c x y hop
                split at h
                · rename_i v hv
                  cases hhb : holdB s.tm (ds ++ [(tg, pol)]) with
                  | true =>
                    simp only [if_true]
                    obtain ⟨dst, op, ty, pos, after, gd⟩ := o
                    simp only at hop
                    subst hop
                    obtain ⟨z, hz, _⟩ := pick_sound (P := P) (w := w1) (dst := dst) (ty := ty) (pos := pos) (after := after) (gd := gd) hf hhb hv
                    refine ⟨z, fun w hw => ?_, next z (put1_hp hf0 h hf hg ⟨fun _ => hz, (fun e => by rw [hhb] at e; cases e)⟩)⟩
                    obtain ⟨z', hz', hrun⟩ := pick_sound (P := P) (w := w) (dst := dst) (ty := ty) (pos := pos) (after := after) (gd := gd) hf hhb hv
                    rw [hz] at hz'
                    simp only [Option.some.injEq] at hz'
                    subst hz'
                    exact quietAt_of hw (.value hrun)
                  | false =>
                    simp only [Bool.false_eq_true, if_false]
                    exact next undef (put1_hp hf0 h hf hg ⟨(fun e => by rw [hhb] at e; cases e), fun _ => rfl⟩)
                · cases hhb : holdB s.tm (ds ++ [(tg, pol)]) with
                  | true =>
                    rw [hhb, cond_true] at h
                    simp only [if_true]
                    obtain ⟨x, hx, hn⟩ := runOp_quiet hf0 hq hG hko h hf h1 hhb hg
                    exact ⟨x, hx, next x hn⟩
                  | false =>
                    rw [hhb, cond_false] at h
                    simp only [Bool.false_eq_true, if_false]
                    exact next undef (put1_hp hf0 h hf hg ⟨(fun e => by rw [hhb] at e; cases e), fun _ => rfl⟩)
              · cases hhb : holdB s.tm (ds ++ [(tg, pol)]) with
                | true =>
                  rw [hhb, cond_true] at h
                  simp only [if_true]
                  obtain ⟨x, hx, hn⟩ := runOp_quiet hf0 hq hG hko h hf h1 hhb hg
                  exact ⟨x, hx, next x hn⟩
                | false =>
                  rw [hhb, cond_false] at h
                  simp only [Bool.false_eq_true, if_false]
                  exact next undef (put1_hp hf0 h hf hg ⟨(fun e => by rw [hhb] at e; cases e), fun _ => rfl⟩)
          · exact absurd h hf0
        · exact absurd h hf0
      · exact absurd h hf0

theorem hr_drew {ρ : List Loc} {hp : List (Blk (X := X))} {w : World} (h : HR w0 ρ hp w) : HR w0 ρ hp { w with drawn := w.drawn + 1 } := h.grow ⟨rfl, rfl, rfl, Nat.le_refl _, fun _ _ => rfl⟩

omit X in
theorem wpOpIn_of_qOpW {P : Program} {ops : Array Oper} {C : World → Prop} {rn : Option Nat} (hnd : ∀ o ∈ ops.toList, ∀ c, o.op ≠ .defer c) {i : Nat} {a : Act} {K : Act → Prop} {K' : Act → World → Prop} {Q' : Exit → Act → World → Prop} {w : World} (hC : C w) (h : ∀ a w', C w' → K a → K' a w') (hh : qOp P ops C i K a) : wpOpIn (Wd rn) 0 P ops Q' i K' a w := by
  unfold qOp at hh
  unfold wpOpIn
  split
  · rename_i ho; simp only [ho] at hh; exact h _ _ hC hh
  · rename_i o ho
    simp only [ho] at hh
    split
    · rename_i hw; simp only [hw, if_true] at hh; exact inW (Oper.wp_of_quiet hC h hh) (hnd o (by simpa using Array.mem_of_getElem? ho))
    · rename_i hw; simp only [hw] at hh; exact ⟨fun _ _ => trivial, h _ _ hC hh⟩

omit X in
theorem wpAnyIn_of_quietW {P : Program} {ops : Array Oper} {C : World → Prop} {rn : Option Nat} (hnd : ∀ o ∈ ops.toList, ∀ c, o.op ≠ .defer c) {md : Region.Mode} {Q : Act → Prop} {Q' : Exit → Act → World → Prop} (hQ : ∀ a w, C w → Q a → Q' .normal a w) : ∀ (fuel : Nat) (listed : Array Bool) (a : Act) (w : World), C w →
    wpAnyQ P md ops C Q fuel listed a → wpAnyIn (Wd rn) 0 P md ops Q' fuel listed a w
  | 0, _, _, _, hw, h => ⟨h.1, hQ _ _ hw h.2⟩
  | fuel + 1, _, _, _, hw, h => ⟨fun h0 => hQ _ _ hw (h.1 h0), fun i hi => wpOpIn_of_qOpW hnd hw (fun a' w' hw' => wpAnyIn_of_quietW hnd hQ fuel _ a' w' hw') (h.2 i hi)⟩

omit X in
theorem wpIn_region_quietW {P : Program} {ops : Array Oper} {C : World → Prop} {rn : Option Nat} (hnd : ∀ o ∈ ops.toList, ∀ c, o.op ≠ .defer c) {id : Nat} {Q : Exit → Act → World → Prop} {a : Act} {w : World} (hm : P.follows .mixedOrders = true) (hB : Region.lexB .any ops = true) (hC : C { w with drawn := w.drawn + 1 })
    (h : wpQuiet P ops C (fun a' => ∀ w', C w' → Q .normal a' w') ops.toList a) : (Code.region id ops true).wpIn (Wd rn) 0 P Q a w := by
  simp only [Region.lexB, Bool.and_eq_true] at hB
  refine wpIn_region_any hm (wpAnyIn_of_quietW hnd (Q := fun a' => ∀ w', C w' → Q .normal a' w') (fun _ w' hw' h => h w' hw') _ _ _ _ hC ?_)
  have := wpAnyQ_lex (C := C) (md := .any) hB.1 ops.toList 0 (Array.replicate ops.size false) a (by simp) (by simpa using hB.2) h
  simpa using this

theorem draw_quiet (hm : P.follows .mixedOrders = true) (hf0 : ¬ φ fail) (hq : QOk P G cfg) (hG : G w0) {id : Nat} {ops : Array Oper} {s : St (X := X)} {K : St (X := X) → R} {ρ : List Loc} {a : Act} {w : World} {rn : Option Nat}
    (hk : quietKind ops.toList = true) (h : φ (regionGo (cfgQ cfg) fail (fun _ _ _ _ => fail) ops.toList s K)) (hf : FR ρ s.tm a) (hr : HR w0 ρ s.hp w) (hg : noOpts s.tm) : (Code.region id ops true).wpIn (Wd rn) 0 P (Through (Next w0 φ ρ false K)) a w := by
  simp only [quietKind, Bool.and_eq_true, List.all_eq_true] at hk
  obtain ⟨hk1, hk2⟩ := hk
  have hk3 : ∀ o ∈ ops.toList, quiet3 o.op := by
    intro o ho
    have := hk1 o ho
    split at this
    · rename_i e; exact .inl e
    · rename_i e; exact .inr (.inl e)
    · rename_i e; exact .inr (.inr e)
    · cases this
  have hnd : ∀ o ∈ ops.toList, ∀ c, o.op ≠ .defer c := fun o ho c e => by
    have := hk1 o ho
    rw [e] at this
    simp [memOf] at this
  refine wpIn_region_quietW hnd (C := HR w0 ρ s.hp) hm (by simpa using hk2) (hr_drew hr) ?_
  have mono : ∀ (l : List Oper) (a : Act) (Q Q' : Act → Prop), (∀ a, Q a → Q' a) → wpQuiet P ops (HR w0 ρ s.hp) Q l a → wpQuiet P ops (HR w0 ρ s.hp) Q' l a := by
    intro l
    induction l with
    | nil => intro a Q Q' hQ h; exact hQ _ h
    | cons o l ih =>
      intro a Q Q' hQ h
      unfold wpQuiet at h ⊢
      split
      · rename_i hw; rw [if_pos hw] at h; exact Oper.quiet_mono (fun a h => ih a Q Q' hQ h) h
      · rename_i hw; rw [if_neg hw] at h; exact ih _ Q Q' hQ h
  rw [regionGo_eq] at h
  unfold regionGo0 at h
  split at h
  · refine mono _ _ _ _ ?_ (opsGo_quiet hf0 hq hG hr ops.toList hk3 h rfl hf (fun _ => hg))
    rintro a' ⟨s', b1, b2, b3, _⟩ w' hw'
    exact ⟨_, ρ, b1, List.prefix_refl _, b2.clear, by simp only [b3]; exact hw', fun _ => noOpts_clearO _⟩
  · refine mono _ _ _ _ ?_ (opsGo_quiet hf0 hq hG hr ops.toList hk3 h rfl hf (fun _ => hg))
    rintro a' ⟨s', b1, b2, b3, b4⟩ w' hw'
    exact ⟨s', ρ, b1, List.prefix_refl _, b2, by rw [b3]; exact hw', b4⟩
end
end Go.Proofs.Ytlnfojhmgncfiaa.Px
