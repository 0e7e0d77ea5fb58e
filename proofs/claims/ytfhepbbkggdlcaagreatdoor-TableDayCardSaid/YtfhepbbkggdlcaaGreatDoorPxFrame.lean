/- Frames: what is read from a slot, what is put into one, guards. -/
import Derived.Test.YtfhepbbkggdlcaaGreatDoorPxRel
set_option linter.unusedVariables false
set_option linter.unusedSimpArgs false
namespace Go.Proofs.YtfhepbbkggdlcaaGreatDoor.Px
open Go Go.RowKit
theorem polB_iff {p b : Bool} : polB p b = true ↔ b = p := by cases p <;> cases b <;> simp [polB]
theorem holdB_iff {tm : List Slot} {cs : List (Nat × Bool)} : holdB tm cs = true ↔ ∀ c ∈ cs, ∃ ds, boolAt tm c.1 = some (ds, c.2) := by
 induction cs with
 | nil => simp [holdB]
 | cons c l ih =>
  have h1 : holdB tm (c :: l) = true ↔ (∃ ds, boolAt tm c.1 = some (ds, c.2)) ∧ holdB tm l = true := by
   cases l with
   | nil =>
    simp only [holdB]
    cases h : boolAt tm c.1 with
    | none => simp
    | some p => obtain ⟨ds, b⟩ := p; simp [polB_iff]
   | cons d l =>
    simp only [holdB]
    cases h : boolAt tm c.1 with
    | none => simp
    | some p => obtain ⟨ds, b⟩ := p; simp [polB_iff]
  rw [h1, ih]
  simp
theorem holdB_append {tm : List Slot} {cs ds : List (Nat × Bool)} : holdB tm (cs ++ ds) = true ↔ holdB tm cs = true ∧ holdB tm ds = true := by
 simp only [holdB_iff, List.mem_append]
 exact ⟨fun h => ⟨fun c hc => h c (.inl hc), fun c hc => h c (.inr hc)⟩, fun h c hc => hc.elim (h.1 c) (h.2 c)⟩
theorem covers_spec {cs : List (Nat × Bool)} {c : Nat × Bool} (h : covers cs c = true) : c ∈ cs := by
 simp only [covers, List.any_eq_true, Bool.and_eq_true] at h
 obtain ⟨d, hd, h1, h2⟩ := h
 have e1 : d.1 = c.1 := Nat.eq_of_beq_eq_true h1
 have e2 : d.2 = c.2 := by cases hc : c.2 <;> cases hd2 : d.2 <;> simp [hc, hd2] at h2 ⊢
 have : d = c := by cases d; cases c; simp at e1 e2; simp [e1, e2]
 exact this ▸ hd
theorem holdB_covers {tm : List Slot} {cs ds : List (Nat × Bool)} (h : holdB tm cs = true) (hc : ds.all (covers cs) = true) : holdB tm ds = true := by
 rw [holdB_iff] at h ⊢
 rw [List.all_eq_true] at hc
 exact fun c hd => h c (covers_spec (hc c hd))
theorem unwrap_spec {ρ : List Loc} {tm : List Slot} {cs : List (Nat × Bool)} {s : Slot} {v : AV} {x : Value} (hs : SlotOk ρ tm s x) (hc : holdB tm cs = true) (h : unwrap cs s = some v) : conc ρ v = some x := by
 cases s with
 | any => simp [unwrap] at h
 | is u => simp only [unwrap, Option.some.injEq] at h; subst h; exact hs
 | opt ds u =>
  simp only [unwrap] at h
  cases hd : ds.all (covers cs) with
  | false => rw [hd] at h; simp at h
  | true =>
   rw [hd] at h
   simp only [cond_true, Option.some.injEq] at h
   subst h
   exact hs.1 (holdB_covers hc hd)
theorem conc_ofConst {ρ : List Loc} {v : Value} {u : AV} (h : ofConst v = some u) : conc ρ u = some v := by
 cases v <;> simp [ofConst] at h <;> subst h <;> simp [conc, Value.oneCell']
theorem rd_sound {ρ : List Loc} {tm : List Slot} {a : Act} {cs : List (Nat × Bool)} {x : Operand} {v : AV} (hf : FR ρ tm a) (hc : holdB tm cs = true) (h : rd tm cs x = some v) :
  conc ρ v = some (a.eval x) := by
 cases x with
 | tmp t =>
  simp only [rd, nth_eq] at h
  cases ht : tm[t]? with
  | none => rw [ht] at h; cases h
  | some s =>
   rw [ht] at h
   exact unwrap_spec (hf.at_ t s ht) hc h
 | const u => exact conc_ofConst h
 | func f =>
  simp only [rd, Option.some.injEq] at h
  subst h
  rfl
 | global g =>
  simp only [rd, Option.some.injEq] at h
  subst h
  rfl
theorem boolAt_spec {ρ : List Loc} {tm : List Slot} {a : Act} {t : Nat} {ds : List (Nat × Bool)} {b : Bool} (hf : FR ρ tm a) (h : boolAt tm t = some (ds, b)) :
  t < a.tmps.size ∧ (holdB tm ds = true → a.tmps.getD t undef = .bool b) ∧ (holdB tm ds = false → a.tmps.getD t undef = undef) := by
 simp only [boolAt, nth_eq] at h
 cases ht : tm[t]? with
 | none => rw [ht] at h; cases h
 | some s =>
  rw [ht] at h
  have hl : t < a.tmps.size := by rw [hf.size]; exact (List.getElem?_eq_some_iff.1 ht).1
  have hs := hf.at_ t s ht
  refine ⟨hl, ?_⟩
  cases s with
  | any => cases h
  | is u =>
   cases u <;> simp only [Option.some.injEq, Prod.mk.injEq, reduceCtorEq] at h
   obtain ⟨rfl, rfl⟩ := h
   refine ⟨fun _ => ?_, fun hh => by simp [holdB] at hh⟩
   simpa [SlotOk, conc, eq_comm] using hs
  | opt cs u =>
   cases u <;> simp only [Option.some.injEq, Prod.mk.injEq, reduceCtorEq] at h
   obtain ⟨rfl, rfl⟩ := h
   exact ⟨fun hh => by simpa [conc, eq_comm] using hs.1 hh, fun hh => hs.2 hh⟩
theorem boolAt_set {tm : List Slot} {d t : Nat} {s : Slot} (h : d ≠ t) : boolAt (tm.set d s) t = boolAt tm t := by
 simp only [boolAt, nth_eq, List.getElem?_set_ne h]
theorem holdB_set {tm : List Slot} {d : Nat} {s : Slot} {cs : List (Nat × Bool)} (h : ∀ c ∈ cs, d ≠ c.1) : holdB (tm.set d s) cs = holdB tm cs := by
 rw [Bool.eq_iff_iff, holdB_iff, holdB_iff]
 constructor
 ·intro hh c hc; obtain ⟨ds, e⟩ := hh c hc; rw [boolAt_set (h c hc)] at e; exact ⟨ds, e⟩
 ·intro hh c hc; obtain ⟨ds, e⟩ := hh c hc; exact ⟨ds, by rw [boolAt_set (h c hc)]; exact e⟩
theorem noUse_spec {d : Nat} : ∀ {tm : List Slot}, noUse d tm = true → ∀ (i : Nat) (cs : List (Nat × Bool)) (v : AV), tm[i]? = some (.opt cs v) → ∀ c ∈ cs, d ≠ c.1
 | [], _, i, cs, v, hi => by simp at hi
 | s :: l, h, i, cs, v, hi => by
  cases i with
  | zero =>
   simp only [List.getElem?_cons_zero, Option.some.injEq] at hi
   subst hi
   simp only [noUse, Bool.and_eq_true, List.all_eq_true] at h
   intro c hc e
   have := h.1 c hc
   rw [← e] at this
   simp at this
  | succ i =>
   have hl : noUse d l = true := by
    cases s <;> simp only [noUse, Bool.and_eq_true] at h
    ·exact h
    ·exact h
    ·exact h.2
   exact noUse_spec hl i cs v (by simpa using hi)
theorem noUse_of_noOpts {d : Nat} {tm : List Slot} (h : noOpts tm) : ∀ (i : Nat) (cs : List (Nat × Bool)) (v : AV), tm[i]? = some (.opt cs v) → ∀ c ∈ cs, d ≠ c.1 :=
 fun i cs v hi => by have := h i _ hi; simp [Slot.isOpt] at this
theorem FR.put {ρ : List Loc} {tm : List Slot} {a : Act} {d : Nat} {s : Slot} {x : Value} (hf : FR ρ tm a)
  (hu : ∀ (i : Nat) (cs : List (Nat × Bool)) (v : AV), tm[i]? = some (.opt cs v) → ∀ c ∈ cs, d ≠ c.1) (hs : SlotOk ρ (tm.set d s) s x) : FR ρ (tm.set d s) (a.put (some d) x) := by
 refine ⟨by simp [Act.put, hf.size], fun i t hi => ?_, hf.defers⟩
 by_cases hdi : d = i
 ·subst hdi
  have hlt : d < tm.length := by
   have := (List.getElem?_eq_some_iff.1 hi).1; simpa using this
  rw [List.getElem?_set_self hlt] at hi
  simp only [Option.some.injEq] at hi
  subst hi
  have : (a.put (some d) x).tmps.getD d undef = x := by
   simp only [Act.put]
   rw [Array.getD_eq_getD_getElem?, Array.getElem?_setIfInBounds_self_of_lt (by rw [hf.size]; exact hlt)]
   rfl
  rw [this]
  exact hs
 ·rw [List.getElem?_set_ne hdi] at hi
  have h0 := hf.at_ i t hi
  have : (a.put (some d) x).tmps.getD i undef = a.tmps.getD i undef := by
   simp only [Act.put]
   rw [Array.getD_eq_getD_getElem?, Array.getD_eq_getD_getElem?, Array.getElem?_setIfInBounds_ne hdi]
  rw [this]
  cases t with
  | any => trivial
  | is v => exact h0
  | opt cs v =>
   have := holdB_set (tm := tm) (s := s) (hu i cs v hi)
   exact ⟨fun hh => h0.1 (this ▸ hh), fun hh => h0.2 (this ▸ hh)⟩
theorem clearO_get : ∀ (tm : List Slot) (i : Nat), (clearO tm)[i]? = (tm[i]?).map fun s => match s with | .opt _ _ => .any | x => x
 | [], i => by simp [clearO]
 | s :: l, i => by
  cases i with
  | zero => cases s <;> simp [clearO]
  | succ i => cases s <;> simp [clearO, clearO_get l i]
theorem clearO_length : ∀ (tm : List Slot), (clearO tm).length = tm.length
 | [] => rfl
 | s :: l => by cases s <;> simp [clearO, clearO_length l]
theorem noOpts_clearO (tm : List Slot) : noOpts (clearO tm) := by
 intro i s hi
 rw [clearO_get] at hi
 cases ht : tm[i]? with
 | none => rw [ht] at hi; cases hi
 | some t =>
  rw [ht] at hi
  cases t <;> simp only [Option.map_some, Option.some.injEq] at hi <;> subst hi <;> rfl
theorem FR.clear {ρ : List Loc} {tm : List Slot} {a : Act} (hf : FR ρ tm a) : FR ρ (clearO tm) a := by
 refine ⟨by rw [clearO_length]; exact hf.size, fun i s hi => ?_, hf.defers⟩
 rw [clearO_get] at hi
 cases ht : tm[i]? with
 | none => rw [ht] at hi; cases hi
 | some t =>
  rw [ht] at hi
  have h0 := hf.at_ i t ht
  cases t with
  | any => simp only [Option.map_some, Option.some.injEq] at hi; subst hi; trivial
  | is v => simp only [Option.map_some, Option.some.injEq] at hi; subst hi; exact h0
  | opt cs v => simp only [Option.map_some, Option.some.injEq] at hi; subst hi; trivial
theorem noOpts_set {tm : List Slot} {d : Nat} {s : Slot} (h : noOpts tm) (hs : s.isOpt = false) : noOpts (tm.set d s) := by
 intro i t hi
 by_cases e : d = i
 ·subst e
  have hlt : d < tm.length := by have := (List.getElem?_eq_some_iff.1 hi).1; simpa using this
  rw [List.getElem?_set_self hlt] at hi
  simp only [Option.some.injEq] at hi
  exact hi ▸ hs
 ·rw [List.getElem?_set_ne e] at hi
  exact h i t hi
def clr (l : Loc) : Loc := { l with mark := false }
mutual
theorem conc_clr {ρ : List Loc} : ∀ (v : AV), conc (ρ.map clr) v = conc ρ v
 | .int _ _ | .bool _ | .str _ | .val _ => rfl
 | .ptr k o => by simp only [conc, List.getElem?_map]; cases ρ[k]? <;> rfl
 | .pel k i w o => by simp only [conc, List.getElem?_map]; cases ρ[k]? <;> rfl
 | .sl k i w n m => by simp only [conc, List.getElem?_map]; cases ρ[k]? <;> rfl
 | .yld k => by simp only [conc, List.getElem?_map]; cases ρ[k]? <;> rfl
 | .mp k => by simp only [conc, List.getElem?_map]; cases ρ[k]? <;> rfl
 | .cut k i w lo n => by simp only [conc, List.getElem?_map]; cases ρ[k]? <;> rfl
 | .fn f a c => by simp only [conc, concL_clr a, concL_clr c]
 | .agg cs => by simp only [conc, concL_clr cs]
 | .tup cs => by simp only [conc, concL_clr cs]
 | .ifc t v => by simp only [conc, conc_clr v]
theorem concL_clr {ρ : List Loc} : ∀ (l : List AV), concL (ρ.map clr) l = concL ρ l
 | [] => rfl
 | v :: l => by simp only [concL, conc_clr v, concL_clr l]
end
theorem fr_clr {ρ : List Loc} {tm : List Slot} {a : Act} (h : FR ρ tm a) : FR (ρ.map clr) tm { tmps := a.tmps, defers := [] } := by
 refine ⟨h.size, fun i s hi => ?_, .inl rfl⟩
 have := h.at_ i s hi
 cases s with
 | any => trivial
 | is v => exact (conc_clr v).trans this
 | opt cs v => exact ⟨fun e => (conc_clr v).trans (this.1 e), this.2⟩
end Go.Proofs.YtfhepbbkggdlcaaGreatDoor.Px
