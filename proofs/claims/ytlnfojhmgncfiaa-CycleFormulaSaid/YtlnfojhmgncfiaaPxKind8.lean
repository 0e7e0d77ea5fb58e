/- Whatever order is drawn, the end is the one of the text's order. -/
import Derived.Test.YtlnfojhmgncfiaaPxKind7
set_option linter.unusedVariables false
set_option linter.unusedSimpArgs false
namespace Go.Proofs.Ytlnfojhmgncfiaa.Px
open Go Go.RowKit
set_option linter.unusedVariables false
set_option linter.unusedSimpArgs false

section
variable [X : Elts] {P : Program} {G : World → Prop} {cfg : Cfg (X := X)} {w0 : World} {R : Type} {fail : R} {φ : R → Prop}

theorem any_orderG (hq : EOk P G cfg) (hG : G w0) {hasG : Bool} {ops : Array Oper} {s0 : St (X := X)} {S : Nat → St (X := X)} (hr : RunG cfg ops.toList hasG s0 S) (hk : GK ops.toList s0) (had : Adds cfg) (hnp : cfg.apn = false) (h0 : Px.noOpts s0.tm) {rn : Option Nat} {ρ0 : List Loc} {Q : Exit → Act → World → Prop}
    (hQ : ∀ ρ' a' w', ρ0 <+: ρ' → FR ρ' (S ops.size).tm a' → HR w0 ρ' (S ops.size).hp w' → (hasG = false → Px.noOpts (S ops.size).tm) → Q .normal a' w') :
    ∀ (fuel : Nat) (listed : Array Bool) (a : Act) (w : World) (s : St (X := X)) (ρ : List Loc), listed.size = ops.size → unl ops.size listed ≤ fuel → ρ0 <+: ρ → AtG ops.toList s0 S (fun k => listed.getD k false = true) s → FR ρ s.tm a → HR w0 ρ s.hp w → (hasG = false → Px.noOpts s.tm) →
    (∀ (k : Nat) (p : Oper), ops.toList[k]? = some p → listed.getD k false = true → ∀ j, hasE p j = true → listed.getD j false = true) → wpAnyIn (Wd rn) 0 P .any ops Q fuel listed a w := by
  intro fuel
  -- when nothing may come up, all has come up
  have done : ∀ (listed : Array Bool) (a : Act) (w : World) (s : St (X := X)) (ρ : List Loc), listed.size = ops.size → ρ0 <+: ρ → AtG ops.toList s0 S (fun k => listed.getD k false = true) s → FR ρ s.tm a → HR w0 ρ s.hp w → (hasG = false → Px.noOpts s.tm) → Region.ready .any ops listed = [] → Q .normal a w := by
    intro listed a w s ρ hsz hρ ha hf hh hno hrd
    have hall : ∀ k, k < ops.toList.length → listed.getD k false = true := by
      intro k
      induction k using Nat.strongRecOn with
      | _ k ih =>
        intro hkl
        have hkl' : k < ops.size := by simpa using hkl
        cases hg : listed.getD k false with
        | true => rfl
        | false =>
          exfalso
          have hmem : k ∈ Region.ready .any ops listed := by
            refine mem_ready.2 ⟨?_, ops[k], Array.getElem?_eq_getElem hkl', fun e he hb => ?_⟩
            · rw [Array.getD_eq_getD_getElem?, Array.getElem?_eq_getElem (by rw [hsz]; exact hkl')] at hg ⊢
              exact hg
            · refine ih e.on (hk.back k ops[k] e.on (by simp [hkl']) ?_) (by have := hk.back k ops[k] e.on (by simp [hkl']) (by simp only [hasE, List.any_eq_true, Bool.and_eq_true]; exact ⟨e, by simpa using he, hb, by simp⟩); omega)
              simp only [hasE, List.any_eq_true, Bool.and_eq_true]
              exact ⟨e, by simpa using he, hb, by simp⟩
          rw [hrd] at hmem
          cases hmem
    have := ha.all hr hk hall
    subst this
    exact hQ ρ a w hρ (by simpa using hf) (by simpa using hh) (by simpa using hno)
  induction fuel with
  | zero =>
    intro listed a w s ρ hsz hu hρ ha hf hh hn hc
    have hrd : Region.ready .any ops listed = [] := by
      rw [List.eq_nil_iff_forall_not_mem]
      intro i hi
      obtain ⟨h1, o, ho, _⟩ := mem_ready.1 hi
      have hlt : i < ops.size := (Array.getElem?_eq_some_iff.1 ho).1
      have h1' : listed.getD i false = false := by
        rw [Array.getD_eq_getD_getElem?, Array.getElem?_eq_getElem (by rw [hsz]; exact hlt)] at h1 ⊢
        exact h1
      have := unl_set hsz hlt h1'
      omega
    exact ⟨hrd, done listed a w s ρ hsz hρ ha hf hh hn hrd⟩
  | succ fuel ih =>
    intro listed a w s ρ hsz hu hρ ha hf hh hn hc
    refine ⟨fun hrd => done listed a w s ρ hsz hρ ha hf hh hn hrd, fun i hi => ?_⟩
    obtain ⟨h1, o, ho, hall⟩ := mem_ready.1 hi
    have hlt : i < ops.size := (Array.getElem?_eq_some_iff.1 ho).1
    have h1' : listed.getD i false = false := by
      rw [Array.getD_eq_getD_getElem?, Array.getElem?_eq_getElem (by rw [hsz]; exact hlt)] at h1 ⊢
      exact h1
    have hol : ops.toList[i]? = some o := by simpa using ho
    have hready : ∀ k, hasE o k = true → listed.getD k false = true := by
      intro k hk'
      simp only [hasE, List.any_eq_true, Bool.and_eq_true] at hk'
      obtain ⟨e, he, hb, hek⟩ := hk'
      have := hall e (by simpa using he) hb
      rwa [Nat.eq_of_beq_eq_true hek] at this
    have hsees : ∀ t x v, o.op = .load t x → o.guard = none → rd s.tm [] x = some v → Sees s.hp v := by
      intro t x v _ _ hv
      have hcv := rd_sound hf (rfl : holdB s.tm [] = true) hv
      cases v with
      | ptr k q =>
        obtain ⟨l, hl, _⟩ := conc_ptr.1 hcv
        show k < s.hp.length
        rw [← hh.len]
        exact (List.getElem?_eq_some_iff.1 hl).1
      | pel k i wd q =>
        obtain ⟨l, hl, hnl, _⟩ := conc_pel.1 hcv
        have hkl : k < s.hp.length := by rw [← hh.len]; exact (List.getElem?_eq_some_iff.1 hl).1
        refine ⟨hkl, ?_⟩
        obtain ⟨l2, hl2, _⟩ := deref_loc hh hl hnl
        rw [← hh.len]
        exact (List.getElem?_eq_some_iff.1 hl2).1
      | _ => trivial
    obtain ⟨s', hst, ha'⟩ := ha.next hr hk had hnp h0 hol (by rw [h1']; simp) hready hc hsees
    have hset : ∀ k, (listed.setIfInBounds i true).getD k false = true ↔ (listed.getD k false = true ∨ k = i) := by
      intro k
      by_cases e : k = i
      · subst e
        rw [Array.getD_eq_getD_getElem?, Array.getElem?_setIfInBounds_self_of_lt (by rw [hsz]; exact hlt)]
        simp
      · rw [Array.getD_eq_getD_getElem?, Array.getElem?_setIfInBounds_ne (fun h => e h.symm), ← Array.getD_eq_getD_getElem?]
        simp [e]
    have ha'' : AtG ops.toList s0 S (fun k => (listed.setIfInBounds i true).getD k false = true) s' := by
      have : (fun k => (listed.setIfInBounds i true).getD k false = true) = (fun k => listed.getD k false = true ∨ k = i) := funext fun k => propext (hset k)
      rw [this]
      exact ha'
    have fin : ∀ (a' : Act) (w' : World), (∃ ρ', ρ <+: ρ' ∧ FR ρ' s'.tm a' ∧ HR w0 ρ' s'.hp w' ∧ (hasG = false → Px.noOpts s'.tm)) → wpAnyIn (Wd rn) 0 P .any ops Q fuel (listed.setIfInBounds i true) a' w' := by
      rintro a' w' ⟨ρ', h1, h2, h3, h4⟩
      refine ih _ a' w' s' ρ' (by simpa using hsz) (by have := unl_set hsz hlt h1'; omega) (hρ.trans h1) ha'' h2 h3 h4 (fun k p hkp hyk j hj => ?_)
      rw [hset] at hyk ⊢
      rcases hyk with hyk | rfl
      · exact .inl (hc k p hkp hyk j hj)
      · rw [hol] at hkp
        simp only [Option.some.injEq] at hkp
        subst hkp
        exact .inl (hready j hj)
    have hw := stepO_wp (rn := rn) (P := P) (cfg := cfg) (w0 := w0) hq hG hst hf hh hn (Q := Q)
    unfold wpOpIn
    simp only [ho]
    split
    · rename_i hwt
      rw [if_pos hwt] at hw
      exact Oper.wpIn_mono (fun a' w' h => fin a' w' h) hw
    · rename_i hwt
      rw [if_neg hwt] at hw
      exact ⟨fun _ _ => trivial, fin _ _ hw⟩

/-- A region with guards and calls that draws its order. -/
theorem draw_guard (hm : P.follows .mixedOrders = true) (hf0 : ¬ φ fail) (hq : EOk P G cfg) (hnp : cfg.apn = false) (hG : G w0) {id : Nat} {ops : Array Oper} {s : St (X := X)} {K : St (X := X) → R} {ρ : List Loc} {a : Act} {w : World} {rn : Option Nat}
    (hk : kindG ops.toList s (reach ops.toList) = true) (h : φ (regionGo cfg fail (fun _ _ _ _ => fail) ops.toList s K)) (hf : FR ρ s.tm a) (hr : HR w0 ρ s.hp w) (hn : Px.noOpts s.tm) : (Code.region id ops true).wpIn (Wd rn) 0 P (Through (Next w0 φ ρ false K)) a w := by
  have hgk := GK.of hk
  have had : Adds cfg := fun n con hc => (hq.makes n con hc).2.2
  rw [regionGo_eq] at h
  unfold regionGo0 at h
  refine wpIn_region_any hm ?_
  have none : ∀ k, ¬ (Array.replicate ops.size false).getD k false = true := by
    intro k hy
    rw [Array.getD_eq_getD_getElem?] at hy
    by_cases hk : k < ops.size
    · simp [hk] at hy
    · simp [hk] at hy
  have e : (fun k => (Array.replicate ops.size false).getD k false = true) = (fun _ => False) := by
    funext k
    exact propext ⟨fun h => none k h, fun h => h.elim⟩
  have hun : unl ops.size (Array.replicate ops.size false) ≤ ops.size := by
    unfold unl
    exact Nat.le_trans (List.length_filter_le _ _) (by simp)
  split at h
  · obtain ⟨S, hS0, hS, hK⟩ := chainO (cfg := cfg) hf0 ops.toList h
    have hrun : RunG cfg ops.toList true s S := ⟨hS0, hS⟩
    refine any_orderG hq hG hrun hgk had hnp hn (ρ0 := ρ) ?_ ops.size _ a _ s ρ (by simp) hun (List.prefix_refl _) ?_ hf (hr_drew hr) (fun _ => hn) (fun k p _ hy => absurd hy (none k))
    · intro ρ' a' w' h1 h2 h3 _
      exact ⟨{ tm := clearO (S ops.size).tm, hp := (S ops.size).hp }, ρ', by simpa using hK, h1, h2.clear, h3, fun _ => noOpts_clearO _⟩
    · rw [e]
      exact AtG.start hrun
  · obtain ⟨S, hS0, hS, hK⟩ := chainO (cfg := cfg) hf0 ops.toList h
    have hrun : RunG cfg ops.toList false s S := ⟨hS0, hS⟩
    refine any_orderG hq hG hrun hgk had hnp hn (ρ0 := ρ) ?_ ops.size _ a _ s ρ (by simp) hun (List.prefix_refl _) ?_ hf (hr_drew hr) (fun _ => hn) (fun k p _ hy => absurd hy (none k))
    · intro ρ' a' w' h1 h2 h3 h4
      exact ⟨_, ρ', by simpa using hK, h1, h2, h3, h4⟩
    · rw [e]
      exact AtG.start hrun

/-- Whatever region that draws its order the evaluator takes. -/
theorem draw_sound (hm : P.follows .mixedOrders = true) (hf0 : ¬ φ fail) (hq : EOk P G cfg) (hG : G w0) : DrawSound P w0 cfg fail φ := by
  refine ⟨fun rn id ops s K ρ a w hd h hf hr hn => ?_, fun rn id ops s K ρ a w hd h hf hr hn => ?_⟩
  · unfold drawOk at hd
    cases hqk : quietKind ops.toList with
    | true => exact draw_quiet hm hf0 hq.toQOk hG hqk h hf hr hn
    | false =>
      rw [hqk, cond_false] at hd
      exact draw_store hm hf0 hq hG hd h hf hr hn
  · have hq' : EOk P G { cfg with apn := false } := { toQOk := { hq.toQOk with }, makes := hq.makes }
    exact draw_guard hm hf0 hq' rfl hG hd h hf hr hn
end
end Go.Proofs.Ytlnfojhmgncfiaa.Px
