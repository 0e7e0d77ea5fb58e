/- The law AutoSame. -/
import Derived.Test.YtdpdmjjpdebpeaaPxQProofs5
set_option linter.unusedVariables false
set_option linter.unusedSimpArgs false
namespace Go.Proofs.Ytdpdmjjpdebpeaa.Px.PxQ
open Go Go.Proofs
set_option linter.unusedSimpArgs false
set_option linter.unusedVariables false

theorem run_newellaw23_AutoSame (a0 : Twins) (hg : s_newellaw23_AutoSame.wf (a0, ())) : ∃ F d, run k82 F d 7 Try.f7 s_newellaw23_AutoSame (a0, ()) = some (AV.bool true) := by
  refine ⟨200, 6, ?_⟩
  rw [tree_newellaw23_AutoSame]
  simp only [beqn, ble0, Bool.true_and, Bool.and_true, Bool.and_self, cond_true, cond_false]
  cases hf : few10 a0.a.config with
  | false => rfl
  | true =>
    have hs := few_twins hg.1 hf
    obtain ⟨⟨cf, md, nt, ag, cr⟩, c, t, o⟩ := a0
    simp only at hs hf ⊢
    have hs2 : smallA { config := cf, mode := md, nth := nt, age := ag, car := c } = true := hs
    have hst : ∀ t, smallAT { config := cf, mode := md, nth := nt, age := ag, car := cr } t = true := fun _ => hs
    have hst2 : ∀ t, smallAT { config := cf, mode := md, nth := nt, age := ag, car := c } t = true := fun _ => hs
    simp only [hs, hs2, hst, hst2, Bool.not_true, cond_true, cond_false]
    cases h4 : decide (md ≥ 4) with
    | true => rfl
    | false =>
      have hm : md ≤ 3 := by simp at h4; omega
      simp only [bne_not, cond_false]
      cases he : (errAuto { config := cf, mode := md, nth := nt, age := ag, car := cr } == 0) with
      | false => rw [inStep_bad he]; simp only [he, Bool.not_false, cond_true]
      | true =>
        cases he2 : (errAuto { config := cf, mode := md, nth := nt, age := ag, car := c } == 0) with
        | false => rw [inStep_bad he2]; simp only [he2, Bool.not_false, cond_true]; cases (auto_InStep { config := cf, mode := md, nth := nt, age := ag, car := cr }).2 == 0 <;> rfl
        | true =>
          rw [inStep_good he, inStep_good he2]
          simp only [beq_self_eq_true, Bool.not_true, cond_false]
          cases hi : inStepO { config := cf, mode := md, nth := nt, age := ag, car := cr } with
          | false => rfl
          | true =>
            cases hi2 : inStepO { config := cf, mode := md, nth := nt, age := ag, car := c } with
            | false => rfl
            | true =>
              have c1 := (inStep_iff.1 hi).2
              have c2 := (inStep_iff.1 hi2).2
              simp only at c1 c2
              have hcc : cr = c := by rw [c1, c2]
              subst hcc
              have he' : errAuto { config := cf, mode := md, nth := nt, age := ag, car := cr } = 0 := by simpa using he
              have e1 : auto_Step { config := cf, mode := md, nth := nt, age := ag, car := cr } t = auto_Step { config := cf, mode := md, nth := nt, age := ag, car := cr } { key := o.key, held := o.held, fault := t.fault } := step_deaf (k := t.key) (h := t.held) (f := t.fault) (fun _ => hm)
              rw [e1, (step_ok he').1]
              simp only [BEq.rfl, Bool.not_true, Bool.and_self, cond_true, cond_false, beq_self_eq_true]

end Go.Proofs.Ytdpdmjjpdebpeaa.Px.PxQ
