/- The law SpanResolves returns true for every input of bulk at most 1048576; its arguments read behind the call as they read before. -/
import Derived.Test.YtdadgkgkdgnihaaRows
import Derived.Test.YtdadgkgkdgnihaaPxVFns
import Derived.WalkKit
import Derived.ProofKit
import Derived.OpenShut
import Derived.ShutString
import Derived.ChangeOld
import Derived.Below
import Derived.Test.YtdadgkgkdgnihaaPxUpto
import Derived.SizedLaws
import Derived.JoinedCond
set_option linter.unusedVariables false
set_option linter.unusedSimpArgs false
namespace Go.Proofs.Ytdadgkgkdgnihaa.spanResolves
open Go.ChangeShapes Go.WideShapes Go.ChangeAt Go.RowKit
theorem one_le {H : Type} (d : DataW H) : 1 ≤ Rows.uptoBulk d := by
  cases d with
  | lit l => cases l <;> simp [Rows.uptoBulk]
  | nil => simp [Rows.uptoBulk]
  | ptr d => simp [Rows.uptoBulk]
  | slice elems spare => simp [Rows.uptoBulk]
  | agg parts => simp [Rows.uptoBulk]
  | iface t d => simp [Rows.uptoBulk]
  | map entries => simp [Rows.uptoBulk]
  | held h => simp [Rows.uptoBulk]
theorem part_le {H : Type} {d : DataW H} {l : List (DataW H)} (h : d ∈ l) : Rows.uptoBulk d ≤ Rows.uptoBulkAll l := by
  induction l with
  | nil => cases h
  | cons x r ih =>
    simp only [Rows.uptoBulkAll]
    cases List.mem_cons.1 h with
    | inl e => subst e; omega
    | inr e => have := ih e; omega
theorem length_le {H : Type} (l : List (DataW H)) : l.length ≤ Rows.uptoBulkAll l := by
  induction l with
  | nil => simp [Rows.uptoBulkAll]
  | cons x r ih => have := one_le x; simp only [Rows.uptoBulkAll, List.length_cons]; omega
theorem short {H : Type} {n : Nat} {d : DataW H} {l : List (DataW H)} (hk : Rows.uptoSmall H l = true) (hm : d ∈ l) (h : n = 0 ∨ ∃ el sp, d = .slice el sp ∧ el.length = n) : n ≤ 1048576 := by
  have h0 : Rows.uptoBulkAll l ≤ 1048576 := of_decide_eq_true hk
  rcases h with rfl | ⟨el, sp, rfl, rfl⟩
  · omega
  · have h1 := part_le hm
    have h2 := length_le el
    simp only [Rows.uptoBulk] at h1
    omega
theorem own : ownKnob Try.prog.godebug = none := by kernel_rfl
theorem laidOut : laidOutB Try.prog = true := by kernel_rfl
set_option maxRecDepth 100000 in
theorem lifted (os : Os) (started : os.Started) (H : Type) (enc : TypeId × Value → H) (F : Stop.Interp) :
    ReturnsInHanded {} Try.checked os 3 .any ((Rows.OpenSpec.upto Rows.spanResolvesSpec).pre6 enc Try.prog Try.f3 Rows.spanResolvesUptoRow.domain false) (((Rows.OpenSpec.upto Rows.spanResolvesSpec).at F).post enc Try.prog Try.f3 false true false false) := by
  refine returnsInHanded_of_cond (C := Try.checked) (s := Rows.OpenSpec.upto Rows.spanResolvesSpec) (k := Rows.uptoSmall) rfl own started (by kernel_rfl) Try.func3
    (OpenSpec.witness (enc := enc) (C := Try.checked) (s := Rows.OpenSpec.upto Rows.spanResolvesSpec) (k := Rows.uptoSmall) rfl false ⟨#[], #[.slice none 0 0], []⟩ 8 (by kernel_rfl) (by kernel_rfl) (by kernel_rfl) (x := ([.nil], [], [])) (by kernel_rfl) rfl (by kernel_rfl)) ?_
  intro W base args ds gs before hval0 hW _ hk _
  have hval : ∀ (j : Nat) t v, Try.f3.params[j]? = some t → args[j]? = some v → Value.okWide Try.prog W .any base t v := hval0
  have hW' := hW
  obtain ⟨p, q, hA0, hV, rfl, hfz, hnd⟩ := hW
  have hA : DataW.TrodAll enc Try.prog W 0 (fun _ => true) true Try.f3.params.toList args.toList ds p := hA0
  rw [Try.params3] at hA hval
  obtain ⟨v0, vs0, d0, ds0, p0, q0, hargs, rfl, rfl, h0, r0⟩ := trodAll_cons hA
  obtain ⟨rfl, rfl, rfl⟩ := trodAll_nil r0
  obtain rfl : args = #[v0] := by cases args; simp_all
  obtain ⟨rfl, rfl⟩ := trodVars_none hV
  have k0 := h0
  have lt0 : ∀ x ∈ p0, x.block < W.heap.size := by obtain ⟨m, hm⟩ := k0; exact DataW.trod_lt m _ _ _ hm
  obtain ⟨l0, o0⟩ := Go.Proofs.Ytdadgkgkdgnihaa.Px.arg_of Go.Proofs.Ytdadgkgkdgnihaa.Px.elsOk (sl := Go.Proofs.Ytdadgkgkdgnihaa.Px.PxV.slots) (d := 20) (ks := ((Go.Proofs.Ytdadgkgkdgnihaa.Px.Dat.sl Go.Proofs.Ytdadgkgkdgnihaa.Px.elsOk (.span : Go.Proofs.Ytdadgkgkdgnihaa.Px.El))).sh) (g := false) Try.underlying22 rfl (by kernel_rfl) (hval 0 22 v0 rfl rfl) h0
  obtain ⟨xs, b, cap, rfl, rfl⟩ := Go.Proofs.Ytdadgkgkdgnihaa.Px.ArgOk.row o0
  have hQ : ∀ x, [(false, [.sl (.span : Go.Proofs.Ytdadgkgkdgnihaa.Px.El) xs])] = (Go.Proofs.Ytdadgkgkdgnihaa.Px.PxV.s_newellaw13_SpanResolves).args x → Go.Proofs.Ytdadgkgkdgnihaa.Px.smallS x.1 = true := fun x hx => by
    have hx2 : ([(false, [Go.Proofs.Ytdadgkgkdgnihaa.Px.DV.sl (.span : Go.Proofs.Ytdadgkgkdgnihaa.Px.El) xs])] : List (Go.Proofs.Ytdadgkgkdgnihaa.Px.Arg (X := Go.Proofs.Ytdadgkgkdgnihaa.Px.els))) = [(false, [Go.Proofs.Ytdadgkgkdgnihaa.Px.DV.sl (.span : Go.Proofs.Ytdadgkgkdgnihaa.Px.El) x.1])] := hx
    simp only [List.cons.injEq, Prod.mk.injEq, true_and, and_true, Go.Proofs.Ytdadgkgkdgnihaa.Px.DV.sl.injEq, heq_eq_eq] at hx2
    rw [← hx2]
    exact decide_eq_true (short hk (by simp) (Go.Proofs.Ytdadgkgkdgnihaa.Px.trod_row Try.underlying22 h0))
  refine (Go.Proofs.Ytdadgkgkdgnihaa.Px.Sig.lawQ (s := Go.Proofs.Ytdadgkgkdgnihaa.Px.PxV.s_newellaw13_SpanResolves) Go.Proofs.Ytdadgkgkdgnihaa.Px.PxV.p31 (.of Try.func3 (by kernel_rfl) (by kernel_rfl)) trivial (.cons o0 .nil) hQ (fun x hx hq => Go.Proofs.Ytdadgkgkdgnihaa.Px.PxV.law_newellaw13_SpanResolves x hx hq)).mono fun e W' ⟨he, bel⟩ => ?_
  subst he
  exact ⟨_, rfl, _, _, _, [], _, [], hW', trodAll_mk1 (shut_bool Try.underlying4 _), (trodAll_cons_mk (Below.trod laidOut (by kernel_rfl) (of_decide_eq_true (by kernel_rfl)) k0 bel lt0) trodAll_mk0), rfl, bel.frame _, fun h => by cases h⟩
theorem over : Rows.spanResolvesUptoRow.holds Try.pinned (Rows.OpenSpec.upto Rows.spanResolvesSpec) :=
  OpenClaim.holds_of_cond 3 Try.f3 rfl rfl rfl rfl rfl rfl rfl ⟨rfl, rfl, rfl, rfl, rfl⟩ rfl rfl rfl rfl rfl (by kernel_rfl) Try.func3 (by kernel_rfl)
    (of_decide_eq_true (by kernel_rfl)) (by unfold Func.isWrapper; first | (rw [if_pos (by decide +kernel)]; kernel_rfl) | (rw [if_neg (by decide +kernel)]; exact ⟨rfl, rfl⟩))
    (fun os started H enc _ F => lifted os started H enc F)
end Go.Proofs.Ytdadgkgkdgnihaa.spanResolves
namespace Go.Proofs.Ytdadgkgkdgnihaa
theorem spanResolves_holds : Rows.SpanResolvesUptoSaid := spanResolves.over
#print axioms spanResolves_holds
end Go.Proofs.Ytdadgkgkdgnihaa
