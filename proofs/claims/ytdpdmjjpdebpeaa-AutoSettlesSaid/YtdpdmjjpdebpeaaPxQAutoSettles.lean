/- The law AutoSettles returns true for every input; its arguments read behind the call as they read before. -/
import Derived.Test.YtdpdmjjpdebpeaaRows
import Derived.Test.YtdpdmjjpdebpeaaPxQFns
import Derived.WalkKit
import Derived.ProofKit
import Derived.OpenShut
import Derived.ShutString
import Derived.ChangeOld
import Derived.Below
import Derived.SizedLaws
set_option linter.unusedVariables false
set_option linter.unusedSimpArgs false
namespace Go.Proofs.Ytdpdmjjpdebpeaa.autoSettles
open Go.ChangeShapes Go.WideShapes Go.ChangeAt Go.RowKit
theorem own : ownKnob Try.prog.godebug = none := by kernel_rfl
theorem laidOut : laidOutB Try.prog = true := by kernel_rfl
set_option maxRecDepth 100000 in
theorem lifted (os : Os) (started : os.Started) (H : Type) (enc : TypeId × Value → H) :
    ReturnsInHanded {} Try.checked os 6 .any (Rows.autoSettlesSpec.pre6 enc Try.prog Try.f6 Rows.autoSettlesRow.domain false) (Rows.autoSettlesSpec.post enc Try.prog Try.f6 false true false false) := by
  refine returnsInHanded_of_change_sized (C := Try.checked) own started (by kernel_rfl) Try.func6
    (ChangeSpec.witness6 (enc := enc) (C := Try.checked) false ⟨#[], #[.agg #[.int .i64 0, .int .i64 0, .int .i64 0, .slice none 0 0, .int .i64 0, .int .i64 0, .int .i64 0, .int .i64 0, .int .i64 0, .int .i64 0, .int .i64 0, .int .i64 0, .int .i64 0, .int .i64 0, .int .i64 0, .int .i64 0, .int .i64 0, .int .i64 0, .int .i64 0, .int .i64 0, .int .i64 0, .int .i64 0, .int .i64 0, .int .i64 0, .int .i64 0, .int .i64 0, .int .i64 0, .int .i64 0, .int .i64 0, .int .i64 0, .int .i64 0, .int .i64 0, .int .i64 0, .int .i64 0, .int .i64 0, .bool false, .slice none 0 0, .int .i64 0, .int .i64 0, .int .i64 0, .int .i64 0, .int .i64 0, .int .i64 0, .int .i64 0, .int .i64 0, .int .i64 0, .int .i64 0], .slice none 0 0], []⟩ 8 (by kernel_rfl) (by kernel_rfl) (by kernel_rfl) (by kernel_rfl)) ?_
  intro W base args ds gs before hval0 hW hcnd hsz0 _
  have hval : ∀ (j : Nat) t v, Try.f6.params[j]? = some t → args[j]? = some v → Value.okWide Try.prog W .any base t v := hval0
  have hW' := hW
  obtain ⟨p, q, hA0, hV, rfl, hfz, hnd⟩ := hW
  have hA : DataW.TrodAll enc Try.prog W 0 (fun _ => true) true Try.f6.params.toList args.toList ds p := hA0
  rw [Try.params6] at hA hval
  obtain ⟨v0, vs0, d0, ds0, p0, q0, hargs, rfl, rfl, h0, r0⟩ := trodAll_cons hA
  obtain ⟨v1, vs1, d1, ds1, p1, q1, rfl, rfl, rfl, h1, r1⟩ := trodAll_cons r0
  obtain ⟨rfl, rfl, rfl⟩ := trodAll_nil r1
  obtain rfl : args = #[v0, v1] := by cases args; simp_all
  obtain ⟨rfl, rfl⟩ := trodVars_none hV
  have k0 := h0
  have lt0 : ∀ x ∈ p0, x.block < W.heap.size := by obtain ⟨m, hm⟩ := k0; exact DataW.trod_lt m _ _ _ hm
  obtain ⟨l0, o0⟩ := Go.Proofs.Ytdpdmjjpdebpeaa.Px.arg_of Go.Proofs.Ytdpdmjjpdebpeaa.Px.elsOk (sl := Go.Proofs.Ytdpdmjjpdebpeaa.Px.PxQ.slots) (d := 20) (ks := (Go.Proofs.Ytdpdmjjpdebpeaa.Px.dAuto).sh) (g := true) Try.underlying60 rfl (by kernel_rfl) (hval 0 60 v0 rfl rfl) h0
  have k1 := h1
  have lt1 : ∀ x ∈ p1, x.block < W.heap.size := by obtain ⟨m, hm⟩ := k1; exact DataW.trod_lt m _ _ _ hm
  obtain ⟨l1, o1⟩ := Go.Proofs.Ytdpdmjjpdebpeaa.Px.arg_of Go.Proofs.Ytdpdmjjpdebpeaa.Px.elsOk (sl := Go.Proofs.Ytdpdmjjpdebpeaa.Px.PxQ.slots) (d := 20) (ks := ((Go.Proofs.Ytdpdmjjpdebpeaa.Px.Dat.sl Go.Proofs.Ytdpdmjjpdebpeaa.Px.elsOk (.bool : Go.Proofs.Ytdpdmjjpdebpeaa.Px.El))).sh) (g := false) Try.underlying71 rfl (by kernel_rfl) (hval 1 71 v1 rfl rfl) h1
  refine (Go.Proofs.Ytdpdmjjpdebpeaa.Px.Sig.law (s := Go.Proofs.Ytdpdmjjpdebpeaa.Px.PxQ.s_newellaw23_AutoSettles) Go.Proofs.Ytdpdmjjpdebpeaa.Px.PxQ.p82 (.of Try.func6 (by kernel_rfl) (by kernel_rfl)) trivial (.cons o0 (.cons o1 .nil)) (fun x hx => Go.Proofs.Ytdpdmjjpdebpeaa.Px.PxQ.law_newellaw23_AutoSettles x hx)).mono fun e W' ⟨he, bel⟩ => ?_
  subst he
  exact ⟨_, rfl, _, _, _, [], _, [], hW', trodAll_mk1 (shut_bool Try.underlying4 _), (trodAll_cons_mk (Below.trod laidOut (by kernel_rfl) (of_decide_eq_true (by kernel_rfl)) k0 bel lt0) (trodAll_cons_mk (Below.trod laidOut (by kernel_rfl) (of_decide_eq_true (by kernel_rfl)) k1 bel lt1) trodAll_mk0)), rfl, bel.frame _, fun h => by cases h⟩
theorem over : Rows.autoSettlesRow.holds Try.pinned (OpenSpec.ofChange Rows.autoSettlesSpec) :=
  OpenClaim.holds_of_wide 6 Try.f6 rfl rfl rfl rfl rfl rfl rfl ⟨rfl, rfl, rfl, rfl, rfl⟩ rfl rfl rfl rfl rfl (by kernel_rfl) Try.func6 (by kernel_rfl)
    (of_decide_eq_true (by kernel_rfl)) (by unfold Func.isWrapper; first | (rw [if_pos (by decide +kernel)]; kernel_rfl) | (rw [if_neg (by decide +kernel)]; exact ⟨rfl, rfl⟩))
    (fun os started H enc _ => lifted os started H enc)
end Go.Proofs.Ytdpdmjjpdebpeaa.autoSettles
namespace Go.Proofs.Ytdpdmjjpdebpeaa
theorem autoSettles_holds : Rows.AutoSettlesSaid := autoSettles.over
#print axioms autoSettles_holds
end Go.Proofs.Ytdpdmjjpdebpeaa
