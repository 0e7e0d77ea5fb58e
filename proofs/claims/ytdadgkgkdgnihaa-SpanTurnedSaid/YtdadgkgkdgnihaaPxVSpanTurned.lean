/- The law SpanTurned returns true for every input; its arguments read behind the call as they read before. -/
import Derived.Test.YtdadgkgkdgnihaaRows
import Derived.Test.YtdadgkgkdgnihaaPxVFns
import Derived.WalkKit
import Derived.ProofKit
import Derived.OpenShut
import Derived.ShutString
import Derived.ChangeOld
import Derived.Below
import Derived.SizedLaws
set_option linter.unusedVariables false
set_option linter.unusedSimpArgs false
namespace Go.Proofs.Ytdadgkgkdgnihaa.spanTurned
open Go.ChangeShapes Go.WideShapes Go.ChangeAt Go.RowKit
theorem own:ownKnob Try.prog.godebug=none:=by kernel_rfl
theorem laidOut:laidOutB Try.prog=true:=by kernel_rfl
set_option maxRecDepth 100000 in
theorem lifted (os:Os) (started:os.Started) (H:Type) (enc:TypeId×Value→H):
  ReturnsInHanded {} Try.checked os 8 .any (Rows.spanTurnedSpec.pre6 enc Try.prog Try.f8 Rows.spanTurnedRow.domain false) (Rows.spanTurnedSpec.post enc Try.prog Try.f8 false true false false):=by
 refine returnsInHanded_of_change_sized (C:=Try.checked) own started (by kernel_rfl) Try.func8
  (ChangeSpec.witness6 (enc:=enc) (C:=Try.checked) false ⟨#[], #[.slice none 0 0, .agg #[.int .i64 0, .int .i64 0, .int .i64 0, .int .i64 0]],[]⟩ 8 (by kernel_rfl) (by kernel_rfl) (by kernel_rfl) (by kernel_rfl)) ?_
 intro W base args ds gs before hval0 hW hcnd hsz0 _
 have hval:∀(j:Nat) t v,Try.f8.params[j]?=some t→args[j]?=some v→Value.okWide Try.prog W .any base t v:=hval0
 have hW':=hW
 obtain⟨p,q,hA0,hV,rfl,hfz,hnd⟩:=hW
 have hA:DataW.TrodAll enc Try.prog W 0 (fun _=>true) true Try.f8.params.toList args.toList ds p:=hA0
 rw[Try.params8]at hA hval
 obtain⟨v0,vs0,d0,ds0,p0,q0,hargs,rfl,rfl,h0,r0⟩:=trodAll_cons hA
 obtain⟨v1,vs1,d1,ds1,p1,q1,rfl,rfl,rfl,h1,r1⟩:=trodAll_cons r0
 obtain⟨rfl,rfl,rfl⟩:=trodAll_nil r1
 obtain rfl:args= #[v0,v1]:=by cases args;simp_all
 obtain⟨rfl,rfl⟩:=trodVars_none hV
 have k0:=h0
 have lt0:∀x∈p0,x.block<W.heap.size:=by obtain⟨m,hm⟩:=k0;exact DataW.trod_lt m _ _ _ hm
 obtain⟨l0,o0⟩:=Go.Proofs.Ytdadgkgkdgnihaa.Px.xJ Go.Proofs.Ytdadgkgkdgnihaa.Px.dz (sl:=Go.Proofs.Ytdadgkgkdgnihaa.Px.PxV.zG) (d:=20) (ks:=((Go.Proofs.Ytdadgkgkdgnihaa.Px.Dat.sl Go.Proofs.Ytdadgkgkdgnihaa.Px.dz (.span:Go.Proofs.Ytdadgkgkdgnihaa.Px.El))).sh) (g:=false) Try.underlying22 rfl (by kernel_rfl) (hval 0 22 v0 rfl rfl) h0
 have k1:=h1
 have lt1:∀x∈p1,x.block<W.heap.size:=by obtain⟨m,hm⟩:=k1;exact DataW.trod_lt m _ _ _ hm
 obtain⟨l1,o1⟩:=Go.Proofs.Ytdadgkgkdgnihaa.Px.xJ Go.Proofs.Ytdadgkgkdgnihaa.Px.dz (sl:=Go.Proofs.Ytdadgkgkdgnihaa.Px.PxV.zG) (d:=20) (ks:=((Go.Proofs.Ytdadgkgkdgnihaa.Px.Dat.dd Go.Proofs.Ytdadgkgkdgnihaa.Px.jH)).sh) (g:=true) Try.underlying31 rfl (by kernel_rfl) (hval 1 31 v1 rfl rfl) h1
 refine(Go.Proofs.Ytdadgkgkdgnihaa.Px.Sig.law (s:=Go.Proofs.Ytdadgkgkdgnihaa.Px.PxV.aJ) Go.Proofs.Ytdadgkgkdgnihaa.Px.PxV.p36 (.of Try.func8 (by kernel_rfl) (by kernel_rfl)) trivial (.cons o0 (.cons o1 .nil)) (fun x hx=>Go.Proofs.Ytdadgkgkdgnihaa.Px.PxV.fo x hx)).mono fun e W' ⟨he,bel⟩=>?_
 subst he
 exact⟨_,rfl,_,_,_,[],_,[],hW',trodAll_mk1 (shut_bool Try.underlying4 _),(trodAll_cons_mk (Below.trod laidOut (by kernel_rfl) (of_decide_eq_true (by kernel_rfl)) k0 bel lt0) (trodAll_cons_mk (Below.trod laidOut (by kernel_rfl) (of_decide_eq_true (by kernel_rfl)) k1 bel lt1) trodAll_mk0)),rfl,bel.frame _,fun h=>by cases h⟩
theorem over:Rows.spanTurnedRow.holds Try.pinned (OpenSpec.ofChange Rows.spanTurnedSpec):=
 OpenClaim.holds_of_wide 8 Try.f8 rfl rfl rfl rfl rfl rfl rfl ⟨rfl,rfl,rfl,rfl,rfl⟩ rfl rfl rfl rfl rfl (by kernel_rfl) Try.func8 (by kernel_rfl)
  (of_decide_eq_true (by kernel_rfl)) (by unfold Func.isWrapper;first|(rw[if_pos (by decide+kernel)];kernel_rfl)|(rw[if_neg (by decide+kernel)];exact⟨rfl,rfl⟩))
  (fun os started H enc _=>lifted os started H enc)
end Go.Proofs.Ytdadgkgkdgnihaa.spanTurned
namespace Go.Proofs.Ytdadgkgkdgnihaa
theorem spanTurned_holds:Rows.SpanTurnedSaid:=spanTurned.over
#print axioms spanTurned_holds
end Go.Proofs.Ytdadgkgkdgnihaa
