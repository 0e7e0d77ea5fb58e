/- The law TableRows returns true for every input; its arguments read behind the call as they read before. -/
import Derived.Test.YtfhepbbkggdlcaaGreatDoorCards
import Derived.Test.YtfhepbbkggdlcaaGreatDoorTie
import Derived.Test.YtfhepbbkggdlcaaGreatDoorPxLaid
import Derived.Test.YtfhepbbkggdlcaaGreatDoorPxTFns
import Derived.WalkKit
import Derived.ProofKit
import Derived.OpenShut
import Derived.ShutString
import Derived.ChangeOld
import Derived.Below
import Derived.SizedLaws
import Derived.Deep.DeepHandedRow
import Derived.Lib.LaidTab
set_option linter.unusedVariables false
set_option linter.unusedSimpArgs false
namespace Go.Proofs.YtfhepbbkggdlcaaGreatDoor.tableRows
open Go.ChangeShapes Go.WideShapes Go.ChangeAt Go.RowKit
theorem own:ownKnob Tryz.prog.godebug=none:=by kernel_rfl
theorem laidOut:laidOutB Tryz.prog=true:=by kernel_rfl
def zargs:Array Value:= #[Value.agg #[.int .i64 0, .int .i64 0, .int .i64 0, .slice none 0 0, .int .i64 0, .int .i64 0, .int .i64 0, .int .i64 0, .int .i64 0, .int .i64 0, .int .i64 0, .int .i64 0, .int .i64 0, .int .i64 0, .int .i64 0, .int .i64 0, .int .i64 0, .int .i64 0, .int .i64 0, .int .i64 0, .int .i64 0, .int .i64 0, .int .i64 0, .int .i64 0, .int .i64 0, .int .i64 0, .int .i64 0, .int .i64 0, .int .i64 0, .int .i64 0, .int .i64 0, .int .i64 0, .int .i64 0, .int .i64 0, .int .i64 0, .bool false, .slice none 0 0],Value.int .i64 0,Value.int .i64 0]
theorem gTab:Tryz.prog.globalNamed "newel/greg.lengths" =some 0:=by kernel_rfl
theorem gTabType:(Tryz.prog.globals[0]?).map (·.type)=some 29:=by kernel_rfl
theorem cellsT:Tryz.prog.cellsOf 29=12:=by kernel_rfl
theorem cellsE:Tryz.prog.cellsOf 3=1:=by kernel_rfl
theorem table {W:World} (h:laidMetH Tryz.prog Rows.tableRowsRow.laid W):Lib.TabIs Tryz.prog W "newel/greg.lengths" .i64 [31,28,31,30,31,30,31,31,30,31,30,31]:=
 Lib.tabIs_of_head (rest:=[]) gTab gTabType Tryz.underlying29 Tryz.underlying3 cellsE cellsT h
theorem globs {W:World} (h:laidMetH Tryz.prog Rows.tableRowsRow.laid W):Go.Proofs.YtfhepbbkggdlcaaGreatDoor.Px.ar Go.Proofs.YtfhepbbkggdlcaaGreatDoor.Px.PxT.gl W:=
 Go.Proofs.YtfhepbbkggdlcaaGreatDoor.Px.OG (zs:=[31,28,31,30,31,30,31,31,30,31,30,31]) (by decide) (fun i hi=>(table h).cell gTab i hi)
noncomputable def laidWorld (os:Os):World:=
 {World.holding Tryz.prog os ⟨#[], #[],[]⟩with heap:=(World.holding Tryz.prog os ⟨#[], #[],[]⟩).heap.modify 0 fun
   | .cells _ t frozen=> .cells #[.int .i64 31, .int .i64 28, .int .i64 31, .int .i64 30, .int .i64 31, .int .i64 30, .int .i64 31, .int .i64 31, .int .i64 30, .int .i64 31, .int .i64 30, .int .i64 31] t frozen
   |o=>o}
theorem laid_met (os:Os):laidMet Tryz.prog Rows.tableRowsRow.laid ((laidWorld os).forCall (fun _ _=>0) ⟨#[],zargs,[]⟩).memory:=
 laidMet_of_run' 8 (by kernel_rfl) (by kernel_rfl)
theorem reads (os:Os) {H:Type} (enc:TypeId×Value→H):∃places,DataW.whole enc Tryz.prog ((laidWorld os).forCall (fun _ _=>0) ⟨#[],zargs,[]⟩).memory Tryz.f3.params.toList Rows.tableRowsSpec.vars false zargs.toList 8=some ([.agg [.lit (.int .i64 0), .lit (.int .i64 0), .lit (.int .i64 0), .nil, .agg [.lit (.int .i64 0), .lit (.int .i64 0), .lit (.int .i64 0), .lit (.int .i64 0), .lit (.int .i64 0), .lit (.int .i64 0), .lit (.int .i64 0)], .lit (.int .i64 0), .lit (.int .i64 0), .agg [.lit (.int .i64 0), .lit (.int .i64 0), .agg [.lit (.int .i64 0), .lit (.int .i64 0), .lit (.int .i64 0), .lit (.int .i64 0)], .agg [.lit (.int .i64 0), .lit (.int .i64 0), .lit (.int .i64 0), .lit (.int .i64 0)]], .agg [.lit (.int .i64 0), .lit (.int .i64 0), .lit (.int .i64 0), .lit (.int .i64 0), .lit (.int .i64 0), .lit (.int .i64 0), .lit (.int .i64 0), .lit (.int .i64 0), .lit (.int .i64 0), .lit (.int .i64 0), .lit (.int .i64 0), .lit (.int .i64 0)], .lit (.bool false), .nil], .lit (.int .i64 0), .lit (.int .i64 0)],[],places):=
 ⟨[],by kernel_rfl⟩
set_option maxRecDepth 100000 in
theorem contract (H:Type) (enc:TypeId×Value→H) (W:World) (base:Nat) (args:Array Value) (ds gs:List (DataW H)) (before:List MemPlace)
  (hval0:∀(j:Nat) t v,Tryz.f3.params[j]?=some t→args[j]?=some v→Value.okWide Tryz.prog W .any base t v)
  (hW:DataW.Whole enc Tryz.prog Tryz.f3.params.toList Rows.tableRowsSpec.vars false W args.toList ds gs before) (hL:laidMetH Tryz.prog Rows.tableRowsRow.laid W):
  Calls Tryz.prog 3 args W fun e W'=>∃v,e= .returned v∧Rows.tableRowsSpec.post enc Tryz.prog Tryz.f3 false true false false W args v W':=by
 have hval:∀(j:Nat) t v,Tryz.f3.params[j]?=some t→args[j]?=some v→Value.okWide Tryz.prog W .any base t v:=hval0
 have hW':=hW
 obtain⟨p,q,hA0,hV,rfl,hfz,hnd⟩:=hW
 have hA:DataW.TrodAll enc Tryz.prog W 0 (fun _=>true) true Tryz.f3.params.toList args.toList ds p:=hA0
 rw[Tryz.params3]at hA hval
 obtain⟨v0,vs0,d0,ds0,p0,q0,hargs,rfl,rfl,h0,r0⟩:=trodAll_cons hA
 obtain⟨v1,vs1,d1,ds1,p1,q1,rfl,rfl,rfl,h1,r1⟩:=trodAll_cons r0
 obtain⟨v2,vs2,d2,ds2,p2,q2,rfl,rfl,rfl,h2,r2⟩:=trodAll_cons r1
 obtain⟨rfl,rfl,rfl⟩:=trodAll_nil r2
 obtain rfl:args= #[v0,v1,v2]:=by cases args;simp_all
 obtain⟨rfl,rfl⟩:=trodVars_none hV
 have k0:=h0
 have lt0:∀x∈p0,x.block<W.heap.size:=by obtain⟨m,hm⟩:=k0;exact DataW.trod_lt m _ _ _ hm
 obtain⟨l0,o0⟩:=Go.Proofs.YtfhepbbkggdlcaaGreatDoor.Px.Lh Go.Proofs.YtfhepbbkggdlcaaGreatDoor.Px.jc (sl:=Go.Proofs.YtfhepbbkggdlcaaGreatDoor.Px.PxT.Rj) (d:=20) (ks:=(Go.Proofs.YtfhepbbkggdlcaaGreatDoor.Px.bF).sh) (g:=true) Tryz.underlying33 rfl (by kernel_rfl) (hval 0 33 v0 rfl rfl) h0
 have k1:=h1
 have lt1:∀x∈p1,x.block<W.heap.size:=by obtain⟨m,hm⟩:=k1;exact DataW.trod_lt m _ _ _ hm
 obtain⟨l1,o1⟩:=Go.Proofs.YtfhepbbkggdlcaaGreatDoor.Px.Lh Go.Proofs.YtfhepbbkggdlcaaGreatDoor.Px.jc (sl:=Go.Proofs.YtfhepbbkggdlcaaGreatDoor.Px.PxT.Rj) (d:=20) (ks:=((Go.Proofs.YtfhepbbkggdlcaaGreatDoor.Px.Dat.ah (Go.Proofs.YtfhepbbkggdlcaaGreatDoor.Px.Cel.int .i64))).sh) (g:=false) Tryz.underlying3 rfl (by kernel_rfl) (hval 1 3 v1 rfl rfl) h1
 have k2:=h2
 have lt2:∀x∈p2,x.block<W.heap.size:=by obtain⟨m,hm⟩:=k2;exact DataW.trod_lt m _ _ _ hm
 obtain⟨l2,o2⟩:=Go.Proofs.YtfhepbbkggdlcaaGreatDoor.Px.Lh Go.Proofs.YtfhepbbkggdlcaaGreatDoor.Px.jc (sl:=Go.Proofs.YtfhepbbkggdlcaaGreatDoor.Px.PxT.Rj) (d:=20) (ks:=((Go.Proofs.YtfhepbbkggdlcaaGreatDoor.Px.Dat.ah (Go.Proofs.YtfhepbbkggdlcaaGreatDoor.Px.Cel.int .i64))).sh) (g:=false) Tryz.underlying3 rfl (by kernel_rfl) (hval 2 3 v2 rfl rfl) h2
 refine(Go.Proofs.YtfhepbbkggdlcaaGreatDoor.Px.Sig.law (s:=Go.Proofs.YtfhepbbkggdlcaaGreatDoor.Px.PxT.cj) Go.Proofs.YtfhepbbkggdlcaaGreatDoor.Px.PxT.Xa (.of Tryz.func3 (by kernel_rfl) (by kernel_rfl)) (globs hL) (.cons o0 (.cons o1 (.cons o2 .nil))) (fun x hx=>Go.Proofs.YtfhepbbkggdlcaaGreatDoor.Px.PxT.nx x hx)).mono fun e W' ⟨he,bel⟩=>?_
 subst he
 exact⟨_,rfl,_,_,_,[],_,[],hW',trodAll_mk1 (shut_bool Tryz.underlying4 _),(trodAll_cons_mk (Below.trod laidOut (by kernel_rfl) (of_decide_eq_true (by kernel_rfl)) k0 bel lt0) (trodAll_cons_mk (Below.trod laidOut (by kernel_rfl) (of_decide_eq_true (by kernel_rfl)) k1 bel lt1) (trodAll_cons_mk (Below.trod laidOut (by kernel_rfl) (of_decide_eq_true (by kernel_rfl)) k2 bel lt2) trodAll_mk0))),rfl,bel.frame _,fun h=>by cases h⟩
set_option maxRecDepth 100000 in
theorem lifted (os:Os) (started:os.Started) (H:Type) (enc:TypeId×Value→H) (F:Stop.Interp):
  ReturnsInHanded {} Tryz.checked os 3 .any ((OpenSpec.ofChange Rows.tableRowsSpec).preRow enc Tryz.prog Tryz.f3 Rows.tableRowsRow.domain false Rows.tableRowsRow.laid) (((OpenSpec.ofChange Rows.tableRowsSpec).at F).post enc Tryz.prog Tryz.f3 false true false false):=by
 obtain⟨places,hx⟩:=reads os enc
 refine returnsInHanded_of_row (C:=Tryz.checked) (s:=OpenSpec.ofChange Rows.tableRowsSpec) own started (by kernel_rfl) Tryz.func3
  (witness_row_at (enc:=enc) (C:=Tryz.checked) false (laidWorld os) zargs rfl (by kernel_rfl) (by kernel_rfl) (by kernel_rfl)
   (OpenSpec.preRow_of_cond 8 hx (by kernel_rfl) (fun k hk=>by cases hk) (by kernel_rfl) (laid_met os))) ?_
 intro W base args ds gs before hval hW _ _ _ hL _ _
 exact contract H enc W base args ds gs before hval hW hL
theorem over:Rows.tableRowsRow.holds Tryz.pinned (OpenSpec.ofChange Rows.tableRowsSpec):=
 OpenClaim.holds_of_cond 3 Tryz.f3 rfl rfl rfl rfl rfl rfl rfl ⟨rfl,rfl,rfl,rfl,rfl⟩ rfl rfl rfl rfl rfl (by kernel_rfl) Tryz.func3 (by kernel_rfl)
  (of_decide_eq_true (by kernel_rfl)) (by unfold Func.isWrapper;first|(rw[if_pos (by decide+kernel)];kernel_rfl)|(rw[if_neg (by decide+kernel)];exact⟨rfl,rfl⟩))
  (fun os started H enc _ F=>by rw[OpenClaim.pre_eq_preRow];exact lifted os started H enc F)
theorem plain (f:FuncId) (fn:Func) (hf:Tryz.pinned.checked.prog.funcNamed "newel/newellaw15.TableRows" =some f) (hfn:Tryz.pinned.checked.prog.funcs[f]?=some fn):
  false=Tryz.pinned.checked.prog.looks []∧∀(j:Nat) t,fn.params[j]?=some t→Tryz.pinned.checked.prog.wantsStandIn t=false:=by
 obtain rfl:f=3:=Option.some.inj ((show Tryz.prog.funcNamed "newel/newellaw15.TableRows" =some 3 by kernel_rfl).symm.trans hf) |>.symm
 obtain rfl:fn=Tryz.f3:=(Option.some.inj (Tryz.func3.symm.trans hfn)).symm
 refine⟨by kernel_rfl,fun j t ht=>?_⟩
 have ha:Tryz.f3.params.toList.all (fun t=> !Tryz.prog.wantsStandIn t)=true:=by kernel_rfl
 have:=List.all_eq_true.1 ha t (Array.mem_toList_iff.2 (Array.mem_of_getElem? ht))
 have hb:Tryz.prog.wantsStandIn t=false:=by simpa using this
 exact hb
theorem card:Rows.TableRowsCardSaid:=
 Claim7.holds_tied_plain_at .later [] _ _ _ _ over (fun _ h=>by cases h) (by kernel_rfl) (fun _ h=>by cases h) tableRows_row_tie rfl ⟨rfl,rfl⟩ (by kernel_rfl) rfl plain (by kernel_rfl)
end Go.Proofs.YtfhepbbkggdlcaaGreatDoor.tableRows
namespace Go.Proofs.YtfhepbbkggdlcaaGreatDoor
theorem tableRows_holds:Rows.TableRowsCardSaid:=tableRows.card
#print axioms tableRows_holds
end Go.Proofs.YtfhepbbkggdlcaaGreatDoor
