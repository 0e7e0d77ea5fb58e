/- A region that draws its order, by what holds of whatever has been carried out. -/
import Derived.Test.YtfhepbbkggdlcaaGreatDoorPxDraw
set_option linter.unusedVariables false
set_option linter.unusedSimpArgs false
namespace Go.Proofs.YtfhepbbkggdlcaaGreatDoor.Px
open Go
def Mx (ops:Array Oper):Bool:=(idx 0 ops.toList).all fun io=>and (ung io.2) (io.2.after.toList.all fun e=>or (not (Region.binds .any e)) (Nat.blt e.on io.1))
theorem ID {ops:Array Oper} (h:Mx ops=true) {i:Nat} {o:Oper} (ho:ops[i]?=some o):o.guard=none∧∀e∈o.after,Region.binds .any e=true→e.on<i:=by
 have hm:(i,o)∈idx 0 ops.toList:=by
  have:=fZ ops.toList 0 i o (by simpa using ho)
  rwa[Nat.zero_add]at this
 have hx:=List.all_eq_true.1 h (i,o) hm
 simp only[XR,List.all_eq_true,Bool.or_eq_true,Bool.not_eq_true',Nat.blt_eq]at hx
 refine⟨?_,fun e he hb=>?_⟩
 ·have:=hx.1
  unfold ung at this
  split at this
  ·assumption
  ·cases this
 ·rcases hx.2 e (by simpa using he)with h|h
  ·rw[hb]at h;cases h
  ·exact h
theorem Mf {P:Program} {ops:Array Oper} {Q:Exit→Act→World→Prop} (Inv:Array Bool→Act→World→Prop) (hlex:Mx ops=true)
  (step:∀(i:Nat) (o:Oper) (listed:Array Bool) (a:Act) (w:World),ops[i]?=some o→listed.size=ops.size→listed.getD i false=false→
   (∀e∈o.after,Region.binds .any e=true→listed.getD e.on false=true)→Inv listed a w→o.wp P a w (fun a' w'=>Inv (listed.setIfInBounds i true) a' w') Q)
  (fin:∀(listed:Array Bool) (a:Act) (w:World),(∀k,k<ops.size→listed.getD k false=true)→Inv listed a w→Q .normal a w):
  ∀(fuel:Nat) (listed:Array Bool) (a:Act) (w:World),listed.size=ops.size→unl ops.size listed≤fuel→Inv listed a w→wpAny P .any ops Q fuel listed a w:=by
 intro fuel
 have done:∀(listed:Array Bool) (a:Act) (w:World),listed.size=ops.size→Inv listed a w→Region.ready .any ops listed=[]→Q .normal a w:=by
  intro listed a w hsz ha hrd
  refine fin listed a w (fun k=>?_) ha
  induction k using Nat.strongRecOn with
  |_ k ih=>
   intro hkl
   cases hg:listed.getD k false with
   |true=>rfl
   |false=>
    exfalso
    have hmem:k∈Region.ready .any ops listed:=by
     refine mem_ready.2 ⟨?_,ops[k],Array.getElem?_eq_getElem hkl,fun e he hb=>?_⟩
     ·rw[Array.getD_eq_getD_getElem?,Array.getElem?_eq_getElem (by rw[hsz];exact hkl)]at hg⊢
      exact hg
     ·have:=(ID hlex (Array.getElem?_eq_getElem hkl)).2 e he hb
      exact ih e.on this (by omega)
    rw[hrd]at hmem
    cases hmem
 induction fuel with
 |zero=>
  intro listed a w hsz hu ha
  have hrd:Region.ready .any ops listed=[]:=by
   rw[List.eq_nil_iff_forall_not_mem]
   intro i hi
   obtain⟨h1,o,ho,_⟩:=mem_ready.1 hi
   have hlt:i<ops.size:=(Array.getElem?_eq_some_iff.1 ho).1
   have h1':listed.getD i false=false:=by
    rw[Array.getD_eq_getD_getElem?,Array.getElem?_eq_getElem (by rw[hsz];exact hlt)]at h1⊢
    exact h1
   have:=jQ hsz hlt h1'
   omega
  exact⟨hrd,done listed a w hsz ha hrd⟩
 |succ fuel ih=>
  intro listed a w hsz hu ha
  refine⟨fun hrd=>done listed a w hsz ha hrd,fun i hi=>?_⟩
  obtain⟨h1,o,ho,cg⟩:=mem_ready.1 hi
  have hlt:i<ops.size:=(Array.getElem?_eq_some_iff.1 ho).1
  have h1':listed.getD i false=false:=by
   rw[Array.getD_eq_getD_getElem?,Array.getElem?_eq_getElem (by rw[hsz];exact hlt)]at h1⊢
   exact h1
  unfold wpOp
  simp only[ho]
  rw[if_pos (by simp[Region.wanted,(ID hlex ho).1])]
  refine .inl (Oper.wp_mono (fun a' w' hx=>?_) (step i o listed a w ho hsz h1' (fun e he hb=>cg e he hb) ha))
  exact ih _ a' w' (by simpa using hsz) (by have:=jQ hsz hlt h1';omega) hx
theorem Gj {n i k:Nat} {listed:Array Bool} (hs:listed.size=n) (hi:i<n):(listed.setIfInBounds i true).getD k false=true↔(listed.getD k false=true∨k=i):=by
 by_cases e:k=i
 ·subst e
  rw[Array.getD_eq_getD_getElem?,Array.getElem?_setIfInBounds_self_of_lt (by rw[hs];exact hi)]
  simp
 ·rw[Array.getD_eq_getD_getElem?,Array.getElem?_setIfInBounds_ne (fun h=>e h.symm),←Array.getD_eq_getD_getElem?]
  simp[e]
theorem bT {a:Act} {d t:Nat} {v:Value} (hd:d<a.tmps.size):(a.put (some d) v).tmps.getD t undef=if t=d then v else a.tmps.getD t undef:=by
 simp only[Act.put]
 by_cases e:t=d
 ·subst e
  rw[if_pos rfl,Array.getD_eq_getD_getElem?,Array.getElem?_setIfInBounds_self_of_lt hd]
  rfl
 ·rw[if_neg e,Array.getD_eq_getD_getElem?,Array.getD_eq_getD_getElem?,Array.getElem?_setIfInBounds_ne (fun h=>e h.symm)]
theorem bI {a:Act} {o:Option Nat} {v:Value}:(a.put o v).tmps.size=a.tmps.size:=by
 cases o<;>simp[Act.put]
theorem JA {ev:Operand→Value} {o:Oper} {P:Program} {w w':World} {t:TypeId} {m k x:Operand} (h:o.op= .insert t m k x) (hr:(Instr.mapUpdate t (ev m) (ev k) (ev x)).run P w= .ok () w'):(execOp ev o).run P w= .ok .skip w':=by
 obtain⟨dst,op,ty,pos,after,gd⟩:=o
 simp only at h
 subst h
 simp only[execOp,Sem.run_bind,hr,Result.andThen_ok,Sem.run_pure]
theorem Jq {ev:Operand→Value} {o:Oper} {P:Program} {w w':World} {t:TypeId} {x ix:Operand} {ok:Bool} {v:Value} (h:o.op= .lookup t x ix ok) (hr:(Instr.lookup t (ev x) (ev ix) ok).run P w= .ok v w'):(execOp ev o).run P w= .ok (.value v) w':=by
 obtain⟨dst,op,ty,pos,after,gd⟩:=o
 simp only at h
 subst h
 simp only[execOp,Sem.run_bind,hr,Result.andThen_ok,Sem.run_pure]
end Go.Proofs.YtfhepbbkggdlcaaGreatDoor.Px
