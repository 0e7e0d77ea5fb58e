/- Who stands behind whom, over edges. -/
import Derived.Test.YtdadgkgkdgnihaaPxDraw
set_option linter.unusedVariables false
set_option linter.unusedSimpArgs false
namespace Go.Proofs.Ytdadgkgkdgnihaa.Px
open Go Go.RowKit
inductive Anc (ops:List Oper):Nat→Nat→Prop where
 |edge {i j:Nat} {o:Oper} (h:ops[i]?=some o) (he:aW o j=true):Anc ops i j
 |step {i k j:Nat} {o:Oper} (h:ops[i]?=some o) (he:aW o k=true) (hk:Anc ops k j):Anc ops i j
theorem pJ {ops:List Oper} {acc:List Nat} {o:Oper} {i j:Nat} (ho:ops[i]?=some o) (hacc:∀k r,acc[k]?=some r→Nat.testBit r j=true→Anc ops k j):
  ∀(l:List Edge),(∀e∈l,e∈o.after.toList)→Nat.testBit (j6 acc l) j=true→Anc ops i j
 | [],_,h=>by simp[j6]at h
 |e::l,hl,h=>by
  have ih:=pJ ho hacc l (fun e he=>hl e (List.mem_cons_of_mem _ he))
  unfold j6 at h
  cases hb:Region.binds .any e with
  |false=>rw[hb,B5]at h;exact ih h
  |true=>
   rw[hb,B4]at h
   have hE:aW o e.on=true:=by
    simp only[aW,List.any_eq_true,B1]
    exact⟨e,hl e (List.mem_cons_self ..),hb,by simp⟩
   have h':Nat.testBit (((1<<<e.on)|||(match nth acc e.on with
    |some r=>r
    |none=>0))|||j6 acc l) j=true:=h
   simp only[Nat.testBit_or,Bool.or_eq_true]at h'
   rcases h' with(h'|h')|h'
   ·have:j=e.on:=by
     rw[Nat.one_shiftLeft,Nat.testBit_two_pow]at h'
     exact(of_decide_eq_true h').symm
    subst this
    exact .edge ho hE
   ·split at h'
    ·rename_i r hr
     rw[ak]at hr
     exact .step ho hE (hacc _ _ hr h')
    ·simp at h'
   ·exact ih h'
theorem oF {ops:List Oper} {j:Nat}:∀(l:List Oper) (acc:List Nat),(∀k o,l[k]?=some o→ops[acc.length+k]?=some o)→(∀k r,acc[k]?=some r→Nat.testBit r j=true→Anc ops k j)→
  ∀k r,(nj l acc)[k]?=some r→Nat.testBit r j=true→Anc ops k j
 | [],acc,_,hacc=>hacc
 |o::l,acc,hl,hacc=>by
  unfold nj
  refine oF l _ (fun k o' hk=>?_) (fun k r hk hb=>?_)
  ·rw[List.length_append,List.length_singleton,Nat.add_assoc,Nat.add_comm 1 k]
   exact hl (k+1) o' (by simpa using hk)
  ·rcases Nat.lt_trichotomy k acc.length with h|h|h
   ·rw[List.getElem?_append_left h]at hk
    exact hacc k r hk hb
   ·subst h
    rw[List.getElem?_append_right (Nat.le_refl _),Nat.sub_self]at hk
    simp only[List.getElem?_cons_zero,B0]at hk
    subst hk
    exact pJ (hl 0 o rfl) hacc _ (fun _ h=>h) hb
   ·rw[List.getElem?_eq_none (by simp;omega)]at hk
    cases hk
theorem fU {ops:List Oper} {i j:Nat} (h:lL (reach ops) i j=true):Anc ops i j:=by
 unfold lL at h
 split at h
 ·rename_i r hr
  rw[ak]at hr
  exact oF ops [] (fun k o hk=>by simpa using hk) (fun k r hk=>by simp at hk) _ _ hr h
 ·cases h
theorem Anc.done {ops:List Oper} {Y:Nat→Prop} (hclosed:∀(k:Nat) (p:Oper),ops[k]?=some p→Y k→∀j,aW p j=true→Y j) {i j:Nat} (h:Anc ops i j):
  (∀o,ops[i]?=some o→∀k,aW o k=true→Y k)→Y j:=by
 induction h with
 |edge h he=>exact fun hr=>hr _ h _ he
 |step h he _ ih=>exact fun hr=>ih (fun o ho k hk=>hclosed _ o ho (hr _ h _ he) k hk)
end Go.Proofs.Ytdadgkgkdgnihaa.Px
