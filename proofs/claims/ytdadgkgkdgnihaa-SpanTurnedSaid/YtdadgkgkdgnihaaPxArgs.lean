/- A law's arguments, as the evaluator takes them. -/
import Derived.Test.YtdadgkgkdgnihaaPxKind
import Derived.ProofKit
import Derived.OpenShut
import Derived.Deep.Slices
set_option linter.unusedVariables false
set_option linter.unusedSimpArgs false
namespace Go.Proofs.Ytdadgkgkdgnihaa.Px
open Go Go.RowKit Go.ChangeShapes Go.WideShapes Go.Deep
section
variable [X:aS]
inductive LS where
 |int (k:IntKind)
 |bool
 |sl (el:X.El)
inductive DV where
 |int (k:IntKind) (n:Int)
 |bool (b:Bool)
 |sl (el:X.El) (xs:List (X.den el))
def dM:AV→Bool
 | .int k n=>(Lit.int k n).wf
 |_=>true
def LS.kinds:List (Option IntKind)→List (LS (X:=X))
 | []=>[]
 |some k::l=> .int k::LS.kinds l
 |none::l=> .bool::LS.kinds l
def fl:List (LS (X:=X))→List (LS (X:=X))→Bool
 | [],[]=>true
 | .int k::l, .int k'::m=>and (kEq k k') (fl l m)
 | .bool::l, .bool::m=>fl l m
 | .sl e::l, .sl e'::m=>and (decide (e=e')) (fl l m)
 |_,_=>false
theorem je:∀{l m:List (LS (X:=X))},fl l m=true→l=m
 | [],[],_=>rfl
 | .int k::l, .int k'::m,h=>by
  simp only[fl,B1]at h
  rw[bp h.1,je h.2]
 | .bool::l, .bool::m,h=>by simp only[fl]at h;rw[je h]
 | .sl e::l, .sl e'::m,h=>by
  simp only[fl,B1,B3]at h
  rw[h.1,je h.2]
 | [], .int _::_,h=>by simp[fl]at h
 | [], .bool::_,h=>by simp[fl]at h
 | [], .sl _::_,h=>by simp[fl]at h
 | .int _::_,[],h=>by simp[fl]at h
 | .bool::_,[],h=>by simp[fl]at h
 | .sl _::_,[],h=>by simp[fl]at h
 | .int _::_, .bool::_,h=>by simp[fl]at h
 | .int _::_, .sl _::_,h=>by simp[fl]at h
 | .bool::_, .int _::_,h=>by simp[fl]at h
 | .bool::_, .sl _::_,h=>by simp[fl]at h
 | .sl _::_, .int _::_,h=>by simp[fl]at h
 | .sl _::_, .bool::_,h=>by simp[fl]at h
def oJ (P:Program) (rec:TypeId→Option (List (LS (X:=X)))):List Field→Nat→Option (List (LS (X:=X)))
 | [],_=>some []
 |f::fs,o=>match Nat.beq f.offset o,rec f.type with
  |true,some ks=>cond (Nat.beq (P.cellsOf f.type) ks.length) (match oJ P rec fs (o+ks.length)with
   |some l=>some (ks++l)
   |none=>none) none
  |_,_=>none
def z7 {α:Type}:Nat→List α→List α
 |0,_=>[]
 |n+1,l=>l++z7 n l
def cZ (P:Program) (sl:List (Nat×X.El)):Nat→TypeId→Option (List (LS (X:=X)))
 |0,_=>none
 |d+1,t=>match P.underlying t with
  |some (.int k)=>some [.int k]
  |some .bool=>some [.bool]
  |some (.struct fs)=>match oJ P (cZ P sl d) fs.toList 0 with
   |some ks=>cond (Nat.beq (P.cellsOf t) ks.length) (some ks) none
   |none=>none
  |some (.array n e)=>match cZ P sl d e with
   |some ks=>cond (and (Nat.beq (P.cellsOf e) ks.length) (Nat.beq (P.cellsOf t) (n*ks.length))) (some (z7 n ks)) none
   |none=>none
  |some (.slice e)=>match look sl t with
   |some el=>match cZ P sl d e with
    |some ks=>cond (and (fl ks (LS.kinds (X.kinds el))) (and (Nat.beq (P.cellsOf e) ks.length) (and (Nat.beq (X.width el) ks.length) (Nat.ble 1 ks.length)))) (some [.sl el]) none
    |none=>none
   |none=>none
  |_=>none
def A7 (w:World) (el:X.El) (xs:List (X.den el)) (v:Value):Prop:=
 (∃base cap,v= .slice base 0 cap∧xs=[])∨∃(a:Addr) (cap:Nat),v= .slice (some ⟨a.block,a.off,none⟩) xs.length cap∧xs.length≤cap∧cap≤maxLen∧a.block<w.heap.size∧∃ys,ab [] (rows el xs)=some ys∧∀(j:Nat) (y:Value),ys[j]?=some y→w.cell? ⟨a.block,a.off+j,none⟩=some y
def vr (w:World):LS (X:=X)→DV (X:=X)→Value→Prop
 | .int k,d,v=>∃n,d= .int k n∧v= .int k n∧(Lit.int k n).wf=true
 | .bool,d,v=>∃b,d= .bool b∧v= .bool b
 | .sl el,d,v=>∃xs,d= .sl el xs∧A7 w el xs v∧xs.length≤maxLen∧∀x∈xs,(X.enc el x).all dM=true
inductive Leaves (w:World):List (LS (X:=X))→List (DV (X:=X))→List Value→Prop where
 |nil:Leaves w [] [] []
 |cons {k:LS (X:=X)} {d:DV (X:=X)} {v:Value} {ks:List (LS (X:=X))} {ds:List (DV (X:=X))} {vs:List Value} (h:vr w k d v) (t:Leaves w ks ds vs):Leaves w (k::ks) (d::ds) (v::vs)
theorem Leaves.append {w:World} {ks ks':List (LS (X:=X))} {ds ds':List (DV (X:=X))} {vs vs':List Value} (h:Leaves w ks ds vs) (h':Leaves w ks' ds' vs'):Leaves w (ks++ks') (ds++ds') (vs++vs'):=by
 induction h with
 |nil=>exact h'
 |cons h _ ih=>exact .cons h ih
theorem Leaves.len {w:World} {ks:List (LS (X:=X))} {ds:List (DV (X:=X))} {vs:List Value} (h:Leaves w ks ds vs):vs.length=ks.length:=by
 induction h with
 |nil=>rfl
 |cons _ _ ih=>simp[ih]
theorem Leaves.cells {w:World}:∀{ks:List (Option IntKind)} {ds:List (DV (X:=X))} {vs:List Value},Leaves w (LS.kinds ks) ds vs→∃cs,ab [] cs=some vs∧av ks cs=true∧cs.all dM=true
 | [],ds,vs,h=>by cases h;exact⟨[],rfl,rfl,rfl⟩
 |some k::ks,ds,vs,h=>by
  cases h with
  |cons h t=>
   obtain⟨n,rfl,rfl,hw⟩:=h
   obtain⟨cs,h1,h2,h3⟩:=Leaves.cells t
   refine⟨.int k n::cs,aa.2 ⟨_,_,rfl,h1,rfl⟩,?_,by simp only[List.all_cons,dM,hw,Bool.true_and];exact h3⟩
   have:kEq k k=true:=by cases k<;>rfl
   simp only[av,this,h2,Bool.and_self]
 |none::ks,ds,vs,h=>by
  cases h with
  |cons h t=>
   obtain⟨b,rfl,rfl⟩:=h
   obtain⟨cs,h1,h2,h3⟩:=Leaves.cells t
   exact⟨.bool b::cs,aa.2 ⟨_,_,rfl,h1,rfl⟩,h2,by simp only[List.all_cons,dM,Bool.true_and];exact h3⟩
variable {H:Type} {enc:TypeId×Value→H} {P:Program} {w:World} {base:Nat} {spare:Nat→Bool} {held:Bool}
theorem ot {rec:TypeId→Option (List (LS (X:=X)))} {m:Nat} {cs:List Value} (hrec:∀t ks cs x,rec t=some ks→DataW.trod enc P w base spare held m t cs=some x→∃ds,Leaves w ks ds cs):
  ∀(fs:List Field) (o:Nat) (ks:List (LS (X:=X))),oJ P rec fs o=some ks→(∀f∈fs,∃x,DataW.trod enc P w base spare held m f.type ((cs.drop f.offset).take (P.cellsOf f.type))=some x)→o+ks.length=cs.length→∃ds,Leaves w ks ds (cs.drop o)
 | [],o,ks,h,_,hl=>by
  simp only[oJ,B0]at h
  subst h
  refine⟨[],?_⟩
  rw[List.drop_eq_nil_of_le (by simp at hl;omega)]
  exact .nil
 |f::fs,o,ks,h,hf,hl=>by
  simp only[oJ]at h
  split at h
  ·rename_i ks1 ho hr
   cases hc:Nat.beq (P.cellsOf f.type) ks1.length with
   |false=>rw[hc]at h;cases h
   |true=>
    rw[hc,B4]at h
    split at h
    ·rename_i l hl2
     simp only[B0]at h
     subst h
     obtain⟨x,hx⟩:=hf f (List.mem_cons_self ..)
     rw[B2 ho,B2 hc]at hx
     obtain⟨ds1,h1⟩:=hrec f.type ks1 _ x hr hx
     obtain⟨ds2,h2⟩:=ot hrec fs (o+ks1.length) l hl2 (fun f hf'=>hf f (List.mem_cons_of_mem _ hf')) (by simp at hl;omega)
     refine⟨ds1++ds2,?_⟩
     have:cs.drop o=(cs.drop o).take ks1.length++cs.drop (o+ks1.length):=by
      rw[←List.drop_drop];exact(List.take_append_drop _ _).symm
     rw[this]
     exact h1.append h2
    ·cases h
  ·cases h
theorem pG {ks:List (LS (X:=X))} {cs:List Value} (h:∀(n i:Nat),(∀j,i≤j→j<i+n→∃ds,Leaves w ks ds ((cs.drop (j*ks.length)).take ks.length))→(i+n)*ks.length=cs.length→True):∀(n i:Nat),(∀j,i≤j→j<i+n→∃ds,Leaves w ks ds ((cs.drop (j*ks.length)).take ks.length))→(i+n)*ks.length=cs.length→∃ds,Leaves w (z7 n ks) ds (cs.drop (i*ks.length))
 |0,i,_,hl=>⟨[],by rw[List.drop_eq_nil_of_le (by simp at hl;omega)];exact .nil⟩
 |n+1,i,hj,hl=>by
  obtain⟨d1,h1⟩:=hj i (Nat.le_refl _) (by omega)
  obtain⟨d2,h2⟩:=pG h n (i+1) (fun j a b=>hj j (by omega) (by omega)) (by rw[←hl];congr 1;omega)
  refine⟨d1++d2,?_⟩
  have:cs.drop (i*ks.length)=(cs.drop (i*ks.length)).take ks.length++cs.drop ((i+1)*ks.length):=by
   rw[show(i+1)*ks.length=i*ks.length+ks.length by rw[Nat.add_mul,Nat.one_mul],←List.drop_drop]
   exact(List.take_append_drop _ _).symm
  rw[this]
  exact h1.append h2
theorem gD (hX:bd X) {sl:List (Nat×X.El)}:∀(d:Nat) (t:TypeId) (ks:List (LS (X:=X))) (n:Nat) (cs:List Value) (x:DataW H×List MemPlace),cZ P sl d t=some ks→DataW.trod enc P w base spare held n t cs=some x→∃ds,Leaves w ks ds cs
 |0,t,ks,n,cs,x,h,_=>by simp[cZ]at h
 |d+1,t,ks,n,cs,x,h,hx=>by
  simp only[cZ]at h
  split at h
  ·rename_i k hu
   simp only[B0]at h
   subst h
   obtain⟨m,rfl,_,hw⟩:=DataW.trod_int hu hx
   exact⟨[.int k m], .cons ⟨m,rfl,rfl,hw⟩ .nil⟩
  ·rename_i hu
   simp only[B0]at h
   subst h
   obtain⟨b,rfl,_⟩:=DataW.trod_bool hu hx
   exact⟨[.bool b], .cons ⟨b,rfl,rfl⟩ .nil⟩
  ·rename_i fs hu
   split at h
   ·rename_i ks' hks
    cases hc:Nat.beq (P.cellsOf t) ks'.length with
    |false=>rw[hc]at h;cases h
    |true=>
     rw[hc,B4]at h
     simp only[B0]at h
     subst h
     obtain⟨xs,m,rfl,_,hl,hlen,hf⟩:=DataW.trod_struct hu hx
     have:=ot (w:=w) (cs:=cs) (fun t ks cs x h1 h2=>gD hX d t ks m cs x h1 h2) fs.toList 0 ks' hks (fun f hfm=>by
      obtain⟨i,hi⟩:=List.mem_iff_getElem?.1 hfm
      have hi':fs[i]?=some f:=by simpa using hi
      have hlt:i<xs.length:=by rw[hlen];exact(Array.getElem?_eq_some_iff.1 hi').1
      exact⟨xs[i],by rw[hf i f hi'];exact List.getElem?_eq_getElem hlt⟩) (by rw[Nat.zero_add,hl];exact(B2 hc).symm)
     simpa using this
   ·cases h
  ·rename_i m e hu
   split at h
   ·rename_i ks' hks
    cases hc:and (Nat.beq (P.cellsOf e) ks'.length) (Nat.beq (P.cellsOf t) (m*ks'.length))with
    |false=>rw[hc]at h;cases h
    |true=>
     rw[hc,B4]at h
     simp only[B0]at h
     subst h
     simp only[B1]at hc
     obtain⟨xs,n',rfl,_,hl,hlen,hf⟩:=DataW.trod_array hu hx
     have he:=B2 hc.1
     have:=pG (w:=w) (ks:=ks') (cs:=cs) (fun _ _ _ _=>trivial) m 0 (fun j _ hj=>by
      have hj':j<m:=by omega
      have:=hf j hj'
      rw[he]at this
      exact gD hX d e ks' n' _ xs[j] hks (by rw[this];exact List.getElem?_eq_getElem (by omega))) (by rw[Nat.zero_add,hl];exact(B2 hc.2).symm)
     simpa using this
   ·cases h
  ·rename_i e hu
   split at h
   ·rename_i el hel
    split at h
    ·rename_i ks' hks
     cases hc:and (fl ks' (LS.kinds (X.kinds el))) (and (Nat.beq (P.cellsOf e) ks'.length) (and (Nat.beq (X.width el) ks'.length) (Nat.ble 1 ks'.length)))with
     |false=>rw[hc]at h;cases h
     |true=>
      rw[hc,B4]at h
      simp only[B0]at h
      subst h
      simp only[B1]at hc
      obtain⟨c1,c2,c3,c4⟩:=hc
      have c4:=Nat.le_of_ble_eq_true c4
      have c1:=je c1
      have c2:=B2 c2
      have c3:=B2 c3
      rcases open_slice hu hx with⟨rfl,_⟩|⟨a,len,cap,m,n',D,Pl,rfl,hb,hl,hm,hmm,_,hi⟩
      ·exact⟨[.sl el []], .cons ⟨[],rfl, .inl ⟨_,_,rfl,rfl⟩,Nat.zero_le _,fun x hx=>by cases hx⟩ .nil⟩
      ·have hlm:len≤m:=by rw[hmm];split<;>omega
       have elems:∀q,q≤len→∃xs:List (X.den el),xs.length=q∧(∀x∈xs,(X.enc el x).all dM=true)∧∃ys,ab [] (rows el xs)=some ys∧ys.length=q*X.width el∧∀(j:Nat) (y:Value),ys[j]?=some y→w.cell? (a.add j)=some y:=by
        intro q
        induction q with
        |zero=>exact fun _=>⟨[],rfl,(fun x hx=>by cases hx),[],rfl,by simp,(fun j y hj=>by simp at hj)⟩
        |succ q ih=>
         intro hq
         obtain⟨xs,g1,g2,ys,g3,g4,g5⟩:=ih (by omega)
         obtain⟨cs',hc',ht'⟩:=hi q (by omega)
         obtain⟨ds,hds⟩:=gD hX d e ks' n' cs' _ hks ht'
         rw[c1]at hds
         obtain⟨avs,e1,e2,e3⟩:=hds.cells
         obtain⟨x,hx'⟩:=hX.total el avs e2
         have hbk:=hX.back el avs x hx'
         obtain⟨_,hcl,hat⟩:=World.cells?_some hc'
         refine⟨xs++[x],by simp[g1],fun z hz=>?_,ys++cs',?_,?_,fun j y hj=>?_⟩
         ·rcases List.mem_append.1 hz with hz|hz
          ·exact g2 z hz
          ·rw[List.mem_singleton.1 hz,hbk];exact e3
         ·simp only[rows,List.flatMap_append,List.flatMap_cons,List.flatMap_nil,List.append_nil]
          exact aD.2 ⟨_,_,g3,by rw[hbk];exact e1,rfl⟩
         ·rw[List.length_append,g4,hcl,c2,←c3,Nat.add_mul,Nat.one_mul]
         ·by_cases hjl:j<ys.length
          ·rw[List.getElem?_append_left hjl]at hj;exact g5 j y hj
          ·rw[List.getElem?_append_right (by omega)]at hj
           have hjw:=(List.getElem?_eq_some_iff.1 hj).1
           have:=hat (j-ys.length) (by rw[←hcl];exact hjw)
           rw[hj,Go.Deep.add_add]at this
           rw[←this]
           have hq:q*P.cellsOf e=ys.length:=by rw[g4,c2,c3]
           congr 2
           omega
       obtain⟨xs,g1,g2,ys,g3,g4,g5⟩:=elems len (Nat.le_refl _)
       refine⟨[.sl el xs], .cons ⟨xs,rfl,?_,by omega,g2⟩ .nil⟩
       by_cases hl0:len=0
       ·exact .inl ⟨_,_,by rw[hl0],List.length_eq_zero_iff.1 (by omega)⟩
       ·have hw0:0<X.width el:=by
         rw[c3]
         omega
        have hys:0<ys.length:=by rw[g4];exact Nat.mul_pos (by omega) hw0
        have h0:=g5 0 _ (List.getElem?_eq_getElem hys)
        have ha0:a.add 0=a:=by simp[Addr.add]
        rw[ha0]at h0
        have hspot:a.spot=none:=by
         unfold World.cell? at h0
         split at h0
         ·split at h0
          ·cases h0
          ·rename_i hs;simpa using hs
         ·cases h0
        have hae:a=⟨a.block,a.off,none⟩:=by cases a;simp at hspot;simp[hspot]
        refine .inr ⟨a,cap,by rw[g1,←hae],by omega,hm,World.block_lt_of_cell? _ _ h0,ys,g3,fun j y hj=>?_⟩
        have:=g5 j y hj
        rw[hae,Addr.add_lit]at this
        exact this
    ·cases h
   ·cases h
  ·cases h
end
end Go.Proofs.Ytdadgkgkdgnihaa.Px
