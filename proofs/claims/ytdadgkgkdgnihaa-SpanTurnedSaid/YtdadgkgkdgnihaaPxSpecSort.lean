/- Sorting, and leaving out what comes twice in a row, as plain functions. -/
import Derived.Test.YtdadgkgkdgnihaaPxMut
import Derived.Lib.SlicesCompact
set_option linter.unusedVariables false
set_option linter.unusedSimpArgs false
namespace Go.Proofs.Ytdadgkgkdgnihaa.Px
open Go
def tb (x:Int):List Int→List Int
 | []=>[x]
 |y::l=>cond (decide (x≤y)) (x::y::l) (y::tb x l)
def bn:List Int→List Int
 | []=>[]
 |x::l=>tb x (bn l)
def bl:Option Int→List Int→List Int
 |_,[]=>[]
 |none,x::l=>x::bl (some x) l
 |some p,x::l=>cond (x==p) (bl (some x) l) (x::bl (some x) l)
def cH (l:List Int):List Int:=bl none l
theorem lN (x:Int):∀l:List Int,(tb x l).Perm (x::l)
 | []=>List.Perm.refl _
 |y::l=>by
  unfold tb
  cases decide (x≤y)
  ·exact((lN x l).cons y).trans (List.Perm.swap x y l)
  ·exact List.Perm.refl _
theorem mH (x:Int):∀l:List Int,l.Pairwise (· ≤ ·)→(tb x l).Pairwise (· ≤ ·)
 | [],_=>by simp[tb]
 |y::l,h=>by
  rw[List.pairwise_cons]at h
  unfold tb
  cases hxy:decide (x≤y)
  ·have hyx:y≤x:=by simp at hxy;omega
   rw[B5,List.pairwise_cons]
   refine⟨fun z hz=>?_,mH x l h.2⟩
   rcases List.mem_cons.1 ((lN x l).mem_iff.1 hz)with rfl|hz
   ·exact hyx
   ·exact h.1 z hz
  ·have hxy:x≤y:=by simpa using hxy
   rw[B4,List.pairwise_cons]
   refine⟨fun z hz=>?_,List.pairwise_cons.2 h⟩
   rcases List.mem_cons.1 hz with rfl|hz
   ·exact hxy
   ·exact Int.le_trans hxy (h.1 z hz)
theorem eT:∀l:List Int,(bn l).Perm l
 | []=>List.Perm.refl _
 |x::l=>(lN x _).trans ((eT l).cons x)
theorem gN:∀l:List Int,(bn l).Pairwise (· ≤ ·)
 | []=>List.Pairwise.nil
 |x::l=>mH x _ (gN l)
theorem yH (l:List Int):(l.mergeSort fun x y=>decide (x≤y))=bn l:=by
 refine List.Perm.eq_of_pairwise (le:=(· ≤ ·)) (fun a b _ _ h1 h2=>Int.le_antisymm h1 h2) ?_ (gN l) ((List.mergeSort_perm l _).trans (eT l).symm)
 have:=List.pairwise_mergeSort (le:=fun x y:Int=>decide (x≤y)) (fun a b c h1 h2=>by simp at*;omega) (fun a b=>by simp;omega) l
 exact this.imp fun h=>by simpa using h
theorem n7:∀(suf pre:List Int),Lib.compactUpTo (pre++suf).toArray (pre++suf).length=Lib.compactUpTo (pre++suf).toArray pre.length++bl pre.getLast? suf
 | [],pre=>by cases h:pre.getLast?<;>simp[bl]
 |x::l,pre=>by
  have ih:=n7 l (pre++[x])
  rw[List.append_assoc,List.singleton_append,show(pre++[x]).length=pre.length+1 by simp,Lib.compactUpTo_succ,List.getLast?_concat]at ih
  rw[ih,List.append_assoc]
  congr 1
  have hx:(pre++x::l).toArray[pre.length]! =x:=by
   rw[getElem!_pos _ _ (by simp)]
   simp
  rcases List.eq_nil_or_concat pre with rfl|⟨q,p,rfl⟩
  ·have hk:Lib.keeps ([]++x::l).toArray ([]:List Int).length=true:=by simp[Lib.keeps]
   rw[hk,if_pos rfl,hx]
   rfl
  ·rw[List.concat_eq_append]at hx⊢
   have hp:(q++[p]++x::l).toArray[(q++[p]).length-1]! =p:=by
    rw[getElem!_pos _ _ (by simp)]
    simp
   rw[List.getLast?_concat,hx]
   by_cases e:x=p
   ·have hk:Lib.keeps (q++[p]++x::l).toArray (q++[p]).length=false:=Lib.keeps_neg (by simp) (by rw[hx,hp,e])
    rw[hk]
    simp[bl,e]
   ·have hk:Lib.keeps (q++[p]++x::l).toArray (q++[p]).length=true:=Lib.keeps_pos (by rw[hx,hp];exact e)
    have hb:(x==p)=false:=beq_false_of_ne e
    rw[hk,if_pos rfl]
    simp[bl,hb]
theorem x6 (l:List Int):Lib.compact l=cH l:=by
 have:=n7 l []
 simpa[Lib.compact,cH,Lib.compactUpTo]using this
theorem uo {P:Program} {n:Nat}
  (h1:∀(blk off cap:Nat) (zs:List Int) (w:World),Sort.Holds (Value.int .i64) w blk off zs.toArray→blk<w.heap.size→zs.length<4611686018427387904→
   Calls P n #[.slice (some ⟨blk,off,none⟩) zs.length cap] w fun e w'=>e= .returned (.tuple #[])∧∃n os,w'=Sort.grow (Sort.putRow (Value.int .i64) (Sort.ahead w n) blk off (zs.mergeSort fun x y=>decide (x≤y)).toArray) os)
  (h2:∀(p:Option Addr) (cap:Nat) (w:World),Calls P n #[.slice p 0 cap] w fun e w'=>e= .returned (.tuple #[])∧w'=w):xt P n bn false:=by
 refine⟨fun blk cap zs w hH hb _ hl=>(h1 blk 0 cap zs w hH hb hl).mono fun e w' ⟨he,q,os,hw⟩=>⟨he,q,os,[],?_,?_⟩,h2,rfl⟩
 ·simpa using(eT zs).length_eq
 ·rw[hw,yH,List.append_nil]
theorem pg {P:Program} {n:Nat}
  (h1:∀(blk off cap:Nat) (zs:List Int) (w:World),Sort.Holds (Value.int .i64) w blk off zs.toArray→zs.length≤9223372036854775807→zs.length≤cap→
   Calls P n #[.slice (some ⟨blk,off,none⟩) zs.length cap] w fun e w'=>e= .returned (.slice (some ⟨blk,off,none⟩) (Lib.compact zs).length cap)∧∃q,w'=Sort.putRow (Value.int .i64) (Sort.ahead w q) blk off (Lib.compact zs++List.replicate (zs.length-(Lib.compact zs).length) 0).toArray)
  (h2:∀(p:Option Addr) (cap:Nat) (w:World),Calls P n #[.slice p 0 cap] w fun e w'=>e= .returned (.slice p 0 cap)∧w'=w):xt P n cH true:=by
 have hle:∀(l:List Int) (p:Option Int),(bl p l).length≤l.length:=by
  intro l
  induction l with
  |nil=>intro p;cases p<;>simp[bl]
  |cons x l ih=>
   intro p
   cases p with
   |none=>simp[bl,ih (some x)]
   |some p=>
    unfold bl
    have:=ih (some x)
    cases (x==p)<;>simp<;>omega
 refine⟨fun blk cap zs w hH hb hc hl=>(h1 blk 0 cap zs w hH (by omega) hc).mono fun e w' ⟨he,q,hw⟩=>?_,h2,rfl⟩
 rw[x6]at he hw
 refine⟨he,q, #[],List.replicate (zs.length-(cH zs).length) 0,?_,by rw[hw,Sort.grow_empty]⟩
 have:=hle zs none
 unfold cH at*
 simp
 omega
end Go.Proofs.Ytdadgkgkdgnihaa.Px
