/- Functions that turn a row of ints in place. -/
import Derived.Test.YtdadgkgkdgnihaaPxFun
import Derived.Sort.OwnSortedInts
set_option linter.unusedVariables false
set_option linter.unusedSimpArgs false
namespace Go.Proofs.Ytdadgkgkdgnihaa.Px
open Go Go.RowKit
section
variable [X:aS]
def wA (el:X.El) (f:List (X.den el)→List (X.den el)) (back:Bool):rK (X:=X):=fun args hp=>match args with
 | [.sl k 0 w n none]=>match nth hp k with
  |some (.vec t xs true)=>match decEq t el with
   | .isTrue h=>cond (Nat.beq w (X.width el)) (some {ok:=and (Nat.beq n xs.length) (Nat.ble xs.length 1048576),v:=cond back (.sl k 0 w (f (h▸xs)).length none) (.tup []),hp:=cO hp k (.vec el (f (h▸xs)) true)}) none
   | .isFalse _=>none
  |_=>none
 | [.val (.slice none 0 0)]=>some {ok:=true,v:=cond back (.val (.slice none 0 0)) (.tup []),hp:=hp}
 |_=>none
omit X in
def xt (P:Program) (n:Nat) (g:List Int→List Int) (back:Bool):Prop:=
 (∀(blk cap:Nat) (zs:List Int) (w:World),Sort.Holds (Value.int .i64) w blk 0 zs.toArray→blk<w.heap.size→zs.length≤cap→zs.length<4611686018427387904→
  Calls P n #[.slice (some ⟨blk,0,none⟩) zs.length cap] w fun e w'=>e= .returned (cond back (.slice (some ⟨blk,0,none⟩) (g zs).length cap) (.tuple #[]))∧
   ∃(q:Nat) (os:Array Obj) (more:List Int),(g zs).length+more.length=zs.length∧w'=Sort.grow (Sort.putRow (Value.int .i64) (Sort.ahead w q) blk 0 (g zs++more).toArray) os)∧
 (∀(p:Option Addr) (cap:Nat) (w:World),Calls P n #[.slice p 0 cap] w fun e w'=>e= .returned (cond back (.slice p 0 cap) (.tuple #[]))∧w'=w)∧g []=[]
theorem lY {el:X.El} (to:X.den el→Int) (henc:∀x,X.enc el x=[.int .i64 (to x)]):∀xs:List (X.den el),ab [] (rows el xs)=some ((xs.map to).map (Value.int .i64))
 | []=>rfl
 |x::xs=>by
  have ih:=lY to henc xs
  unfold rows at ih⊢
  simp only[List.flatMap_cons,henc,List.singleton_append,List.map_cons]
  simp only[ab,ih,ah,Option.bind_some]
omit X in
theorem tR (w:World) (os:Array Obj):Below w.heap.size w (Sort.grow w os):=
 ⟨rfl,rfl,rfl,by simp[Sort.grow],fun k hk=>Sort.heap_grow_old w os hk⟩
theorem uA {P:Program} {G:World→Prop} {n:Nat} {el:X.El} {f:List (X.den el)→List (X.den el)} {g:List Int→List Int} {back:Bool} (hw:X.width el=1) (to:X.den el→Int) (henc:∀x,X.enc el x=[.int .i64 (to x)])
  (hf:∀xs,(f xs).map to=g (xs.map to)) (hfo:qT P n) (ht:xt P n g back):oA P G n (wA el f back):=by
 refine⟨hfo,fun args hp r h hok w0 ρ w us hG hr hus=>?_⟩
 obtain⟨t1,t2,t3⟩:=ht
 have hf0:f []=[]:=by
  have:=hf []
  rw[List.map_nil,t3]at this
  exact List.map_eq_nil_iff.1 this
 unfold wA at h
 split at h
 ·rename_i k wd n
  rw[ak]at h
  split at h
  ·rename_i t ys hk
   split at h
   ·rename_i e _
    subst e
    cases hb:Nat.beq wd (X.width t)with
    |false=>rw[hb]at h;cases h
    |true=>
     rw[hb]at h
     simp only[B4,B0]at h
     subst h
     simp only[B1]at hok
     have hn:=B2 hok.1
     have hle:=Nat.le_of_ble_eq_true hok.2
     subst hn
     have hwd:=B2 hb
     subst hwd
     simp only[au]
     simp only[ab,Option.bind_eq_some_iff,B0]at hus
     obtain⟨u,hu,rs,rfl,rfl⟩:=hus
     obtain⟨l,hl,hcase⟩:=aK.1 hu
     have hbk:=hr.blk k _ l hk hl
     have hkl:=(List.getElem?_eq_some_iff.1 hk).1
     rcases hcase with⟨hnil,h0,rfl⟩|⟨hnil,rfl⟩
     ·obtain⟨rfl,_⟩:=hbk.1 hnil
      have hset:hp.set k (.vec t (f []) true)=hp:=by
       rw[hf0]
       apply List.ext_getElem?
       intro j
       by_cases hj:k=j
       ·subst hj;rw[List.getElem?_set_self hkl,hk]
       ·rw[List.getElem?_set_ne hj]
      rw[hset]
      refine(t2 l.base l.cap w).mono fun e w' ⟨he,hw'⟩=>?_
      subst hw' he
      refine⟨_,ρ,rfl,List.prefix_refl _,?_,hr⟩
      cases back with
      |true=>
       rw[hf0]
       exact aK.2 ⟨l,hl, .inl ⟨hnil,rfl,rfl⟩⟩
      |false=>rfl
     ·obtain⟨hoff,hge,hcap,vs,spare,ty,d1,d3,d4⟩:=hbk.2 hnil
      rw[lY to henc,B0]at d1
      subst d1
      rw[hw,Nat.mul_one]at d4
      have hH:Sort.Holds (Value.int .i64) w l.b 0 (ys.map to).toArray:=holds_of_blockI d3 (by simp)
      have hbs:l.b<w.heap.size:=(Array.getElem?_eq_some_iff.1 d3).1
      have hu':(Value.slice (some ⟨l.b,l.off+0*X.width t,none⟩) ys.length (Option.getD none l.cap-0))= .slice (some ⟨l.b,0,none⟩) (ys.map to).length l.cap:=by
       rw[hoff];simp
      rw[hu']
      refine(t1 l.b l.cap (ys.map to) w hH hbs (by simpa using hcap) (by simp;omega)).mono fun e w' ⟨he,q,os,more,hm,hw'⟩=>?_
      subst hw' he
      have hlf:(f ys).length=(g (ys.map to)).length:=by rw[←hf];simp
      rw[List.length_map]at hm
      have hb1:(Sort.putRow (Value.int .i64) (Sort.ahead w q) l.b 0 (g (ys.map to)++more).toArray).heap[l.b]?=some (.cells (Sort.putCells (Value.int .i64) 0 (g (ys.map to)++more).toArray ((ys.map to).map (Value.int .i64)++spare).toArray) ty (0,0)):=by
       have:=heap_sortedI (n:=q) (os:= #[]) (g (ys.map to)++more).toArray d3
       simpa using this
      have hput:Sort.putCells (Value.int .i64) 0 (g (ys.map to)++more).toArray ((ys.map to).map (Value.int .i64)++spare).toArray=(((g (ys.map to)).map (Value.int .i64))++(more.map (Value.int .i64)++spare)).toArray:=by
       apply Array.ext_getElem?
       intro j
       simp only[Sort.putCells,Array.getElem?_mapIdx,List.getElem?_toArray]
       by_cases hj:j<ys.length
       ·have h1:((ys.map to).map (Value.int .i64)++spare)[j]?=some (.int .i64 (to ys[j])):=by
         rw[List.getElem?_append_left (by simpa using hj)]
         simp[hj]
        have h2:j<(g (ys.map to)++more).length:=by simp;omega
        rw[h1,←List.append_assoc,←List.map_append,List.getElem?_append_left (by simpa using h2)]
        have e3:(g (ys.map to)++more).toArray[j]! =(g (ys.map to)++more)[j]:=by rw[getElem!_pos _ j (by simpa using h2)];simp
        simp only[Option.map_some,List.size_toArray,Nat.zero_le,true_and,Nat.zero_add,h2,if_true,Nat.sub_zero,List.getElem?_map,List.getElem?_eq_getElem h2,e3]
       ·have h2:¬j<(g (ys.map to)++more).length:=by simp;omega
        rw[List.getElem?_append_right (by simpa using Nat.le_of_not_lt hj),←List.append_assoc,←List.map_append,List.getElem?_append_right (by simpa using Nat.le_of_not_lt h2)]
        have e:j-((ys.map to).map (Value.int .i64)).length=j-((g (ys.map to)++more).map (Value.int .i64)).length:=by simp;omega
        rw[e]
        cases hs:spare[j-((g (ys.map to)++more).map (Value.int .i64)).length]? with
        |none=>rfl
        |some y=>simp only[Option.map_some,List.size_toArray,Nat.zero_le,true_and,Nat.zero_add,h2,if_false]
      have hwr:HR w0 ρ (hp.set k (.vec t (f ys) true)) (Sort.putRow (Value.int .i64) (Sort.ahead w q) l.b 0 (g (ys.map to)++more).toArray):=by
       refine hr.write hk hl rfl rfl hnil hge rfl rfl rfl (by simp[Sort.putRow,Sort.mapBlock,Sort.ahead]) (fun j hj=>?_) ⟨(fun h=>by rw[hnil]at h;cases h),fun _=>⟨hoff,hge,?_,(g (ys.map to)).map (Value.int .i64),more.map (Value.int .i64)++spare,ty,?_,?_,?_⟩⟩
       ·simp[Sort.putRow,Sort.mapBlock,Sort.ahead,Array.getElem?_modify,Ne.symm hj]
       ·omega
       ·rw[lY to henc,hf]
       ·rw[hb1,hput]
       ·rw[hw,Nat.mul_one]
        simp
        omega
      refine⟨_,ρ,rfl,List.prefix_refl _,?_,hwr.grow (tR _ _)⟩
      cases back with
      |true=>
       refine aK.2 ⟨l,hl, .inr ⟨hnil,?_⟩⟩
       simp only[B4,hlf]
       rw[hoff]
       simp
      |false=>rfl
   ·cases h
  ·cases h
 ·simp only[B0]at h
  subst h
  have hus':some [Value.slice none 0 0]=some us:=hus
  simp only[B0]at hus'
  subst hus'
  refine(t2 none 0 w).mono fun e w' ⟨he,hw'⟩=>?_
  subst hw' he
  exact⟨_,ρ,rfl,List.prefix_refl _,by cases back<;>rfl,hr⟩
 ·cases h
end
end Go.Proofs.Ytdadgkgkdgnihaa.Px
