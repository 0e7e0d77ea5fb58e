/- Slices of elements: read as lists, cut, made, and appended to. -/
import Derived.Test.YtdadgkgkdgnihaaPxHeap
import Derived.ArgAppend
set_option linter.unusedVariables false
set_option linter.unusedSimpArgs false
namespace Go.Proofs.Ytdadgkgkdgnihaa.Px
open Go Go.RowKit
section
variable [X:aS]
omit X in
theorem yW {α:Type} {i n:Nat} {xs:List α}:lO i n xs=(xs.drop i).take n∨(i=0∧n=xs.length∧lO i n xs=xs):=by
 unfold lO
 cases hb:and (Nat.beq i 0) (Nat.beq n xs.length)with
 |true=>
  simp only[B1]at hb
  exact .inr ⟨B2 hb.1,B2 hb.2,rfl⟩
 |false=>exact .inl (by simp[cT,cN])
omit X in
theorem c6 {α:Type} {i n:Nat} {xs:List α}:lO i n xs=(xs.drop i).take n:=by
 rcases yW (i:=i) (n:=n) (xs:=xs)with h|⟨rfl,rfl,h⟩
 ·exact h
 ·rw[h];simp
omit X in
theorem yw {α:Type} (xs:List α):lO 0 xs.length xs=xs:=by rw[c6];simp
theorem oN {el:X.El} (hX:bd X) {xs:List (X.den el)} {ys:List Value} (h:ab [] (rows el xs)=some ys) (i n:Nat):
  ab [] (rows el ((xs.drop i).take n))=some ((ys.drop (i*X.width el)).take (n*X.width el)):=by
 have hd:∀(xs:List (X.den el)) (i:Nat),(rows el xs).drop (i*X.width el)=rows el (xs.drop i):=by
  intro xs i
  induction i generalizing xs with
  |zero=>simp
  |succ i ih=>
   cases xs with
   |nil=>simp[rows]
   |cons x xs=>
    rw[Nat.add_mul,Nat.one_mul,Nat.add_comm,←List.drop_drop]
    have:(rows el (x::xs)).drop (X.width el)=rows el xs:=by
     simp only[rows,List.flatMap_cons]
     rw[←hX.len el x,List.drop_left]
    rw[this,List.drop_succ_cons]
    exact ih xs
 have ht:∀(n:Nat) (xs:List (X.den el)),(rows el xs).take (n*X.width el)=rows el (xs.take n):=by
  intro n
  induction n with
  |zero=>intro xs;simp[rows]
  |succ n ih=>
   intro xs
   cases xs with
   |nil=>simp[rows]
   |cons x xs=>
    rw[List.take_succ_cons]
    simp only[rows,List.flatMap_cons]
    rw[Nat.add_mul,Nat.one_mul,Nat.add_comm,←hX.len el x,List.take_length_add_append,hX.len el x]
    congr 1
    exact ih xs
 rw[←ht,←hd]
 exact cr _ (cq _ h)
theorem jg (hX:bd X) {t:X.El}:∀(xs:List (X.den t)),∃ys,ab [] (rows t xs)=some ys
 | []=>⟨[],rfl⟩
 |x::xs=>by
  obtain⟨ys,h⟩:=jg hX xs
  obtain⟨zs,h',_⟩:=hX.cells t x
  exact⟨zs++ys,by simp only[rows,List.flatMap_cons];exact aD.2 ⟨_,_,h',h,rfl⟩⟩
theorem eC (hX:bd X) {el:X.El}:∀{n:Nat} {cs:List AV} {xs:List (X.den el)},gM el n cs=some xs→xs.length=n∧rows el xs=cs.take (n*X.width el)
 |0,cs,xs,h=>by simp only[gM,B0]at h;subst h;simp[rows]
 |n+1,cs,xs,h=>by
  simp only[gM]at h
  split at h
  ·rename_i x ys hx hys
   simp only[B0]at h
   subst h
   obtain⟨h1,h2⟩:=eC hX hys
   refine⟨by simp[h1],?_⟩
   have:=hX.back _ _ _ hx
   rw[cT]at this
   rw[cN]at h2
   simp only[rows,List.flatMap_cons]at h2⊢
   rw[h2,this,Nat.add_mul,Nat.one_mul,Nat.add_comm,List.take_add]
  ·cases h
variable {P:Program} {w0:aN} {w:World} {ρ:List Loc} {hp:List (Blk (X:=X))}
def l8 (w:World) (el:X.El) (xs:List (X.den el)) (v:Value):Prop:=
 ∃base cap ys,v= .slice base xs.length cap∧ab [] (rows el xs)=some ys∧(∀b,base=some b→∀(j:Nat) u,ys[j]?=some u→w.cell? (b.add j)=some u)∧(base=none→xs=[])
theorem mb (hr:HR w0 ρ hp w) {k:Nat} {t:X.El} {xs:List (X.den t)} {own:Bool} {l:Loc} (hk:hp[k]?=some (.vec t xs own)) (hl:ρ[k]?=some l) (hn:l.nil=false):
  ∃ys,ab [] (rows t xs)=some ys∧xs.length≤l.cap∧∀(j:Nat) u,ys[j]?=some u→w.cell? ⟨l.b,l.off+j,none⟩=some u:=by
 have hb:=hr.blk k _ l hk hl
 cases own with
 |false=>
  obtain⟨g1,g2,ys,g3,g4⟩:=hb.2 hn
  refine⟨ys,g3,g2,fun j y hj=>?_⟩
  rw[←g4 j y hj]
  exact hr.below.cell (p:=⟨l.b,l.off+j,none⟩) g1
 |true=>
  obtain⟨g1,g2,g3,ys,spare,ty,g4,g5,g6⟩:=hb.2 hn
  refine⟨ys,g4,g3,fun j y hj=>?_⟩
  rw[g1,Nat.zero_add,bQ g5 j]
  simp only[List.getElem?_toArray]
  rw[List.getElem?_append_left (List.getElem?_eq_some_iff.1 hj).1]
  exact hj
theorem fG (hX:bd X) (hr:HR w0 ρ hp w) {el:X.El} {k k2 i wd n:Nat} {l0 l:Loc} {m:Option Nat} {x:Value} {xs:List (X.den el)} (_hl0:ρ[k]?=some l0)
  (hx:(l0.nil=true∧n=0∧x= .slice l0.base 0 l0.cap)∨(l0.nil=false∧x= .slice (some ⟨l0.b,l0.off+i*wd,none⟩) n (m.getD l0.cap-i)))
  (hl2:l0.nil=false→∃l,ρ[k2]?=some l∧l.nil=false∧l.b=l0.b∧l.off=l0.off) (h:ga el i wd n hp[k2]?=some (true,xs)):l8 w el xs x:=by
 have nilcase:xs.length=n→l0.nil=true→n=0→x= .slice l0.base 0 l0.cap→l8 w el xs x:=by
  intro h1 h2 h3 h4
  have:xs=[]:=List.length_eq_zero_iff.1 (by omega)
  subst this
  exact⟨l0.base,l0.cap,[],h4,rfl,(fun b _ j u hj=>by simp at hj),fun _=>rfl⟩
 unfold ga at h
 split at h
 ·rename_i t ys own hk
  split at h
  ·rename_i e he
   subst e
   dsimp only at h
   cases hw:Nat.beq wd (X.width t)with
   |false=>rw[hw]at h;cases h
   |true=>
    rw[hw,B4]at h
    simp only[B0,Prod.mk.injEq]at h
    obtain⟨h1,rfl⟩:=h
    have hin:=Nat.le_of_ble_eq_true h1
    have hw:=B2 hw
    have hlen:(lO i n ys).length=n:=by rw[c6];simp;omega
    rcases hx with⟨h2,h3,h4⟩|⟨h2,h4⟩
    ·exact nilcase hlen h2 h3 h4
    ·obtain⟨l,hl,hn,hb,ho⟩:=hl2 h2
     obtain⟨zs,hz,_,hc⟩:=mb hr hk hl hn
     refine⟨_,_,_,by rw[hlen];exact h4,by rw[c6];exact oN hX hz i n,fun b hb' j u hj=>?_,(fun h=>by cases h)⟩
     simp only[B0]at hb'
     subst hb'
     have hj2:j<n*X.width t:=by
      have:=(List.getElem?_eq_some_iff.1 hj).1
      simp at this;omega
     rw[List.getElem?_take,if_pos hj2,List.getElem?_drop]at hj
     have:=hc _ _ hj
     rw[hb,ho]at this
     rw[Addr.add_lit,hw,Nat.add_assoc]
     exact this
  ·cases h
 ·rename_i cs hk
  cases hw:and (Nat.beq wd (X.width el)) (Nat.ble ((i+n)*wd) cs.length)with
  |false=>rw[hw]at h;cases h
  |true=>
   rw[hw,B4]at h
   simp only[B1]at hw
   have hwd:=B2 hw.1
   have hle:=Nat.le_of_ble_eq_true hw.2
   simp only[Option.map_eq_some_iff,Prod.mk.injEq]at h
   obtain⟨xs',hxs,_,rfl⟩:=h
   obtain⟨hlen,hrows⟩:=eC hX hxs
   rcases hx with⟨h2,h3,h4⟩|⟨h2,h4⟩
   ·exact nilcase hlen h2 h3 h4
   ·obtain⟨l,hl,hn,hb,ho⟩:=hl2 h2
    obtain⟨_,hoff,_,ys,ty,hc,bc,hh⟩:=hr.blk _ _ l hk hl
    rw[cN]at hrows
    obtain⟨zs,hz⟩:=jg hX xs'
    have hz':ab ρ (rows el xs')=some ((ys.drop (i*wd)).take (n*X.width el)):=by rw[hrows];exact cr _ (cq _ hc)
    have hzz:=aB (List.nil_prefix (l:=ρ)) _ _ hz
    rw[hz']at hzz
    simp only[B0]at hzz
    refine⟨_,_,zs,by rw[hlen];exact h4,hz,fun b hb' j u hj=>?_,(fun h=>by cases h)⟩
    simp only[B0]at hb'
    subst hb'
    rw[←hzz]at hj
    have hj2:j<n*X.width el:=by
     have:=(List.getElem?_eq_some_iff.1 hj).1
     simp at this;omega
    rw[List.getElem?_take,if_pos hj2,List.getElem?_drop]at hj
    rw[Addr.add_lit,←hb,←ho,hoff,Nat.zero_add,bQ hh,List.getElem?_toArray]
    exact hj
 ·cases h
theorem zX (hr:HR w0 ρ hp w) {el t:X.El} {ys:List (X.den t)} {own:Bool} {k j wd n:Nat} {l:Loc} {xs:List (X.den el)} (hk:hp[k]?=some (.vec t ys own)) (hl:ρ[k]?=some l) (h:ga el j wd n (some (.vec t ys own))=some (true,xs)):
  xs.length=n∧(l.nil=true→j+n=0)∧(l.nil=false→j+n≤l.cap):=by
 simp only[ga]at h
 ·split at h
  ·rename_i e he
   subst e
   dsimp only at h
   cases hw:Nat.beq wd (X.width t)with
   |false=>rw[hw]at h;cases h
   |true=>
    rw[hw,B4]at h
    simp only[B0,Prod.mk.injEq]at h
    obtain⟨h1,rfl⟩:=h
    have hin:=Nat.le_of_ble_eq_true h1
    refine⟨by rw[c6];simp;omega,fun hn=>?_,fun hn=>?_⟩
    ·have hb:=hr.blk k _ l hk hl
     have:ys=[]:=by
      cases own with
      |true=>exact(hb.1 hn).1
      |false=>exact hb.1 hn
     subst this
     simp only[List.length_nil]at hin
     omega
    ·obtain⟨_,_,hc,_⟩:=mb hr hk hl hn
     omega
  ·cases h
theorem cf (hX:bd X) (hr:HR w0 ρ hp w) {el:X.El} {v:AV} {x:Value} {xs:List (X.den el)} {ok:Bool} (hv:ah ρ v=some x) (h:gW el hp v=some (ok,xs)) (hok:ok=true):l8 w el xs x:=by
 subst hok
 unfold gW at h
 split at h
 ·rename_i n c
  cases hn:Nat.beq n 0 with
  |false=>rw[hn]at h;cases h
  |true=>
   rw[hn,B4]at h
   simp only[B0,Prod.mk.injEq]at h
   obtain⟨_,rfl⟩:=h
   have:=B2 hn
   subst this
   simp only[ah,Value.oneCell',if_true,B0]at hv
   exact⟨none,c,[],hv.symm,rfl,(fun b hb=>by cases hb),fun _=>rfl⟩
 ·rename_i k i wd n m
  obtain⟨l0,hl0,hx⟩:=aK.1 hv
  rw[ak]at h
  split at h
  ·rename_i t ys own hk
   split at h
   ·rename_i e he
    subst e
    dsimp only at h
    cases hw:and (Nat.beq wd (X.width t)) (Nat.beq i 0)with
    |false=>rw[hw]at h;cases h
    |true=>
     rw[hw,B4]at h
     simp only[B0,Prod.mk.injEq]at h
     obtain⟨h1,rfl⟩:=h
     simp only[B1]at hw
     have hi:=B2 hw.2
     have hn:=B2 h1
     subst hi
     refine fG hX hr (k2:=k) (l:=l0) hl0 hx (fun hn=>⟨l0,hl0,hn,rfl,rfl⟩) ?_
     rw[hk]
     simp only[ga]
     cases hd:decEq t t with
     |isTrue h'=>simp[hw.1,hn,yw]
     |isFalse h'=>exact absurd rfl h'
   ·cases h
  ·rename_i j f p hk
   rw[ak]at h
   refine fG hX hr (k2:=j) (l:=l0) hl0 hx (fun hn=>?_) h
   obtain⟨l',h1,h2,h3,h4,_⟩:=cG hr hl0 hn
   have:deref hp k=j:=by unfold deref;rw[ak,hk]
   rw[this]at h1
   exact⟨l',h1,h2,h3,h4⟩
  ·exact fG hX hr (k2:=k) (l:=l0) hl0 hx (fun hn=>⟨l0,hl0,hn,rfl,rfl⟩) h
 ·rename_i k i wd lo n
  simp only[ah,Option.bind_eq_some_iff,B0]at hv
  obtain⟨l0,hl0,rfl⟩:=hv
  rw[ak]at h
  split at h
  ·rename_i t ys own hk
   obtain⟨v1,v2,v3⟩:=zX hr hk hl0 h
   by_cases hn0:n=0
   ·subst hn0
    have hxs:xs=[]:=List.eq_nil_of_length_eq_zero v1
    subst hxs
    exact⟨_,_,[],rfl,rfl,(fun b _ j u hj=>by simp at hj),fun _=>rfl⟩
   ·cases hnil:l0.nil with
    |true=>have:=v2 hnil;omega
    |false=>
     have hroom:=v3 hnil
     simp only[Bool.false_eq_true,if_false]
     rw[if_neg (by omega)]
     refine fG hX hr (k:=k) (k2:=k) (l:=l0) (i:=i+lo) (m:=none) hl0 (.inr ⟨hnil,?_⟩) (fun hn=>⟨l0,hl0,hn,rfl,rfl⟩) (by rw[hk];exact h)
     simp only[Option.map_some,Addr.add_lit,Option.getD_none,Nat.add_mul,Nat.add_assoc,Nat.sub_sub]
  ·cases h
 ·cases h
theorem l8.below {w':World} {el:X.El} {xs:List (X.den el)} {v:Value} (h:l8 w el xs v) (hd:∀p,w'.cell? p=w.cell? p):l8 w' el xs v:=by
 obtain⟨base,cap,ys,h1,h2,h3,h4⟩:=h
 exact⟨base,cap,ys,h1,h2,fun b hb j u hj=>by rw[hd];exact h3 b hb j u hj,h4⟩
theorem l8.first (hX:bd X) {el:X.El} {xs:List (X.den el)} {v:Value} (h:l8 w el xs v):∃ys base cap,v= .slice base xs.length cap∧ab [] (rows el xs)=some ys∧ys.length=xs.length*X.width el∧(Builtin.firstCells (X.width el) xs.length v).run P w= .ok ys.toArray w:=by
 obtain⟨base,cap,ys,rfl,h2,h3,h4⟩:=h
 have hl:=ar h2
 rw[fF hX]at hl
 refine⟨ys,base,cap,rfl,h2,hl,?_⟩
 cases base with
 |none=>
  have:=h4 rfl
  subst this
  simp only[rows,List.flatMap_nil,ab,B0]at h2
  subst h2
  exact run_firstCells_none w _ _ _ _
 |some b=>exact run_firstCells_some w _ _ b _ _ ys hl (h3 b rfl)
omit X in
theorem jL (t ty e:TypeId) (i:TypeInfo) (ht:P.underlying t=some (.slice e)) (hi:P.info? e=some i) (base:Option Addr) (n cap m:Nat) (xb:Option Addr) (c:Nat) (news:List Value)
  (hx:(Builtin.firstCells i.size m (.slice xb m c)).run P w= .ok news.toArray w) (hroom:n+m≤cap) (w':World) (hs:∀a,base=some a→(storeCells (a.add (n*i.size)) news).run P w= .ok () w') (hs':base=none→w'=w):
  (Builtin.append_ #[t,t] ty #[.slice base n cap, .slice xb m c]).run P w= .ok (.slice base (n+m) cap) w':=by
 cases base with
 |none=>
  have:=hs' rfl
  subst this
  simp[Builtin.append_,run_underlying ht,sizeOf,typeInfo,hi,Builtin.lenOf,hroom,hx]
 |some a=>
  have:=hs a rfl
  simp[Builtin.append_,run_underlying ht,sizeOf,typeInfo,hi,Builtin.lenOf,hroom,hx,this]
omit X in
theorem oU (t ty e:TypeId) (i:TypeInfo) (z:Value) (ht:P.underlying t=some (.slice e)) (hi:P.info? e=some i) (hz:i.zero=some z) (base xb:Option Addr) (n cap m c:Nat) (olds news:List Value)
  (hs:(Builtin.firstCells i.size n (.slice base n cap)).run P w.drew= .ok olds.toArray w.drew) (hx:(Builtin.firstCells i.size m (.slice xb m c)).run P w.drew= .ok news.toArray w.drew)
  (hg:cap<n+m) (h63:((n+m:Nat):Int)≤9223372036854775807) (hfit:Builtin.nextslicecap (n+m) cap*i.bytes≤281474976710656):
  (Builtin.append_ #[t,t] ty #[.slice base n cap, .slice xb m c]).run P w=
   .ok (.slice (some ⟨w.heap.size,0,none⟩) (n+m) (grownCap w (n+m) cap e))
    (w.drew.alloc (.cells (olds.toArray++news.toArray++Builtin.zeroCells z.cells (grownCap w (n+m) cap e-(n+m))) e)):=by
 have hn:¬(n+m≤cap):=by omega
 have h63':¬(9223372036854775807<((n:Int)+(m:Int))):=by omega
 have h48':¬(281474976710656<Builtin.nextslicecap (n+m) cap*i.bytes):=by omega
 simp[Builtin.append_,run_underlying ht,sizeOf,typeInfo,zeroValue,hi,hz,Builtin.lenOf,hn,h63',h48',Question.forced,hx,hs,newRow,grownCap]
 congr 2
 apply Array.ext'
 simp[List.append_assoc]
def Head (w0:aN) (w:World) (ρ:List Loc) (hp hp':List (Blk (X:=X))) (el:X.El) (xs:List (X.den el)) (full:Bool) (v:Value):Prop:=
 l8 w el xs v∧HR w0 ρ hp' w∧hp'.length=hp.length∧
 ((full=true∧∃base,v= .slice base xs.length xs.length)∨
 (full=false∧((∃base,v= .slice base 0 0)∨
  ∃B cap ys spare ty,v= .slice (some ⟨B,0,none⟩) xs.length cap∧xs.length≤cap∧w0.w.heap.size≤B∧tO w0 ρ hp' B∧
   ab [] (rows el xs)=some ys∧w.heap[B]?=some (.cells (ys++spare).toArray ty (0,0))∧spare.length=(cap-xs.length)*X.width el)))
theorem qd (hX:bd X) (hr:HR w0 ρ hp w) {el:X.El} {v:AV} {x:Value} {xs:List (X.den el)} {ok full:Bool} {hp':List (Blk (X:=X))} (hv:ah ρ v=some x) (h:sR el hp v=some (ok,xs,hp',full)) (hok:ok=true):Head w0 w ρ hp hp' el xs full x:=by
 unfold sR at h
 split at h
 ·rename_i n c
  cases hn:and (Nat.beq n 0) (Nat.beq c 0)with
  |false=>rw[hn]at h;cases h
  |true=>
   rw[hn,B4]at h
   simp only[B0,Prod.mk.injEq]at h
   obtain⟨_,rfl,rfl,rfl⟩:=h
   simp only[B1]at hn
   have:=B2 hn.1
   subst this
   have:=B2 hn.2
   subst this
   simp only[ah,Value.oneCell',if_true,B0]at hv
   exact⟨⟨none,0,[],hv.symm,rfl,(fun b hb=>by cases hb),fun _=>rfl⟩,hr,rfl, .inr ⟨rfl, .inl ⟨none,hv.symm⟩⟩⟩
 ·rename_i k i wd n m
  rw[ak]at h
  split at h
  ·rename_i t ys hk
   split at h
   ·rename_i e he
    subst e
    dsimp only at h
    cases hw:and (Nat.beq wd (X.width t)) (Nat.beq i 0)with
    |false=>rw[hw]at h;cases h
    |true=>
     rw[hw,B4]at h
     simp only[B0,Prod.mk.injEq,au]at h
     obtain⟨h1,rfl,rfl,rfl⟩:=h
     rw[hok]at h1
     simp only[B1]at hw
     have hi:=B2 hw.2
     subst hi
     have hn:=B2 h1
     subst hn
     have hlies:l8 w t ys x:=cf hX hr (ok:=true) hv (by
      simp only[gW,ak,hk]
      cases hd:decEq t t with
      |isTrue h'=>simp[hw.1]
      |isFalse h'=>exact absurd rfl h') rfl
     obtain⟨l,hl,hx⟩:=aK.1 hv
     refine⟨hlies,hr.kill hk rfl,by simp, .inr ⟨rfl,?_⟩⟩
     have hb:=hr.blk k _ l hk hl
     rcases hx with⟨h2,h3,h4⟩|⟨h2,h4⟩
     ·obtain⟨_,hcap⟩:=hb.1 h2
      rw[hcap]at h4
      exact .inl ⟨_,h4⟩
     ·obtain⟨hoff,hge,hcap,zs,spare,ty,g4,g5,g6⟩:=hb.2 h2
      simp only[Option.getD_none,Nat.sub_zero,Nat.zero_mul,Nat.add_zero,hoff]at h4
      exact .inr ⟨l.b,l.cap,zs,spare,ty,h4,hcap,hge,hr.eQ hk hl rfl h2,g4,g5,g6⟩
   ·cases h
  ·rename_i j f hk
   rw[ak]at h
   split at h
   ·rename_i t ys hkj
    split at h
    ·rename_i e he
     subst e
     dsimp only at h
     cases hw:and (Nat.beq wd (X.width t)) (Nat.beq i 0)with
     |false=>rw[hw]at h;cases h
     |true=>
      rw[hw,B4]at h
      simp only[B0,Prod.mk.injEq,au]at h
      obtain⟨h1,rfl,rfl,rfl⟩:=h
      rw[hok]at h1
      simp only[B1]at hw
      have hi:=B2 hw.2
      subst hi
      have hin:=Nat.le_of_ble_eq_true h1
      have hlen:(lO 0 n ys).length=n:=by rw[c6];simp;omega
      have hlies:l8 w t (lO 0 n ys) x:=cf hX hr (ok:=true) hv (by
       simp only[gW,ak,hk,hkj,ga]
       cases hd:decEq t t with
       |isTrue h'=>simp[hw.1,hin]
       |isFalse h'=>exact absurd rfl h') rfl
      obtain⟨l0,hl0,hx⟩:=aK.1 hv
      refine⟨hlies,hr.kill hkj rfl,by simp, .inr ⟨rfl,?_⟩⟩
      have hba:=hr.blk k _ l0 hk hl0
      rcases hx with⟨h2,h3,h4⟩|⟨h2,h4⟩
      ·have hb:=hr.blk j _ l0 hkj hba
       rw[(hb.1 h2).2]at h4
       exact .inl ⟨_,h4⟩
      ·obtain⟨l,hl,hn,hb1,ho1,hc1⟩:=cG hr hl0 h2
       have hdj:deref hp k=j:=by unfold deref;rw[ak,hk]
       rw[hdj]at hl
       have hb:=hr.blk j _ l hkj hl
       obtain⟨hoff,hge,hcap,zs,spare,ty,g4,g5,g6⟩:=hb.2 hn
       simp only[Option.getD_none,Nat.sub_zero,Nat.zero_mul,Nat.add_zero,←ho1,hoff,←hb1,←hc1]at h4
       have hsub:=oN hX g4 0 n
       rw[Nat.zero_mul,List.drop_zero,List.drop_zero]at hsub
       have hzl:=ar g4
       rw[fF hX]at hzl
       refine .inr ⟨l.b,l.cap,zs.take (n*X.width t),zs.drop (n*X.width t)++spare,ty,by rw[hlen];exact h4,by rw[hlen];omega,hge,hr.eQ hkj hl rfl hn,by rw[c6,List.drop_zero];exact hsub,by rw[←List.append_assoc,List.take_append_drop];exact g5,?_⟩
       rw[List.length_append,List.length_drop,hzl,g6,hlen,←Nat.sub_mul,←Nat.add_mul]
       congr 1
       omega
    ·cases h
   ·cases h
  ·rename_i cs c hk
   cases hw:and (and (Nat.beq wd (X.width el)) (Nat.beq i 0)) (and (Nat.beq c n) (Nat.beq (n*wd) cs.length))with
   |false=>rw[hw]at h;cases h
   |true=>
    rw[hw,B4]at h
    simp only[Option.map_eq_some_iff,Prod.mk.injEq,au]at h
    obtain⟨xs',hxs,_,rfl,rfl,rfl⟩:=h
    simp only[B1]at hw
    obtain⟨⟨w1,w2⟩,w3,w4⟩:=hw
    have hwd:=B2 w1
    have hi:=B2 w2
    have hcn:=B2 w3
    have hnl:=B2 w4
    subst hi
    subst hcn
    obtain⟨hlen,hrows⟩:=eC hX hxs
    rw[←hwd,hnl,List.take_length]at hrows
    have hderef:deref hp k=k:=by unfold deref;rw[ak,hk]
    have hlies:l8 w el xs' x:=cf hX hr (ok:=true) hv (by
     have hble:Nat.ble (c*wd) cs.length=true:=by rw[Nat.ble_eq,hnl];exact Nat.le_refl _
     simp only[gW,ga,ak,hk,w1,Bool.true_and,Nat.zero_add,hble,Nat.zero_mul,fH,hxs,Option.map_some,B4]) rfl
    obtain⟨l,hl,hx⟩:=aK.1 hv
    refine⟨hlies,hr.kill hk rfl,by simp, .inr ⟨rfl,?_⟩⟩
    obtain⟨hn,hoff,hge,zs,ty,hc,bc,hh⟩:=hr.blk k _ l hk hl
    rcases hx with⟨h2,_,_⟩|⟨_,h4⟩
    ·rw[hn]at h2;cases h2
    ·simp only[Option.getD_some,Nat.sub_zero,Nat.zero_mul,Nat.add_zero,hoff]at h4
     obtain⟨us,hu⟩:=jg hX xs'
     have hz':ab ρ (rows el xs')=some zs:=by rw[hrows];exact hc
     have hzz:=aB (List.nil_prefix (l:=ρ)) _ _ hu
     rw[hz']at hzz
     simp only[B0]at hzz
     exact .inr ⟨l.b,c,zs,[],ty,by rw[hlen];exact h4,by rw[hlen];exact Nat.le_refl _,hge,hr.eQ hk hl rfl hn,by rw[hzz];exact hu,by rw[List.append_nil];exact hh,by simp[hlen]⟩
  ·rename_i j c hk
   split at h
   ·rename_i ok' xs' hls
    simp only[B0,Prod.mk.injEq]at h
    obtain⟨h1,rfl,rfl,rfl⟩:=h
    rw[hok]at h1
    simp only[B1]at h1
    have hlies:=cf hX hr hv hls h1.1
    refine⟨hlies,hr,rfl, .inl ⟨rfl,?_⟩⟩
    obtain⟨base,cap,ys,e1,_⟩:=hlies
    obtain⟨l,hl,hx⟩:=aK.1 hv
    have hci:=B2 h1.2
    rcases hx with⟨h2,h3,h4⟩|⟨h2,h4⟩
    ·have hb:=hr.blk k _ l hk hl
     rcases hb with⟨_,hb⟩|⟨hb,_⟩
     ·rw[hb rfl]at h4
      rw[h4]at e1
      simp only[Value.slice.injEq]at e1
      exact⟨_,by rw[h4,←e1.2.1]⟩
     ·rw[h2]at hb;cases hb
    ·rw[h4]at e1
     simp only[Value.slice.injEq]at e1
     refine⟨_,by rw[h4,←e1.2.1,hci,Option.getD_some];congr 1;omega⟩
   ·cases h
  ·cases h
 ·rename_i k i wd lo n
  rw[ak]at h
  split at h
  ·rename_i t ys hk
   split at h
   ·rename_i e he
    subst e
    dsimp only at h
    cases hw:and (Nat.beq wd (X.width t)) (and (Nat.beq i 0) (Nat.beq lo 0))with
    |false=>rw[hw]at h;cases h
    |true=>
     rw[hw,B4]at h
     simp only[B0,Prod.mk.injEq,au]at h
     obtain⟨h1,rfl,rfl,rfl⟩:=h
     rw[hok]at h1
     simp only[B1]at hw
     have hi:=B2 hw.2.1
     have hlo:=B2 hw.2.2
     subst hi hlo
     have hin:=Nat.le_of_ble_eq_true h1
     have hlen:(lO 0 n ys).length=n:=by rw[c6];simp;omega
     have hlies:l8 w t (lO 0 n ys) x:=cf hX hr (ok:=true) hv (by
      simp only[gW,ak,hk,ga]
      cases hd:decEq t t with
      |isTrue h'=>simp[hw.1,hin]
      |isFalse h'=>exact absurd rfl h') rfl
     simp only[ah,Option.bind_eq_some_iff,B0]at hv
     obtain⟨l,hl,hx⟩:=hv
     refine⟨hlies,hr.kill hk rfl,by simp, .inr ⟨rfl,?_⟩⟩
     have hb:=hr.blk k _ l hk hl
     cases hn:l.nil with
     |true=>
      obtain⟨hys,hcap⟩:=hb.1 hn
      rw[hys]at hin
      simp only[List.length_nil,Nat.le_zero_eq]at hin
      subst hin
      simp only[hn,if_true,hcap]at hx
      exact .inl ⟨_,hx.symm⟩
     |false=>
      obtain⟨hoff,hge,hcap,zs,spare,ty,g4,g5,g6⟩:=hb.2 hn
      simp only[hn,Bool.false_eq_true,if_false,Nat.zero_mul,Nat.add_zero,Nat.sub_zero,Option.map_some,Addr.add_lit,hoff,ite_self]at hx
      have hsub:=oN hX g4 0 n
      rw[Nat.zero_mul,List.drop_zero,List.drop_zero]at hsub
      have hzl:=ar g4
      rw[fF hX]at hzl
      refine .inr ⟨l.b,l.cap,zs.take (n*X.width t),zs.drop (n*X.width t)++spare,ty,by rw[hlen];exact hx.symm,by rw[hlen];omega,hge,hr.eQ hk hl rfl hn,by rw[c6,List.drop_zero];exact hsub,by rw[←List.append_assoc,List.take_append_drop];exact g5,?_⟩
      rw[List.length_append,List.length_drop,hzl,g6,hlen,←Nat.sub_mul,←Nat.add_mul]
      congr 1
      omega
   ·cases h
  ·cases h
 ·cases h
omit X in
theorem iC {ρ:List Loc} {l:Loc} {wd n:Nat} (hn:l.nil=false) (ho:l.off=0):ah (ρ++[l]) (.sl ρ.length 0 wd n none)=some (.slice (some ⟨l.b,0,none⟩) n l.cap):=
 aK.2 ⟨l,by rw[List.getElem?_append_right (Nat.le_refl _),Nat.sub_self];rfl, .inr ⟨hn,by simp[ho]⟩⟩
omit X in
theorem kL {α:Type}:∀(vs B:List α),vs.length≤B.length→aC B 0 vs=vs++B.drop vs.length
 | [],B,_=>by simp[aC]
 |v::vs,[],h=>by simp at h
 |v::vs,b::B,h=>by
  have:=dV vs [v] B 0
  simp only[List.length_singleton,Nat.add_zero,List.singleton_append]at this
  simp only[aC,cO,Nat.zero_add]
  rw[this,kL vs B (by simpa using h)]
  simp
omit X in
theorem pZ {α:Type} (A B vs:List α) (h:vs.length≤B.length):aC (A++B) (A.length+0) vs=(A++vs)++B.drop vs.length:=by
 rw[dV,kL vs B h,List.append_assoc]
omit X in
theorem mP (zero:Array Value) (n:Nat):(Builtin.zeroCells zero n).size=n*zero.size:=by simp[Builtin.zeroCells]
theorem qq (hX:bd X) {t ty e:TypeId} {i:TypeInfo} {z:Value} {el:X.El} {s x:AV} {sv xv:Value} {ok:Bool} {v:AV} {hp':List (Blk (X:=X))}
  (ht:P.underlying t=some (.slice e)) (hi:P.info? e=some i) (hz:i.zero=some z) (hsz:i.size=X.width el) (hzs:z.cells.size=i.size) (hby:i.bytes≤65536) (hw1:1≤i.size)
  (hr:HR w0 ρ hp w) (hs:ah ρ s=some sv) (hx:ah ρ x=some xv) (h:nx el hp s x=some (ok,v,hp')) (hok:ok=true):
  ∃y w' ρ',(Builtin.append_ #[t,t] ty #[sv,xv]).run P w= .ok y w'∧ρ<+:ρ'∧HR w0 ρ' hp' w'∧ah ρ' v=some y:=by
 unfold nx at h
 split at h
 ·rename_i ok1 xs hp1 full ok2 ys hh hl
  simp only[B0,Prod.mk.injEq]at h
  obtain⟨h1,rfl,rfl⟩:=h
  rw[hok]at h1
  simp only[B1]at h1
  obtain⟨k1,k2,k3,k4,k5⟩:=h1
  have k3:=Nat.le_of_ble_eq_true k3
  have k4:=Nat.le_of_ble_eq_true k4
  obtain⟨hlies,hr1,hlen1,hcase⟩:=qd hX hr hs hh k1
  have hlx:=cf hX hr hx hl k2
  obtain⟨olds,base,cap,rfl,o2,o3,o4⟩:=hlies.first (P:=P) hX
  obtain⟨news,xb,c,rfl,n2,n3,n4⟩:=hlx.first (P:=P) hX
  have hd1:=(hlies.below (w':=w.drew) (fun p=>by simp)).first (P:=P) hX
  obtain⟨olds',base',cap',e1,o2',o3',o4'⟩:=hd1
  obtain⟨news',xb',c',e2,n2',n3',n4'⟩:=(hlx.below (w':=w.drew) (fun p=>by simp)).first (P:=P) hX
  rw[o2]at o2'
  rw[n2]at n2'
  simp only[B0]at o2' n2'
  subst o2' n2'
  have hrows:ab [] (rows el (xs++ys))=some (olds++news):=by
   simp only[rows,List.flatMap_append]
   exact aD.2 ⟨_,_,o2,n2,rfl⟩
  have bc:=oL hX hrows
  have hρ:ρ.length=hp1.length:=by rw[hlen1,hr.len]
  by_cases hroom:xs.length+ys.length≤cap
  ·rcases hcase with⟨rfl,b,hb⟩|⟨rfl,hb|hb⟩
   ·simp only[Value.slice.injEq]at hb
    have hpos:0<ys.length:=by simpa[Nat.blt_eq]using k5
    omega
   ·obtain⟨b,hb⟩:=hb
    simp only[Value.slice.injEq]at hb
    obtain⟨rfl,hxl,rfl⟩:=hb
    have hx0:xs=[]:=List.length_eq_zero_iff.1 hxl
    have hy0:ys=[]:=List.length_eq_zero_iff.1 (by omega)
    subst hx0 hy0
    simp only[rows,List.flatMap_nil,ab,B0]at n2 o2
    subst n2 o2
    refine⟨_,w,ρ++[⟨0,0,0,true,base,false⟩],jL t ty e i ht hi base 0 0 0 xb c [] (by rw[hsz];exact n4) (Nat.le_refl _) w (fun a _=>by simp[storeCells]) (fun _=>rfl),List.prefix_append _ _,hr1.add (fun _=>rfl) ⟨fun _=>⟨rfl,rfl⟩,(fun h=>by cases h)⟩,?_⟩
    rw[←hρ]
    exact aK.2 ⟨⟨0,0,0,true,base,false⟩,by rw[List.getElem?_append_right (Nat.le_refl _),Nat.sub_self];rfl, .inl ⟨rfl,rfl,rfl⟩⟩
   ·obtain⟨B,cap2,zs,spare,ety,b1,b2,b5,b6,b9,b10,b11⟩:=hb
    simp only[Value.slice.injEq]at b1
    obtain⟨rfl,_,rfl⟩:=b1
    rw[o2]at b9
    simp only[B0]at b9
    subst b9
    have hol:=bc
    rw[List.all_append,B1]at hol
    have hmul:news.length≤spare.length:=by
     rw[n3,b11]
     exact Nat.mul_le_mul_right _ (by omega)
    obtain⟨w',s1,s2,s3,s4,s5,s6,s7⟩:=eV (P:=P) (b:=B) (t:=ety) news w (olds++spare) (xs.length*i.size) 0 hol.2 b10 (by rw[List.length_append,o3,hsz];omega)
    have hput:aC (olds++spare) (xs.length*i.size+0) news=(olds++news)++spare.drop news.length:=by
     rw[hsz,←o3]
     exact pZ olds spare news hmul
    rw[hput]at s2
    have hcap:(xs++ys).length≤cap:=by rw[List.length_append];exact hroom
    refine⟨_,w',ρ++[⟨B,0,cap,false,none,false⟩],jL t ty e i ht hi (some ⟨B,0,none⟩) xs.length cap ys.length xb c news (by rw[hsz];exact n4) hroom w' (fun a ha=>?_) (fun h=>by cases h),List.prefix_append _ _,(hr1.yy b6 b5 s3 s4 s5 s6 s7).put (fun _ _=>b6) ⟨(fun h=>by cases h),fun _=>⟨rfl,b5,hcap,olds++news,spare.drop news.length,ety,hrows,s2,?_⟩⟩,?_⟩
    ·simp only[B0]at ha
     subst ha
     rw[Addr.add_lit,Nat.zero_add]
     exact s1
    ·rw[List.length_drop,b11,n3,List.length_append,←Nat.sub_mul]
     congr 1
     simp only
     omega
    ·rw[←hρ,List.length_append]
     exact iC rfl rfl
  ·have hg:cap<xs.length+ys.length:=by omega
   have hb1:(xs.length+ys.length)*i.bytes≤140737488355328:=by
    have h2:(xs.length+ys.length)*i.bytes≤2097152*65536:=Nat.mul_le_mul (by omega) hby
    omega
   rw[hsz]at hzs
   have hrun:=oU (P:=P) (w:=w) t ty e i z ht hi hz base xb xs.length cap ys.length c olds news (by
    simp only[Value.slice.injEq,true_and]at e1
    obtain⟨rfl,rfl⟩:=e1
    rw[hsz];exact o4') (by
    simp only[Value.slice.injEq,true_and]at e2
    obtain⟨rfl,rfl⟩:=e2
    rw[hsz];exact n4') hg (by omega) (growslice_fits hg hb1)
   refine⟨_,_,ρ++[⟨w.heap.size,0,grownCap w (xs.length+ys.length) cap e,false,none,false⟩],hrun,List.prefix_append _ _,?_,?_⟩
   ·have hge:=grownCap_ge w (xs.length+ys.length) cap e
    have hbel:Below w.heap.size w (w.drew.alloc (.cells (olds.toArray++news.toArray++Builtin.zeroCells z.cells (grownCap w (xs.length+ys.length) cap e-(xs.length+ys.length))) e)):=by
     exact⟨rfl,rfl,rfl,by simp,fun k hk=>heap_alloc_old w.drew _ hk⟩
    refine hr1.new hbel (fun _ _=>Nat.le_refl _) ⟨(fun h=>by cases h),fun _=>⟨rfl,hr.below.size,by rw[List.length_append];exact hge,olds++news,(Builtin.zeroCells z.cells (grownCap w (xs.length+ys.length) cap e-(xs.length+ys.length))).toList,e,hrows,?_,?_⟩⟩
    ·refine(heap_alloc_new w.drew (.cells (olds.toArray++news.toArray++Builtin.zeroCells z.cells (grownCap w (xs.length+ys.length) cap e-(xs.length+ys.length))) e)).trans ?_
     congr 2
     apply Array.ext'
     simp
    ·rw[Array.length_toList,mP,hzs,List.length_append]
   ·rw[←hρ,List.length_append]
    exact iC rfl rfl
 ·cases h
theorem room_le (hr:HR w0 ρ hp w) {k i n:Nat} {m:Option Nat} {l:Loc} (hl:ρ[k]?=some l) (hn:l.nil=false) (h:my hp k i n m=true):i+n≤m.getD l.cap:=by
 cases m with
 |some c=>exact Nat.le_of_ble_eq_true h
 |none=>
  simp only[my,ak]at h
  obtain⟨l',hl',hn',_,_,hc⟩:=cG hr hl hn
  split at h
  ·rename_i t xs own hk
   obtain⟨_,_,hcap,_⟩:=mb hr hk hl' hn'
   have:=Nat.le_of_ble_eq_true h
   simp only[Option.getD_none,←hc]
   omega
  ·cases h
omit X in
theorem pd (a:Option Addr):a.map (·.add 0)=a:=by
 cases a with
 |none=>rfl
 |some a=>obtain⟨b,o,s⟩:=a;cases s<;>simp[Addr.add]
theorem sf {t:TI (X:=X)} {tt e:TypeId} {inf:TypeInfo} (ht:P.underlying tt=some (.slice e)) (hi':P.info? e=some inf) (hsz:inf.size=t.esz) {lo hi mx:Option Value} {l h m:Option Int} (hl:Bnd lo l) (hh:Bnd hi h) (hm:Bnd mx m)
  (hr:HR w0 ρ hp w) {v u:AV} {x:Value} {ok:Bool} {hp':List (Blk (X:=X))} (hv:ah ρ v=some x) (hns:∀k o,v≠ .ptr k o) (hs:oI t hp v l h m=some (ok,u,hp')) (hok:ok=true):
  ∃y ρ',(Instr.slice tt x lo hi mx).run P w= .ok y w∧ρ<+:ρ'∧HR w0 ρ' hp' w∧ah ρ' u=some y:=by
 unfold oI at hs
 split at hs
 ·rename_i k i wd n c
  cases hb:and t.slice (Nat.beq wd t.esz)with
  |false=>rw[hb]at hs;cases hs
  |true=>
   rw[hb,B4]at hs
   simp only[B1]at hb
   have hwd:=B2 hb.2
   obtain⟨lc,hlc,hx⟩:=aK.1 hv
   have hform:∃a cap,x= .slice a n cap∧((lc.nil=true∧n=0∧a=lc.base∧cap=lc.cap)∨(lc.nil=false∧a=some ⟨lc.b,lc.off+i*wd,none⟩∧cap=c.getD lc.cap-i)):=by
    rcases hx with⟨h1,rfl,h2⟩|⟨h1,h2⟩
    ·exact⟨_,_,h2, .inl ⟨h1,rfl,rfl,rfl⟩⟩
    ·exact⟨_,_,h2, .inr ⟨h1,rfl,rfl⟩⟩
   obtain⟨a,cap,rfl,hcase⟩:=hform
   have hncap:my hp k i n c=true→n≤cap:=by
    intro hro
    rcases hcase with⟨_,rfl,_,_⟩|⟨h1,_,rfl⟩
    ·exact Nat.zero_le _
    ·have:=room_le hr hlc h1 hro
     omega
   have hlast:∀l':Loc,(ρ++[l'])[hp.length]?=some l':=fun l'=>by rw[List.getElem?_append_right (by rw[hr.len];exact Nat.le_refl _),hr.len,Nat.sub_self];rfl
   -- a part of it, as another block
   have part:∀(full:Bool) (lw h:Int) (m:Option Int) (c':Option Nat),Bnd lo l→l.getD 0=lw→(h':Option Int)→(hhd:h'.getD n=h)→Bnd hi h'→Bnd mx m→(m.isSome=true→h'.isSome=true)→my hp k i n c=true→0≤lw→lw≤h→h≤(n:Int)→h≤m.getD cap→m.getD cap≤cap→
     (full=true→m.getD cap=h)→c'.getD lc.cap-(i+lw.toNat)=(m.getD cap).toNat-lw.toNat∨lc.nil=true→
     ∃y ρ',(Instr.slice tt (.slice a n cap) lo hi mx).run P w= .ok y w∧ρ<+:ρ'∧HR w0 ρ' (hp++[.alias (deref hp k) full false]) w∧ah ρ' (.sl hp.length (i+lw.toNat) wd (h.toNat-lw.toNat) c')=some y:=by
    intro full lw h m c' hl hlw h' hhd hh hm hmh hro b1 b2 b3 b4 b5 hfull hcap
    have hrun:=jf (P:=P) (w:=w) ht hi' (a:=a) (n:=n) (cap:=cap) hl hh hm hmh (by rw[hlw,hhd];exact⟨b1,b2⟩) (by rw[hhd];exact b4) b5
    rw[hlw,hhd]at hrun
    by_cases hz:h.toNat-lw.toNat=0
    ·refine⟨_,ρ++[⟨0,0,(m.getD cap).toNat-lw.toNat,true,if(m.getD cap).toNat=lw.toNat then a else a.map (·.add (lw.toNat*inf.size)),false⟩],hrun,List.prefix_append _ _,hr.add (fun h=>by cases h) (.inl ⟨rfl,fun hf=>?_⟩),aK.2 ⟨_,hlast _, .inl ⟨rfl,hz,by rw[hz]⟩⟩⟩
     have:=hfull hf
     simp only
     omega
    ·have hnil:lc.nil=false:=by
      rcases hcase with⟨_,rfl,_⟩|⟨h1,_⟩
      ·omega
      ·exact h1
     rcases hcase with⟨h1,_⟩|⟨_,rfl,hcp⟩
     ·rw[hnil]at h1;cases h1
     ·rcases hcap with hcap|hcap
      ·obtain⟨l2,e1,e2,e3,e4,e5⟩:=cG hr hlc hnil
       refine⟨_,ρ++[⟨lc.b,lc.off,lc.cap,false,none,false⟩],hrun,List.prefix_append _ _,hr.add (fun h=>by cases h) (.inr ⟨rfl,l2,?_,e2,e3,e4,e5⟩),aK.2 ⟨_,hlast _, .inr ⟨rfl,?_⟩⟩⟩
       ·rw[List.getElem?_append_left (List.getElem?_eq_some_iff.1 e1).1];exact e1
       ·rw[if_neg (by omega),hcap,Option.map_some,Addr.add_lit,hsz,←hwd,Nat.add_mul,Nat.add_assoc]
      ·rw[hnil]at hcap;cases hcap
   split at hs
   ·split at hs
    ·rename_i el hel
     simp only[B0,Prod.mk.injEq]at hs
     obtain⟨_,rfl,rfl⟩:=hs
     have hrun:=jf (P:=P) (w:=w) ht hi' (a:=a) (n:=n) (cap:=cap) hl hh hm (by simp) (by simp) (by simp) (by simp)
     simp at hrun
     refine⟨_,ρ++[⟨0,0,0,true,a,false⟩],hrun,List.prefix_append _ _,hr.add (fun _=>rfl) ⟨fun _=>⟨rfl,rfl⟩,(fun h=>by cases h)⟩,aK.2 ⟨_,hlast _, .inl ⟨rfl,rfl,rfl⟩⟩⟩
    ·cases hs
   ·rename_i h0
    split at hs
    ·cases hs
    ·cases hs
    ·rename_i hna hnm
     have hlm:lc.mark=true→False:=fun h=>by
      have hlt:k<hp.length:=by rw[←hr.len];exact(List.getElem?_eq_some_iff.1 hlc).1
      have hb:=List.getElem?_eq_getElem hlt
      have:=hr.marks k _ lc hb hlc h
      rw[ak]at hnm
      cases he:hp[k]with
      |mark=>exact hnm (by rw[hb,he])
      |_=>rw[he]at this;cases this
     simp only[B0,Prod.mk.injEq]at hs
     obtain⟨h1,rfl,rfl⟩:=hs
     subst h1
     simp only[B1,B3]at hok
     obtain⟨hro,b1,b2⟩:=hok
     have hnc:=hncap hro
     have hrun:=jf (P:=P) (w:=w) ht hi' (a:=a) (n:=n) (cap:=cap) hl hh hm (by simp) (by simpa using b1) (by simp only[Option.getD_some,Option.getD_none];omega) (by simp)
     simp only[Option.getD_none,Option.getD_some,Int.toNat_zero,Nat.zero_mul,Nat.sub_zero,Int.toNat_natCast,pd,ite_self]at hrun
     refine⟨_,ρ++[lc],hrun,List.prefix_append _ _,hr.add (fun h=>by cases h) ?_ (fun h=>(hlm h).elim),aK.2 ⟨lc,hlast _,?_⟩⟩
     ·show(ρ++[lc])[k]?=some lc
      rw[List.getElem?_append_left (List.getElem?_eq_some_iff.1 hlc).1]
      exact hlc
     ·rcases hcase with⟨g1,rfl,rfl,rfl⟩|⟨g1,rfl,rfl⟩
      ·exact .inl ⟨g1,by omega,by rw[show h0.toNat=0 by omega]⟩
      ·exact .inr ⟨g1,rfl⟩
   ·simp only[B0,Prod.mk.injEq]at hs
    obtain⟨h1,rfl,rfl⟩:=hs
    subst h1
    simp only[B1,B3]at hok
    obtain⟨hro,b1,b2,b3⟩:=hok
    have hnc:=hncap hro
    refine part false _ _ none c hl rfl _ rfl hh hm (by simp) hro b1 b2 b3 (by simp only[Option.getD_none];omega) (by simp) (fun h=>by cases h) ?_
    rcases hcase with⟨g1,_⟩|⟨g1,_,rfl⟩
    ·exact .inr g1
    ·exact .inl (by simp only[Option.getD_none];omega)
   ·rename_i h0 x0 _
    simp only[B0,Prod.mk.injEq]at hs
    obtain⟨h1,rfl,rfl⟩:=hs
    subst h1
    simp only[B1,B3,beq_iff_eq]at hok
    obtain⟨hro,b1,b2,b3,b4⟩:=hok
    subst b3
    have hnc:=hncap hro
    refine part true _ h0 (some h0) _ hl rfl _ rfl hh hm (by simp) hro b1 b2 b4 (by simp) (by simp only[Option.getD_some];omega) (fun _=>rfl) (.inl ?_)
    simp only[Option.getD_some]
    omega
   ·cases hs
 ·rename_i k o
  exact absurd rfl (hns k o)
 ·cases hs
theorem oX {el:X.El} (n:Nat) (z:X.den el):rows el (List.replicate n z)=td n (X.enc el z):=by
 induction n with
 |zero=>rfl
 |succ n ih=>simp only[List.replicate_succ,rows,List.flatMap_cons,td]at ih⊢;rw[ih]
omit X in
theorem lP {zs:List AV} {ys:List Value} (h:ab ρ zs=some ys) (ha:ys.all Value.oneCell'=true):∀n,∃us,ab ρ (td n zs)=some us∧us.all Value.oneCell'=true∧us=(List.range (n*ys.length)).map (fun j=>ys.toArray[j%ys.toArray.size]!)
 |0=>⟨[],rfl,rfl,by simp⟩
 |n+1=>by
  obtain⟨us,h1,h2,h3⟩:=lP h ha n
  refine⟨ys++us,aD.2 ⟨_,_,h,h1,rfl⟩,by rw[List.all_append,ha,h2];rfl,?_⟩
  rw[show(n+1)*ys.length=ys.length+n*ys.length by rw[Nat.add_mul,Nat.one_mul,Nat.add_comm],List.range_add,List.map_append,h3]
  congr 1
  ·apply List.ext_getElem?
   intro j
   by_cases hj:j<ys.length
   ·simp[hj,Nat.mod_eq_of_lt hj]
   ·simp[hj]
  ·rw[List.map_map]
   apply List.map_congr_left
   intro j _
   simp
theorem um (hX:bd X) {tt e:TypeId} {inf:TypeInfo} {zv:Value} {el:X.El} {z:X.den el} {zs:List AV} (ht:P.underlying tt=some (.slice e)) (hi:P.info? e=some inf) (hz:inf.zero=some zv) (hzs:ab [] zs=some zv.cells.toList) (bc:zv.cells.toList.all Value.oneCell'=true)
  (hdec:X.dec el zs=some z) (hsz:inf.size=X.width el) (hby:inf.bytes≤65536) (hw:1≤X.width el) (hr:HR w0 ρ hp w) {l c:Int} {k1 k2:IntKind} {ok:Bool} {u:AV} {hp':List (Blk (X:=X))} (h:vq el z (X.width el) hp l c=(ok,u,hp')) (hok:ok=true):
  ∃y w' ρ',(Instr.makeSlice tt (.int k1 l) (.int k2 c)).run P w= .ok y w'∧ρ<+:ρ'∧HR w0 ρ' hp' w'∧ah ρ' u=some y:=by
 simp only[vq,Prod.mk.injEq]at h
 obtain⟨h1,rfl,rfl⟩:=h
 subst h1
 simp only[B1,B3,beq_iff_eq]at hok
 obtain⟨a1,rfl,a2⟩:=hok
 have henc:=hX.back _ _ _ hdec
 obtain⟨us,d1,d2,d3⟩:=lP (ρ:=[]) hzs bc l.toNat
 have hwr:IntKind.i64.wrap l=l:=IntWalk.i64_in l (by omega)
 have hzl:zv.cells.toList.length=X.width el:=by rw[ar hzs,←henc,hX.len]
 have hbig:¬(281474976710656<(inf.bytes:Int)*l):=by
  have h1:(inf.bytes:Int)*l≤65536*1048576:=by
   have h2:(inf.bytes:Int)*l≤65536*l:=Int.mul_le_mul_of_nonneg_right (by omega) a1
   omega
  omega
 have hlt:¬l<0:=by omega
 have hrow:(Array.range (l.toNat*inf.size)).map (fun j=>zv.cells[j%zv.cells.size]!)=us.toArray:=by
  rw[d3,hzl,hsz,Array.toArray_toList,nf,Array.toList_range]
 have hrow0:l.toNat*inf.size=0→us=[]:=fun h0=>by
  rw[d3,hzl,←hsz,h0];rfl
 have hrun:(Instr.makeSlice tt (.int k1 l) (.int k2 l)).run P w= .ok (.slice (some ⟨w.heap.size,0,none⟩) l.toNat l.toNat) (w.alloc (.cells us.toArray e)):=by
  by_cases h0:l.toNat*inf.size=0
  ·have hu:=hrow0 h0
   subst hu
   simp[Instr.makeSlice,run_underlying ht,asInt,asIntOf,eg hi,hwr,hlt,hbig,a7 hi,newRow,h0,show Array.range 0= #[] from Array.ext' (by simp)]
  ·simp[Instr.makeSlice,run_underlying ht,asInt,asIntOf,eg hi,hwr,hlt,hbig,a7 hi,newRow,zeroValue,hz,h0,hrow]
 refine⟨_,_,ρ++[⟨w.heap.size,0,l.toNat,false,none,false⟩],hrun,List.prefix_append _ _,hr.new ((Below.refl _ _).alloc (Nat.le_refl _) _) (fun _ _=>Nat.le_refl _) ⟨(fun h=>by cases h),fun _=>⟨rfl,hr.below.size,by simp,us,[],e,?_,?_,by simp⟩⟩,?_⟩
 ·rw[oX,henc];exact d1
 ·rw[List.append_nil];exact heap_alloc_new _ _
 ·rw[←hr.len];exact iC rfl rfl
omit X in
theorem run_sliceAt_slice {t e:TypeId} (ht:P.underlying t=some (.slice e)) {x:Value} {lo hi mx:Option Value}:(Instr.sliceAt t x lo hi mx).run P w=(Instr.slice t x lo hi mx).run P w:=by
 simp only[Instr.sliceAt,Sem.run_bind,run_underlying ht,Result.andThen_ok]
theorem rH {tt e:TypeId} {inf:TypeInfo} {n:Nat} (ht:P.underlying tt=some (.array n e)) (hi:P.info? e=some inf) (hsz:inf.size=1) (hn:n≠0) (_hr:HR w0 ρ hp w) {k o:Nat} {x:Value} (hv:ah ρ (.ptr k o)=some x):
  ∃y,(Instr.sliceAt tt x none none none).run P w= .ok y w∧ah ρ (.sl k o 1 n (some (o+n)))=some y:=by
 obtain⟨l,hl,hnil,rfl⟩:=bF.1 hv
 refine⟨.slice (some ⟨l.b,l.off+o,none⟩) n n,?_,aK.2 ⟨l,hl, .inr ⟨hnil,by simp⟩⟩⟩
 simp[Instr.sliceAt,run_underlying ht,Instr.sureAddr,Instr.sliceBounds,a7 hi,hsz,hn,Addr.add]
end
end Go.Proofs.Ytdadgkgkdgnihaa.Px
