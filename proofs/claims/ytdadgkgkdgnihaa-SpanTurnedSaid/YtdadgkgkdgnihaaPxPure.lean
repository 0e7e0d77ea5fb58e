/- Each operation that turns nothing: the model's own step comes to the evaluator's value. -/
import Derived.Test.YtdadgkgkdgnihaaPxType
set_option linter.unusedVariables false
set_option linter.unusedSimpArgs false
namespace Go.Proofs.Ytdadgkgkdgnihaa.Px
open Go Go.RowKit
def dw (P:Program) (w:World) (x:Value):Result Next→Prop
 | .ok (.value u) w'=>w'=w∧u=x
 | .ok (.enter f args) w'=>w'=w∧Calls P f args w (fun e w''=>e= .returned x∧Below w.heap.size w w'')
 |_=>False
theorem dw.value {P:Program} {w:World} {x:Value} {r:Result Next} (h:r= .ok (.value x) w):dw P w x r:=by rw[h];exact⟨rfl,rfl⟩
def qT (P:Program) (n:Nat):Prop:=∃fn,P.funcs[n]?=some fn∧(fn.name== "runtime.NumGoroutine")=false∧fn.body.isNone=false
theorem bM {P:Program} {n:Nat} (h:qT P n) (args:Array Value) (w:World):(callFunc n args).run P w= .ok (.enter n args) w:=by
 obtain⟨fn,h1,h2,h3⟩:=h
 have h2':¬fn.name= "runtime.NumGoroutine" :=by simpa using h2
 have h3':¬fn.body=none:=by intro e;rw[e]at h3;simp at h3
 simp[callFunc,h1,h2',h3']
theorem eg {P:Program} {t:Nat} {inf:TypeInfo} (h:P.info? t=some inf) (w:World):(typeInfo t).run P w= .ok inf w:=by simp[typeInfo,h]
theorem a7 {P:Program} {t:Nat} {inf:TypeInfo} (h:P.info? t=some inf) (w:World):(sizeOf t).run P w= .ok inf.size w:=by simp[sizeOf,eg h]
theorem dR {P:Program} {t:Nat} {d:TypeDesc} (h:P.underlying t=some d) (w:World):(isAgg t).run P w= .ok (bE d) w:=by
 cases d<;>simp[isAgg,run_underlying h,bE]
theorem rS {P:Program} {w:World} {t:Nat} {inf:TypeInfo} {d:TypeDesc} {ρ:List Loc} {cs:List AV} {ys:List Value} {o:Nat} {v:AV} (hi:P.info? t=some inf) (hd:P.underlying t=some d)
  (hc:ab ρ cs=some ys) (ho:ys.all Value.oneCell'=true) (h:Px.part (bE d) cs o inf.size=some v):
  ∃x,ah ρ v=some x∧(Go.part t ys.toArray o).run P w= .ok x w:=by
 unfold Px.part at h
 cases ha:bE d with
 |true=>
  rw[ha]at h
  cases hb:Nat.ble (o+inf.size) cs.length with
  |false=>rw[hb]at h;cases h
  |true=>
   rw[hb]at h
   simp only[B4,B0,cT,cN]at h
   subst h
   refine⟨.agg ((ys.drop o).take inf.size).toArray,bx.2 ⟨_,cr _ (cq _ hc),oV _ (nS _ ho),rfl⟩,?_⟩
   simp only[Go.part,Sem.run_bind,dR hd,Result.andThen_ok,ha,if_true,a7 hi,Sem.run_pure]
   simp
 |false=>
  rw[ha,ak]at h
  obtain⟨x,hx,hv⟩:=eR hc h
  refine⟨x,hv,?_⟩
  simp only[Go.part,Sem.run_bind,dR hd,Result.andThen_ok,ha,Bool.false_eq_true,if_false]
  simp[hx]
theorem q6 {agg:Bool} {cs:List AV} {o n:Nat} {v:AV} (h:Px.part agg cs o n=some v):(agg=true∧o+n≤cs.length∧v= .agg ((cs.drop o).take n))∨(agg=false∧cs[o]?=some v):=by
 unfold Px.part at h
 cases agg with
 |true=>
  cases hb:Nat.ble (o+n) cs.length with
  |false=>rw[hb]at h;cases h
  |true=>
   rw[hb]at h
   simp only[B4,B0,cT,cN]at h
   exact .inl ⟨rfl,Nat.le_of_ble_eq_true hb,h.symm⟩
 |false=>rw[ak]at h;exact .inr ⟨rfl,h⟩
theorem eB {P:Program} {w:World} {t:Nat} {inf:TypeInfo} {d:TypeDesc} {ρ:List Loc} {cs:List AV} {ys:List Value} {b off o:Nat} {v:AV} (hi:P.info? t=some inf) (hd:P.underlying t=some d)
  (hc:ab ρ cs=some ys) (ho:ys.all Value.oneCell'=true) (hw:∀j y,ys[j]?=some y→w.cell? ⟨b,off+j,none⟩=some y) (h:Px.part (bE d) cs o inf.size=some v):
  ∃x,ah ρ v=some x∧(loadVar t ⟨b,off+o,none⟩).run P w= .ok x w:=by
 rcases q6 h with⟨ha,hl,rfl⟩|⟨ha,hv⟩
 ·refine⟨.agg ((ys.drop o).take inf.size).toArray,bx.2 ⟨_,cr _ (cq _ hc),oV _ (nS _ ho),rfl⟩,?_⟩
  simp only[loadVar,Sem.run_bind,dR hd,Result.andThen_ok,ha,if_true,a7 hi]
  have hlen:((ys.drop o).take inf.size).length=inf.size:=by rw[List.length_take,List.length_drop,ar hc];omega
  have:=run_loadCells_list (P:=P) w ⟨b,off+o,none⟩ ((ys.drop o).take inf.size) (fun j y hj=>by
   have hjl:j<inf.size:=by have:=(List.getElem?_eq_some_iff.1 hj).1;omega
   rw[List.getElem?_take_of_lt hjl,List.getElem?_drop]at hj
   have:=hw (o+j) y hj
   rw[Addr.add_lit,Nat.add_assoc]
   exact this)
  rw[hlen]at this
  rw[this]
  rfl
 ·obtain⟨x,hx,hcx⟩:=eR hc hv
  refine⟨x,hcx,?_⟩
  simp only[loadVar,Sem.run_bind,dR hd,Result.andThen_ok,ha,Bool.false_eq_true,if_false,run_load,hw o x hx]
theorem bQ {w:World} {b:Nat} {arr:Array Value} {t:TypeId} (h:w.heap[b]?=some (.cells arr t (0,0))) (j:Nat):w.cell? ⟨b,j,none⟩=arr[j]?:=by
 simp[World.cell?,h]
theorem nL {w:World} {b:Nat} {arr:Array Value} {t:TypeId} (h:w.heap[b]?=some (.cells arr t (0,0))) (j:Nat):w.frozen? ⟨b,j,none⟩=false:=by
 simp[World.frozen?,h]
section
variable [X:aS]
theorem rF (hX:bd X) {t:X.El}:∀{xs:List (X.den t)} {ys:List Value} {i:Nat} (hi:i<xs.length),ab [] (rows t xs)=some ys→
  ab [] (X.enc t xs[i])=some ((ys.drop (i*X.width t)).take (X.width t))
 | [],_,i,hi,_=>by simp at hi
 |x::xs,ys,i,hi,h=>by
  simp only[rows,List.flatMap_cons]at h
  obtain⟨a,b,ha,hb,rfl⟩:=aD.1 h
  have hal:a.length=X.width t:=by rw[ar ha,hX.len]
  cases i with
  |zero=>simp only[List.getElem_cons_zero,Nat.zero_mul,List.drop_zero];rw[←hal,List.take_left];exact ha
  |succ i=>
   have:=rF hX (i:=i) (by simpa using hi) hb
   simp only[List.getElem_cons_succ]
   rw[this,show(i+1)*X.width t=a.length+i*X.width t by rw[hal,Nat.add_mul];omega,List.drop_append,List.drop_eq_nil_of_le (as:=a) (by omega)]
   simp
theorem fF (hX:bd X) {t:X.El} (xs:List (X.den t)):(rows t xs).length=xs.length*X.width t:=by
 induction xs with
 |nil=>simp[rows]
 |cons x xs ih=>simp only[rows,List.flatMap_cons,List.length_append,hX.len]at ih⊢;rw[ih,List.length_cons,Nat.add_mul];omega
theorem oL (hX:bd X) {t:X.El}:∀{xs:List (X.den t)} {ys:List Value},ab [] (rows t xs)=some ys→ys.all Value.oneCell'=true
 | [],ys,h=>by simp[rows,ab]at h;subst h;rfl
 |x::xs,ys,h=>by
  simp only[rows,List.flatMap_cons]at h
  obtain⟨a,b,ha,hb,rfl⟩:=aD.1 h
  obtain⟨ys,h1,h2⟩:=hX.cells t x
  rw[h1]at ha
  simp only[B0]at ha
  subst ha
  simp only[List.all_append,h2,oL hX hb,Bool.and_self]
omit X in
theorem lB:∀{vs:List AV} {k:IntKind} {ns:List Int},bh vs=some (k,ns)→vs=ns.map (.int k)
 | [],_,_,h=>by simp[bh]at h
 | [.int k n],_,_,h=>by
  simp only[bh,B0,Prod.mk.injEq]at h
  obtain⟨rfl,rfl⟩:=h
  rfl
 | .int k n::u::l,k',ns,h=>by
  simp only[bh]at h
  split at h
  ·rename_i k2 ns2 h2
   cases hk:kEq k k2 with
   |false=>rw[hk]at h;cases h
   |true=>
    rw[hk,B4]at h
    simp only[B0,Prod.mk.injEq]at h
    obtain⟨rfl,rfl⟩:=h
    rw[lB h2,bp hk]
    rfl
  ·cases h
 | .bool _::_,_,_,h=>by simp[bh]at h
 | .str _::_,_,_,h=>by simp[bh]at h
 | .ptr _ _::_,_,_,h=>by simp[bh]at h
 | .pel _ _ _ _::_,_,_,h=>by simp[bh]at h
 | .sl _ _ _ _ _::_,_,_,h=>by simp[bh]at h
 | .val _::_,_,_,h=>by simp[bh]at h
 | .fn _ _ _::_,_,_,h=>by simp[bh]at h
 | .agg _::_,_,_,h=>by simp[bh]at h
 | .tup _::_,_,_,h=>by simp[bh]at h
 | .ifc _ _::_,_,_,h=>by simp[bh]at h
omit X in
theorem nY {k:IntKind}:∀{ns:List Int} {o:Nat},o<ns.length→(ns.map (AV.int k))[o]?=some (.int k (yj ns o))
 | [],_,h=>by simp at h
 |x::l,0,_=>rfl
 |x::l,o+1,h=>by simpa[yj]using nY (k:=k) (ns:=l) (o:=o) (by simpa using h)
omit X in
theorem jI {k:IntKind} {ns:List Int}:∀{n o:Nat},o+n≤ns.length→cR k ns o n=((ns.map (AV.int k)).drop o).take n
 |0,_,_=>by simp[cR]
 |n+1,o,h=>by
  rw[cR,jI (by omega)]
  have:=nY (k:=k) (ns:=ns) (o:=o) (by omega)
  obtain⟨hl,he⟩:=List.getElem?_eq_some_iff.1 this
  rw[List.drop_eq_getElem_cons hl,he,List.take_succ_cons]
omit X in
theorem lT {g:Bool} {vs:List AV} {k:IntKind} {ns:List Int} {o n:Nat} {v:AV} (h:bh vs=some (k,ns)) (ho:o+n≤vs.length) (hv:yl g (cR k ns o n)=some v):Px.part g vs o n=some v:=by
 have e:=lB h
 subst e
 rw[List.length_map]at ho
 have hp:=jI (k:=k) ho
 cases g with
 |true=>
  simp only[yl,B0]at hv
  subst hv
  unfold Px.part
  rw[show Nat.ble (o+n) (ns.map (AV.int k)).length=true from Nat.ble_eq_true_of_le (by simpa using ho),B4,hp,cT,cN]
 |false=>
  unfold yl at hv
  split at hv
  ·rename_i heq;cases heq
  ·rename_i c hc
   simp only[B0]at hv
   subst hv
   match n,ho,hc,hp with
   |0,_,hc,_=>simp[cR]at hc
   |1,ho,hc,_=>
    simp only[cR,List.cons.injEq,and_true]at hc
    unfold Px.part
    rw[ak,nY (by omega),hc]
   |n+2,_,hc,_=>simp[cR]at hc
  ·cases hv
omit X in
theorem tq {g:Bool} {n:Nat} {cs:List AV} {o:Nat} {ok:Bool} {v:AV} (h:yD g n cs o=some (ok,v)) (hok:ok=true):Px.part g cs o n=some v:=by
 have old:(Px.part g cs o n).map (fun v=>(true,v))=some (ok,v)→Px.part g cs o n=some v:=by
  intro h
  simp only[Option.map_eq_some_iff,Prod.mk.injEq]at h
  obtain⟨u,hu,_,rfl⟩:=h
  exact hu
 unfold yD at h
 cases hc:and (Nat.ble 8 cs.length) (and (Nat.beq n 1) (!g))with
 |false=>rw[hc,B5]at h;exact old h
 |true=>
  rw[hc,B4]at h
  have hc':(Nat.ble 8 cs.length&&(Nat.beq n 1&& !g))=true:=hc
  simp only[B1,Bool.not_eq_true']at hc'
  obtain⟨_,hn,rfl⟩:=hc'
  obtain rfl:=B2 hn
  split at h
  ·rename_i k ns ha
   simp only[B0,Prod.mk.injEq]at h
   obtain⟨h1,rfl⟩:=h
   rw[hok]at h1
   exact lT ha (Nat.le_of_ble_eq_true h1) rfl
  ·exact old h
theorem cG {w0:aN} {w:World} {ρ:List Loc} {hp:List (Blk (X:=X))} {k:Nat} {l:Loc} (hr:HR w0 ρ hp w) (hl:ρ[k]?=some l) (hn:l.nil=false):
  ∃l',ρ[deref hp k]?=some l'∧l'.nil=false∧l'.b=l.b∧l'.off=l.off∧l'.cap=l.cap:=by
 unfold deref
 rw[ak]
 split
 ·rename_i j f p hk
  have:=hr.blk k _ l hk hl
  cases p with
  |true=>exact⟨l,this,hn,rfl,rfl,rfl⟩
  |false=>
   rcases this with h|h
   ·rw[hn]at h;cases h.1
   ·exact h.2
 ·exact⟨l,hl,hn,rfl,rfl,rfl⟩
theorem lv (hX:bd X) {P:Program} {w0:aN} {w:World} {ρ:List Loc} {hp:List (Blk (X:=X))} {t:Nat} {inf:TypeInfo} {d:TypeDesc} {p:AV} {px:Value} {ok:Bool} {v:AV}
  (hr:HR w0 ρ hp w) (hi:P.info? t=some inf) (hd:P.underlying t=some d) (hp':ah ρ p=some px) (h:loadAt (bE d) inf.size hp p=some (ok,v)) (hok:ok=true):
  ∃x a,px= .pointer (some a)∧ah ρ v=some x∧(loadVar t a).run P w= .ok x w:=by
 cases p with
 |ptr k o=>
  simp only[loadAt,ak]at h
  simp only[ah,Option.bind_eq_some_iff]at hp'
  obtain⟨l,hl,e⟩:=hp'
  cases hk:hp[k]? with
  |none=>rw[hk]at h;cases h
  |some b=>
   rw[hk]at h
   cases b with
   |raw cs=>
    have hv:=tq h hok
    obtain⟨hn,hoff,_,ys,ty,hc,ho,hh⟩:=hr.blk k _ l hk hl
    rw[hn]at e
    simp only[Bool.false_eq_true,if_false,B0]at e
    subst e
    obtain⟨x,hx,hrun⟩:=eB (P:=P) (w:=w) (b:=l.b) (off:=l.off) hi hd hc ho (fun j y hj=>by rw[hoff,Nat.zero_add,bQ hh];simpa using hj) hv
    exact⟨x,_,rfl,hx,hrun⟩
   |dead=>simp at h
   |dfr=>simp at h
   |iJ=>simp at h
   |mark=>simp at h
   |rcd=>simp at h
   |alias=>simp at h
   |vec=>simp at h
 |pel k i wd o=>
  simp only[loadAt,ak]at h
  simp only[ah,Option.bind_eq_some_iff]at hp'
  obtain⟨l0,hl0,e⟩:=hp'
  have hn0:l0.nil=false:=by
   cases hn:l0.nil with
   |false=>rfl
   |true=>rw[hn]at e;simp at e
  obtain⟨l,hl,hn1,hb1,ho1,_⟩:=cG hr hl0 hn0
  rw[hn0,←hb1,←ho1,←hn1]at e
  generalize deref hp k=k at*
  cases hk:hp[k]? with
  |none=>rw[hk]at h;cases h
  |some b=>
   rw[hk]at h
   cases b with
   |raw cs=>
    simp only[Option.map_eq_some_iff,Prod.mk.injEq]at h
    obtain⟨v',hv,rfl,rfl⟩:=h
    obtain⟨hn,hoff,_,ys,ty,hc,ho,hh⟩:=hr.blk k _ l hk hl
    rw[hn]at e
    simp only[Bool.false_eq_true,if_false,B0]at e
    subst e
    obtain⟨x,hx,hrun⟩:=eB (P:=P) (w:=w) (b:=l.b) (off:=l.off) hi hd hc ho (fun j y hj=>by rw[hoff,Nat.zero_add,bQ hh];simpa using hj) hv
    exact⟨x,_,rfl,hx,hrun⟩
   |dead=>simp at h
   |dfr=>simp at h
   |iJ=>simp at h
   |mark=>simp at h
   |rcd=>simp at h
   |alias=>simp at h
   |vec te xs own=>
    cases hwd:Nat.beq wd (X.width te)with
    |false=>simp[hwd]at h
    |true=>
     simp only[hwd]at h
     have hwe:wd=X.width te:=B2 hwd
     simp only[B4,Option.map_eq_some_iff,Prod.mk.injEq]at h
     obtain⟨v',hv,rfl,rfl⟩:=h
     have hlt:i<xs.length:=of_decide_eq_true hok
     have hnil:l.nil=false:=by
      cases hn:l.nil with
      |false=>rfl
      |true=>rw[hn]at e;simp at e
     rw[hnil]at e
     simp only[Bool.false_eq_true,if_false,B0]at e
     subst e
     have key:∃ys,ab [] (rows te xs)=some ys∧∀j y,ys[j]?=some y→w.cell? ⟨l.b,l.off+j,none⟩=some y:=by
      have hb:=hr.blk k _ l hk hl
      cases own with
      |true=>
       obtain⟨hoff,_,_,ys,spare,ty,hc,hh,_⟩:=hb.2 hnil
       refine⟨ys,hc,fun j y hj=>?_⟩
       rw[hoff,Nat.zero_add,bQ hh]
       have:=(List.getElem?_eq_some_iff.1 hj).1
       simp only[List.getElem?_toArray]
       rw[List.getElem?_append_left this]
       exact hj
      |false=>
       obtain⟨hlb,_,ys,hc,hh⟩:=hb.2 hnil
       exact⟨ys,hc,fun j y hj=>(hr.below.cell (p:=⟨l.b,l.off+j,none⟩) hlb).trans (hh j y hj)⟩
     obtain⟨ys,hc,hcell⟩:=key
     have hrow:=rF hX hlt hc
     have hrow':ab ρ (X.enc te (xs.getD i (X.ki te)))=some ((ys.drop (i*X.width te)).take (X.width te)):=by
      have:xs.getD i (X.ki te)=xs[i]:=by simp[List.getD,hlt]
      rw[this]
      exact aB (List.nil_prefix) _ _ hrow
     obtain⟨x,hx,hrun⟩:=eB (P:=P) (w:=w) (b:=l.b) (off:=l.off+i*X.width te) hi hd hrow' (oV _ (nS _ (oL hX hc))) (fun j y hj=>by
      have hjw:j<X.width te:=by
       have:=(List.getElem?_eq_some_iff.1 hj).1
       rw[List.length_take]at this;omega
      rw[List.getElem?_take_of_lt hjw,List.getElem?_drop]at hj
      have:=hcell _ _ hj
      rw[Nat.add_assoc]
      exact this) hv
     refine⟨x,_,rfl,hx,?_⟩
     rw[hwe,←Nat.add_assoc]
     exact hrun
 |_=>simp[loadAt]at h
end
end Go.Proofs.Ytdadgkgkdgnihaa.Px
