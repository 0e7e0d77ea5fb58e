/- Each operation that turns nothing: the model's own step comes to the evaluator's value. -/
import Derived.Test.YtfhepbbkggdlcaaGreatDoorPxType
set_option linter.unusedVariables false
set_option linter.unusedSimpArgs false
namespace Go.Proofs.YtfhepbbkggdlcaaGreatDoor.Px
open Go Go.RowKit
def eA (P:Program) (w:World) (x:Value):Result Next→Prop
 | .ok (.value u) w'=>w'=w∧u=x
 | .ok (.enter f args) w'=>w'=w∧Calls P f args w (fun e w''=>e= .returned x∧Below w.heap.size w w'')
 |_=>False
theorem eA.value {P:Program} {w:World} {x:Value} {r:Result Next} (h:r= .ok (.value x) w):eA P w x r:=by rw[h];exact⟨rfl,rfl⟩
def Gx (P:Program) (n:Nat):Prop:=∃fn,P.funcs[n]?=some fn∧(fn.name== "runtime.NumGoroutine")=false∧fn.body.isNone=false
theorem dR {P:Program} {n:Nat} (h:Gx P n) (args:Array Value) (w:World):(callFunc n args).run P w= .ok (.enter n args) w:=by
 obtain⟨fn,h1,h2,h3⟩:=h
 have h2':¬fn.name= "runtime.NumGoroutine" :=by simpa using h2
 have h3':¬fn.body=none:=by intro e;rw[e]at h3;simp at h3
 simp[callFunc,h1,h2',h3']
theorem jT {P:Program} {t:Nat} {inf:TypeInfo} (h:P.info? t=some inf) (w:World):(typeInfo t).run P w= .ok inf w:=by simp[typeInfo,h]
theorem cv {P:Program} {t:Nat} {inf:TypeInfo} (h:P.info? t=some inf) (w:World):(sizeOf t).run P w= .ok inf.size w:=by simp[sizeOf,jT h]
theorem gO {P:Program} {t:Nat} {d:TypeDesc} (h:P.underlying t=some d) (w:World):(isAgg t).run P w= .ok (du d) w:=by
 cases d<;>simp[isAgg,run_underlying h,du]
theorem Jp {P:Program} {w:World} {t:Nat} {inf:TypeInfo} {d:TypeDesc} {ρ:List Loc} {cs:List AV} {ys:List Value} {o:Nat} {v:AV} (hi:P.info? t=some inf) (hd:P.underlying t=some d)
  (hc:au ρ cs=some ys) (ho:ys.all Value.oneCell'=true) (h:Px.part (du d) cs o inf.size=some v):
  ∃x,aA ρ v=some x∧(Go.part t ys.toArray o).run P w= .ok x w:=by
 unfold Px.part at h
 cases ha:du d with
 |true=>
  rw[ha]at h
  cases hb:Nat.ble (o+inf.size) cs.length with
  |false=>rw[hb]at h;cases h
  |true=>
   rw[hb]at h
   simp only[XU,XQ,fR,fQ]at h
   subst h
   refine⟨.agg ((ys.drop o).take inf.size).toArray,dn.2 ⟨_,eJ _ (eK _ hc),DG _ (DE _ ho),rfl⟩,?_⟩
   simp only[Go.part,Sem.run_bind,gO hd,Result.andThen_ok,ha,if_true,cv hi,Sem.run_pure]
   simp
 |false=>
  rw[ha,aG]at h
  obtain⟨x,hx,hv⟩:=lE hc h
  refine⟨x,hv,?_⟩
  simp only[Go.part,Sem.run_bind,gO hd,Result.andThen_ok,ha,Bool.false_eq_true,if_false]
  simp[hx]
theorem Gd {agg:Bool} {cs:List AV} {o n:Nat} {v:AV} (h:Px.part agg cs o n=some v):(agg=true∧o+n≤cs.length∧v= .agg ((cs.drop o).take n))∨(agg=false∧cs[o]?=some v):=by
 unfold Px.part at h
 cases agg with
 |true=>
  cases hb:Nat.ble (o+n) cs.length with
  |false=>rw[hb]at h;cases h
  |true=>
   rw[hb]at h
   simp only[XU,XQ,fR,fQ]at h
   exact .inl ⟨rfl,Nat.le_of_ble_eq_true hb,h.symm⟩
 |false=>rw[aG]at h;exact .inr ⟨rfl,h⟩
theorem lu {P:Program} {w:World} {t:Nat} {inf:TypeInfo} {d:TypeDesc} {ρ:List Loc} {cs:List AV} {ys:List Value} {b off o:Nat} {v:AV} (hi:P.info? t=some inf) (hd:P.underlying t=some d)
  (hc:au ρ cs=some ys) (ho:ys.all Value.oneCell'=true) (hw:∀j y,ys[j]?=some y→w.cell? ⟨b,off+j,none⟩=some y) (h:Px.part (du d) cs o inf.size=some v):
  ∃x,aA ρ v=some x∧(loadVar t ⟨b,off+o,none⟩).run P w= .ok x w:=by
 rcases Gd h with⟨ha,hl,rfl⟩|⟨ha,hv⟩
 ·refine⟨.agg ((ys.drop o).take inf.size).toArray,dn.2 ⟨_,eJ _ (eK _ hc),DG _ (DE _ ho),rfl⟩,?_⟩
  simp only[loadVar,Sem.run_bind,gO hd,Result.andThen_ok,ha,if_true,cv hi]
  have hlen:((ys.drop o).take inf.size).length=inf.size:=by rw[List.length_take,List.length_drop,aO hc];omega
  have:=run_loadCells_list (P:=P) w ⟨b,off+o,none⟩ ((ys.drop o).take inf.size) (fun j y hj=>by
   have hjl:j<inf.size:=by have:=(List.getElem?_eq_some_iff.1 hj).1;omega
   rw[List.getElem?_take_of_lt hjl,List.getElem?_drop]at hj
   have:=hw (o+j) y hj
   rw[Addr.add_lit,Nat.add_assoc]
   exact this)
  rw[hlen]at this
  rw[this]
  rfl
 ·obtain⟨x,hx,hcx⟩:=lE hc hv
  refine⟨x,hcx,?_⟩
  simp only[loadVar,Sem.run_bind,gO hd,Result.andThen_ok,ha,Bool.false_eq_true,if_false,run_load,hw o x hx]
theorem dW {w:World} {b:Nat} {arr:Array Value} {t:TypeId} (h:w.heap[b]?=some (.cells arr t (0,0))) (j:Nat):w.cell? ⟨b,j,none⟩=arr[j]?:=by
 simp[World.cell?,h]
theorem Eh {w:World} {b:Nat} {arr:Array Value} {t:TypeId} (h:w.heap[b]?=some (.cells arr t (0,0))) (j:Nat):w.frozen? ⟨b,j,none⟩=false:=by
 simp[World.frozen?,h]
section
variable [X:bQ]
theorem Iw (hX:cJ X) {t:X.El}:∀{xs:List (X.den t)} {ys:List Value} {i:Nat} (hi:i<xs.length),au [] (rows t xs)=some ys→
  au [] (X.enc t xs[i])=some ((ys.drop (i*X.width t)).take (X.width t))
 | [],_,i,hi,_=>by simp at hi
 |x::xs,ys,i,hi,h=>by
  simp only[rows,List.flatMap_cons]at h
  obtain⟨a,b,ha,hb,rfl⟩:=bd.1 h
  have hal:a.length=X.width t:=by rw[aO ha,hX.len]
  cases i with
  |zero=>simp only[List.getElem_cons_zero,Nat.zero_mul,List.drop_zero];rw[←hal,List.take_left];exact ha
  |succ i=>
   have:=Iw hX (i:=i) (by simpa using hi) hb
   simp only[List.getElem_cons_succ]
   rw[this,show(i+1)*X.width t=a.length+i*X.width t by rw[hal,Nat.add_mul];omega,List.drop_append,List.drop_eq_nil_of_le (as:=a) (by omega)]
   simp
theorem mR (hX:cJ X) {t:X.El} (xs:List (X.den t)):(rows t xs).length=xs.length*X.width t:=by
 induction xs with
 |nil=>simp[rows]
 |cons x xs ih=>simp only[rows,List.flatMap_cons,List.length_append,hX.len]at ih⊢;rw[ih,List.length_cons,Nat.add_mul];omega
theorem DH (hX:cJ X) {t:X.El}:∀{xs:List (X.den t)} {ys:List Value},au [] (rows t xs)=some ys→ys.all Value.oneCell'=true
 | [],ys,h=>by simp[rows,au]at h;subst h;rfl
 |x::xs,ys,h=>by
  simp only[rows,List.flatMap_cons]at h
  obtain⟨a,b,ha,hb,rfl⟩:=bd.1 h
  obtain⟨ys,h1,h2⟩:=hX.cells t x
  rw[h1]at ha
  simp only[XQ]at ha
  subst ha
  simp only[List.all_append,h2,DH hX hb,Bool.and_self]
omit X in
theorem xq:∀{vs:List AV} {k:IntKind} {ns:List Int},cQ vs=some (k,ns)→vs=ns.map (.int k)
 | [],_,_,h=>by simp[cQ]at h
 | [.int k n],_,_,h=>by
  simp only[cQ,XQ,Prod.mk.injEq]at h
  obtain⟨rfl,rfl⟩:=h
  rfl
 | .int k n::u::l,k',ns,h=>by
  simp only[cQ]at h
  split at h
  ·rename_i k2 ns2 h2
   cases hk:kEq k k2 with
   |false=>rw[hk]at h;cases h
   |true=>
    rw[hk,XU]at h
    simp only[XQ,Prod.mk.injEq]at h
    obtain⟨rfl,rfl⟩:=h
    rw[xq h2,ct hk]
    rfl
  ·cases h
 | .bool _::_,_,_,h=>by simp[cQ]at h
 | .str _::_,_,_,h=>by simp[cQ]at h
 | .ptr _ _::_,_,_,h=>by simp[cQ]at h
 | .pel _ _ _ _::_,_,_,h=>by simp[cQ]at h
 | .sl _ _ _ _ _::_,_,_,h=>by simp[cQ]at h
 | .val _::_,_,_,h=>by simp[cQ]at h
 | .fn _ _ _::_,_,_,h=>by simp[cQ]at h
 | .agg _::_,_,_,h=>by simp[cQ]at h
 | .tup _::_,_,_,h=>by simp[cQ]at h
 | .ifc _ _::_,_,_,h=>by simp[cQ]at h
omit X in
theorem Cp {k:IntKind}:∀{ns:List Int} {o:Nat},o<ns.length→(ns.map (AV.int k))[o]?=some (.int k (cP ns o))
 | [],_,h=>by simp at h
 |x::l,0,_=>rfl
 |x::l,o+1,h=>by simpa[cP]using Cp (k:=k) (ns:=l) (o:=o) (by simpa using h)
omit X in
theorem vv {k:IntKind} {ns:List Int}:∀{n o:Nat},o+n≤ns.length→fV k ns o n=((ns.map (AV.int k)).drop o).take n
 |0,_,_=>by simp[fV]
 |n+1,o,h=>by
  rw[fV,vv (by omega)]
  have:=Cp (k:=k) (ns:=ns) (o:=o) (by omega)
  obtain⟨hl,he⟩:=List.getElem?_eq_some_iff.1 this
  rw[List.drop_eq_getElem_cons hl,he,List.take_succ_cons]
omit X in
theorem zP {g:Bool} {vs:List AV} {k:IntKind} {ns:List Int} {o n:Nat} {v:AV} (h:cQ vs=some (k,ns)) (ho:o+n≤vs.length) (hv:Qp g (fV k ns o n)=some v):Px.part g vs o n=some v:=by
 have e:=xq h
 subst e
 rw[List.length_map]at ho
 have hp:=vv (k:=k) ho
 cases g with
 |true=>
  simp only[Qp,XQ]at hv
  subst hv
  unfold Px.part
  rw[show Nat.ble (o+n) (ns.map (AV.int k)).length=true from Nat.ble_eq_true_of_le (by simpa using ho),XU,hp,fR,fQ]
 |false=>
  unfold Qp at hv
  split at hv
  ·rename_i heq;cases heq
  ·rename_i c hc
   simp only[XQ]at hv
   subst hv
   match n,ho,hc,hp with
   |0,_,hc,_=>simp[fV]at hc
   |1,ho,hc,_=>
    simp only[fV,List.cons.injEq,and_true]at hc
    unfold Px.part
    rw[aG,Cp (by omega),hc]
   |n+2,_,hc,_=>simp[fV]at hc
  ·cases hv
omit X in
theorem Kf {g:Bool} {n:Nat} {cs:List AV} {o:Nat} {ok:Bool} {v:AV} (h:RU g n cs o=some (ok,v)) (hok:ok=true):Px.part g cs o n=some v:=by
 have old:(Px.part g cs o n).map (fun v=>(true,v))=some (ok,v)→Px.part g cs o n=some v:=by
  intro h
  simp only[Option.map_eq_some_iff,Prod.mk.injEq]at h
  obtain⟨u,hu,_,rfl⟩:=h
  exact hu
 unfold RU at h
 cases hc:and (Nat.ble 8 cs.length) (and (Nat.beq n 1) (!g))with
 |false=>rw[hc,XV]at h;exact old h
 |true=>
  rw[hc,XU]at h
  have hc':(Nat.ble 8 cs.length&&(Nat.beq n 1&& !g))=true:=hc
  simp only[XR,Bool.not_eq_true']at hc'
  obtain⟨_,hn,rfl⟩:=hc'
  obtain rfl:=XS hn
  split at h
  ·rename_i k ns ha
   simp only[XQ,Prod.mk.injEq]at h
   obtain⟨h1,rfl⟩:=h
   rw[hok]at h1
   exact zP ha (Nat.le_of_ble_eq_true h1) rfl
  ·exact old h
theorem fj {w0:cf} {w:World} {ρ:List Loc} {hp:List (Blk (X:=X))} {k:Nat} {l:Loc} (hr:HR w0 ρ hp w) (hl:ρ[k]?=some l) (hn:l.nil=false):
  ∃l',ρ[deref hp k]?=some l'∧l'.nil=false∧l'.b=l.b∧l'.off=l.off∧l'.cap=l.cap:=by
 unfold deref
 rw[aG]
 split
 ·rename_i j f p hk
  have:=hr.blk k _ l hk hl
  cases p with
  |true=>exact⟨l,this,hn,rfl,rfl,rfl⟩
  |false=>
   rcases this with h|h
   ·rw[hn]at h;cases h.1
   ·exact h.2
 ·exact⟨l,hl,hn,rfl,rfl,rfl⟩
theorem yJ (hX:cJ X) {P:Program} {w0:cf} {w:World} {ρ:List Loc} {hp:List (Blk (X:=X))} {t:Nat} {inf:TypeInfo} {d:TypeDesc} {p:AV} {px:Value} {ok:Bool} {v:AV}
  (hr:HR w0 ρ hp w) (hi:P.info? t=some inf) (hd:P.underlying t=some d) (hp':aA ρ p=some px) (h:loadAt (du d) inf.size hp p=some (ok,v)) (hok:ok=true):
  ∃x a,px= .pointer (some a)∧aA ρ v=some x∧(loadVar t a).run P w= .ok x w:=by
 cases p with
 |ptr k o=>
  simp only[loadAt,aG]at h
  simp only[aA,Option.bind_eq_some_iff]at hp'
  obtain⟨l,hl,e⟩:=hp'
  cases hk:hp[k]? with
  |none=>rw[hk]at h;cases h
  |some b=>
   rw[hk]at h
   cases b with
   |raw cs=>
    have hv:=Kf h hok
    obtain⟨hn,hoff,_,ys,ty,hc,ho,hh⟩:=hr.blk k _ l hk hl
    rw[hn]at e
    simp only[Bool.false_eq_true,if_false,XQ]at e
    subst e
    obtain⟨x,hx,hrun⟩:=lu (P:=P) (w:=w) (b:=l.b) (off:=l.off) hi hd hc ho (fun j y hj=>by rw[hoff,Nat.zero_add,dW hh];simpa using hj) hv
    exact⟨x,_,rfl,hx,hrun⟩
   |dead=>simp at h
   |dfr=>simp at h
   |u6=>simp at h
   |mark=>simp at h
   |rcd=>simp at h
   |alias=>simp at h
   |vec=>simp at h
 |pel k i wd o=>
  simp only[loadAt,aG]at h
  simp only[aA,Option.bind_eq_some_iff]at hp'
  obtain⟨l0,hl0,e⟩:=hp'
  have hn0:l0.nil=false:=by
   cases hn:l0.nil with
   |false=>rfl
   |true=>rw[hn]at e;simp at e
  obtain⟨l,hl,hn1,hb1,ho1,_⟩:=fj hr hl0 hn0
  rw[hn0,←hb1,←ho1,←hn1]at e
  generalize deref hp k=k at*
  cases hk:hp[k]? with
  |none=>rw[hk]at h;cases h
  |some b=>
   rw[hk]at h
   cases b with
   |raw cs=>
    simp only[Option.map_eq_some_iff,Prod.mk.injEq]at h
    obtain⟨v',hv,rfl,rfl⟩:=h
    obtain⟨hn,hoff,_,ys,ty,hc,ho,hh⟩:=hr.blk k _ l hk hl
    rw[hn]at e
    simp only[Bool.false_eq_true,if_false,XQ]at e
    subst e
    obtain⟨x,hx,hrun⟩:=lu (P:=P) (w:=w) (b:=l.b) (off:=l.off) hi hd hc ho (fun j y hj=>by rw[hoff,Nat.zero_add,dW hh];simpa using hj) hv
    exact⟨x,_,rfl,hx,hrun⟩
   |dead=>simp at h
   |dfr=>simp at h
   |u6=>simp at h
   |mark=>simp at h
   |rcd=>simp at h
   |alias=>simp at h
   |vec te xs own=>
    cases hwd:Nat.beq wd (X.width te)with
    |false=>simp[hwd]at h
    |true=>
     simp only[hwd]at h
     have hwe:wd=X.width te:=XS hwd
     simp only[XU,Option.map_eq_some_iff,Prod.mk.injEq]at h
     obtain⟨v',hv,rfl,rfl⟩:=h
     have hlt:i<xs.length:=of_decide_eq_true hok
     have hnil:l.nil=false:=by
      cases hn:l.nil with
      |false=>rfl
      |true=>rw[hn]at e;simp at e
     rw[hnil]at e
     simp only[Bool.false_eq_true,if_false,XQ]at e
     subst e
     have key:∃ys,au [] (rows te xs)=some ys∧∀j y,ys[j]?=some y→w.cell? ⟨l.b,l.off+j,none⟩=some y:=by
      have hb:=hr.blk k _ l hk hl
      cases own with
      |true=>
       obtain⟨hoff,_,_,ys,spare,ty,hc,hh,_⟩:=hb.2 hnil
       refine⟨ys,hc,fun j y hj=>?_⟩
       rw[hoff,Nat.zero_add,dW hh]
       have:=(List.getElem?_eq_some_iff.1 hj).1
       simp only[List.getElem?_toArray]
       rw[List.getElem?_append_left this]
       exact hj
      |false=>
       obtain⟨hlb,_,ys,hc,hh⟩:=hb.2 hnil
       exact⟨ys,hc,fun j y hj=>(hr.below.cell (p:=⟨l.b,l.off+j,none⟩) hlb).trans (hh j y hj)⟩
     obtain⟨ys,hc,hcell⟩:=key
     have hrow:=Iw hX hlt hc
     have hrow':au ρ (X.enc te (xs.getD i (X.uv te)))=some ((ys.drop (i*X.width te)).take (X.width te)):=by
      have:xs.getD i (X.uv te)=xs[i]:=by simp[List.getD,hlt]
      rw[this]
      exact bk (List.nil_prefix) _ _ hrow
     obtain⟨x,hx,hrun⟩:=lu (P:=P) (w:=w) (b:=l.b) (off:=l.off+i*X.width te) hi hd hrow' (DG _ (DE _ (DH hX hc))) (fun j y hj=>by
      have hjw:j<X.width te:=by
       have:=(List.getElem?_eq_some_iff.1 hj).1
       rw[List.length_take]at this;omega
      rw[List.getElem?_take_of_lt hjw,List.getElem?_drop]at hj
      have:=hcell _ _ hj
      rw[Nat.add_assoc]
      exact this) hv
     refine⟨x,_,rfl,hx,?_⟩
     rw[hwe,←Nat.add_assoc]
     exact hrun
 |_=>simp[loadAt]at h
end
end Go.Proofs.YtfhepbbkggdlcaaGreatDoor.Px
