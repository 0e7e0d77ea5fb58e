/- The feasts' map: in whatever order its entries come in. -/
import Derived.Test.YtfhepbbkggdlcaaGreatDoorPxTTypes
import Derived.Test.YtfhepbbkggdlcaaGreatDoorPxInv
import Derived.Test.YtfhepbbkggdlcaaGreatDoorPxSpecFeast
import Derived.MapKept
import Derived.RowKit3
import Derived.Test.YtfhepbbkggdlcaaGreatDoorPxEff
set_option linter.unusedVariables false
set_option linter.unusedSimpArgs false
namespace Go.Proofs.YtfhepbbkggdlcaaGreatDoor.Px.PxT
open Go Go.Proofs Go.RowKit
set_option maxRecDepth 100000
def l8 (m d:Int):Value:= .agg #[.int .i64 m, .int .i64 d]
def Em (k:Int) (b:Bool):Value:= .agg #[.int .i64 k, .bool b]
def xh (j:Nat):Value:=l8 (cN j).1 (cN j).2.1
def EN (j:Nat):Value:=Em (cN j).2.2.1 (cN j).2.2.2
def eT:Nat→List Nat→List MapEntry
 |_,[]=>[]
 |n,j::js=>{key:=xh j,val:=EN j,born:=n}::eT (n+1) js
theorem xK (j:Nat):∀(js:List Nat) (n:Nat),eT n (js++[j])=eT n js++[{key:=xh j,val:=EN j,born:=n+js.length}]
 | [],n=>by simp[eT]
 |x::js,n=>by simp only[List.cons_append,eT,xK j js (n+1),List.length_cons];rw[show n+1+js.length=n+(js.length+1) by omega]
noncomputable def Wc:TI (X:=els):=match look k0.ti 200 with
 |some i=>i
 |none=>{}
theorem SJ (m d m' d':Int) (w:World):(Op.equal 200 (l8 m d) (l8 m' d')).run Tryz.prog w= .ok (m==m'&&d==d') w:=by
 have h:=(p0.eqs 200 Wc [some .i64,some .i64] (by kernel_rfl) (by kernel_rfl) [] [.int .i64 m, .int .i64 d] [.int .i64 m', .int .i64 d'] _ _ (m==m'&&(d==d'&&true)) w rfl rfl rfl).2
 rw[Bool.and_true]at h
 exact h
theorem Hz (m d:Int) (w:World):∀(js:List Nat) (n i:Nat),(∃q j,j∈js∧hit m d j=true∧(Instr.findAsking 200 (l8 m d) (eT n js) i).run Tryz.prog w= .ok (some (q,EN j)) w)∨((∀j∈js,hit m d j=false)∧(Instr.findAsking 200 (l8 m d) (eT n js) i).run Tryz.prog w= .ok none w)
 | [],n,i=> .inr ⟨fun j h=>(by cases h),rfl⟩
 |x::js,n,i=>by
  have he:=SJ m d (cN x).1 (cN x).2.1 w
  cases hx:hit m d x with
  |true=>
   refine .inl ⟨i,x,List.mem_cons_self,hx,?_⟩
   have:(Op.equal 200 (l8 m d) (xh x)).run Tryz.prog w= .ok true w:=by rw[←hx];exact he
   simp only[eT,Instr.findAsking,Sem.run_bind,this,Result.andThen_ok,if_true,Sem.run_pure]
  |false=>
   have:(Op.equal 200 (l8 m d) (xh x)).run Tryz.prog w= .ok false w:=by rw[←hx];exact he
   have hs:(Instr.findAsking 200 (l8 m d) (eT n (x::js)) i).run Tryz.prog w=(Instr.findAsking 200 (l8 m d) (eT (n+1) js) (i+1)).run Tryz.prog w:=by
    simp only[eT,Instr.findAsking,Sem.run_bind,this,Result.andThen_ok,Bool.false_eq_true,if_false]
   rw[hs]
   rcases Hz m d w js (n+1) (i+1)with⟨q,j,h1,h2,h3⟩|⟨h1,h2⟩
   ·exact .inl ⟨q,j,List.mem_cons_of_mem _ h1,h2,h3⟩
   ·refine .inr ⟨fun j hj=>?_,h2⟩
    rcases List.mem_cons.1 hj with rfl|hj
    ·exact hx
    ·exact h1 j hj
theorem IL (m d:Int) (w:World) (js:List Nat) (n:Nat):(Instr.findKey 200 (l8 m d) (eT n js)).run Tryz.prog w=(Instr.findAsking 200 (l8 m d) (eT n js)).run Tryz.prog w:=by
 cases js with
 |nil=>kernel_rfl
 |cons x js=>
  have hu:=Tryz.underlying200
  simp only[Instr.findKey,Sem.run_bind,run_underlying hu,Result.andThen_ok,eT,Instr.findNow]
  rfl
theorem zr (e:Bool) (m d:Int) (w:World):(Instr.checkKey e 10000 200 (l8 m d)).run Tryz.prog w= .ok () w:=by kernel_rfl
theorem SZ {w:World} {B j:Nat} {js:List Nat} {n:Nat} (hb:w.heap[B]?=some (.map (eT 0 js).toArray n)) (hj:∀x∈js,hit (cN j).1 (cN j).2.1 x=false):
  (Instr.mapUpdate 197 (.map (some B)) (xh j) (EN j)).run Tryz.prog w= .ok () {w with heap:=w.heap.setIfInBounds B (.map ((eT 0 js).toArray.push {key:=xh j,val:=EN j,born:=n}) (n+1))}:=by
 have hu:=Tryz.underlying197
 have hf:(Instr.findKey 200 (xh j) (eT 0 js)).run Tryz.prog w= .ok none w:=by
  rw[show xh j=l8 (cN j).1 (cN j).2.1 from rfl,IL]
  rcases Hz (cN j).1 (cN j).2.1 w js 0 0 with⟨_,x,h1,h2,_⟩|⟨_,h2⟩
  ·rw[hj x h1]at h2;cases h2
  ·exact h2
 have hc:(Instr.checkKey false 10000 200 (xh j)).run Tryz.prog w= .ok () w:=zr _ _ _ _
 simp only[Instr.mapUpdate,Sem.run_bind,run_underlying hu,Result.andThen_ok,MapKept.run_getObj_map hb,hc,hf,MapKept.run_setObj_map _ hb]
theorem I2 {m d:Int} {i j:Nat} (hi:i<13) (hj:j<13) (h1:hit m d i=true) (h2:hit m d j=true):i=j:=by
 have all:∀i,i<13→∀j,j<13→(cN i).1=(cN j).1→(cN i).2.1=(cN j).2.1→i=j:=by decide
 simp only[hit,XR,beq_iff_eq]at h1 h2
 exact all i hi j hj (h1.1.symm.trans h2.1) (h1.2.symm.trans h2.2)
theorem SG {w:World} {B:Nat} {js:List Nat} {n:Nat} (hb:w.heap[B]?=some (.map (eT 0 js).toArray n)) (cg:∀j,j∈js↔j<13) (m d:Int):
  (Instr.lookup 197 (.map (some B)) (l8 m d) false).run Tryz.prog w= .ok (Em (eZ m d).1 (eZ m d).2) w:=by
 have hu:=Tryz.underlying197
 have hz:(zeroValue 196).run Tryz.prog w= .ok (Em 0 false) w:=by kernel_rfl
 have hF:(Instr.findKey 200 (l8 m d) (eT 0 js)).run Tryz.prog w=(Instr.findAsking 200 (l8 m d) (eT 0 js)).run Tryz.prog w:=IL m d w js 0
 unfold eZ
 rcases Hz m d w js 0 0 with⟨q,j,h1,h2,h3⟩|⟨h1,h2⟩
 ·have hj:(List.range 13).find? (hit m d)=some j:=by
   cases hf:(List.range 13).find? (hit m d)with
   |none=>
    have:=List.find?_eq_none.1 hf j (List.mem_range.2 ((cg j).1 h1))
    rw[h2]at this
    exact absurd rfl this
   |some i=>
    have hi:=List.find?_some hf
    have hi13:=List.mem_range.1 (List.mem_of_find?_eq_some hf)
    rw[I2 hi13 ((cg j).1 h1) hi h2]
  rw[hj]
  simp only[Instr.lookup,Sem.run_bind,run_underlying hu,Result.andThen_ok,MapKept.run_getObj_map hb,Sem.run_pure,zr,hF,h3,Bool.false_eq_true,if_false]
  rfl
 ·have hj:(List.range 13).find? (hit m d)=none:=by
   rw[List.find?_eq_none]
   intro j hj
   rw[h1 j ((cg j).2 (List.mem_range.1 hj))]
   decide
  rw[hj]
  simp only[Instr.lookup,Sem.run_bind,run_underlying hu,Result.andThen_ok,MapKept.run_getObj_map hb,Sem.run_pure,zr,hF,h2,hz,Bool.false_eq_true,if_false]
noncomputable def w8:Array Oper:=match Tryz.f181.body with
 |some (.seq _ (.seq (.region _ ops true) _))=>ops
 |_=> #[]
noncomputable def Vm:Code:=match Tryz.f181.body with
 |some (.seq a _)=>a
 |_=> .skip
theorem TR:Tryz.f181.body=some (.seq Vm (.seq (.region 1 w8 true) .ret)):=by kernel_rfl
noncomputable def Cc:Array Oper:=match Vm with
 | .region _ ops _=>ops
 |_=> #[]
theorem Tb:Vm= .region 0 Cc false:=by kernel_rfl
theorem Sq:Cc.size=1:=by kernel_rfl
noncomputable def HU:Oper:=match Cc[0]? with
 |some o=>o
 |none=>⟨none, .nilCheck (.tmp 0),0, "", #[],none⟩
theorem TE:Cc[0]?=some HU:=by kernel_rfl
theorem HM:HU.dst=some 0∧HU.guard=none∧∀(a:Act) w,(execOp a.eval HU).run Tryz.prog w= .ok (.value (.map none)) w:=⟨by kernel_rfl,by kernel_rfl,fun a w=>by kernel_rfl⟩
theorem xe:w8.size=42:=by kernel_rfl
theorem US:Mx w8=true:=by kernel_rfl
noncomputable def fO (i:Nat):Oper:=match w8[i]? with
 |some o=>o
 |none=>⟨none, .nilCheck (.tmp 0),0, "", #[],none⟩
theorem VE {i:Nat} {o:Oper} (h:w8[i]?=some o):o=fO i:=by unfold fO;rw[h]
theorem Uw:(fO 0).dst=some 1∧∀ev w,(execOp ev (fO 0)).run Tryz.prog w= .ok (.value (.map (some w.heap.size))) (w.alloc (.map #[] 0)):=⟨by kernel_rfl,fun ev w=>by kernel_rfl⟩
theorem Dl {j:Nat} (h:j<13):j=0∨j=1∨j=2∨j=3∨j=4∨j=5∨j=6∨j=7∨j=8∨j=9∨j=10∨j=11∨j=12:=by omega
noncomputable def bps (o:Oper):Array (Nat×Operand):=match o.op with
 | .build _ ps=>ps
 |_=> #[]
theorem E1 {a:Act} {w:World} {o:Oper} {n:Nat} {t:TypeId} {ps:Array (Nat×Operand)} {v:AV} {x:Value} (hs:a.tmps.size=n) (hd:a.defers=[]) (ho:o.op= .build t ps) (hp:aB k0 [] (List.replicate n .any) [] (.build t ps)=some (true,v)) (hx:aA [] v=some x):(execOp a.eval o).run Tryz.prog w= .ok (.value x) w:=by
 have hf:FR [] (List.replicate n .any) a:=by
  refine⟨by rw[hs];simp,fun i s h=>?_, .inl hd⟩
  rw[List.getElem?_replicate]at h
  split at h
  ·simp only[XQ]at h;subst h;trivial
  ·cases h
 obtain⟨dst,op,ty,pos,after,gd⟩:=o
 simp only at ho
 subst ho
 obtain⟨y,hy,hr⟩:=GY (dst:=dst) (ty:=ty) (pos:=pos) (after:=after) (gd:=gd) (w:=w) p0.toQOk hf (rfl:aD _ []=true) hp
 rw[hx]at hy
 simp only[XQ]at hy
 subst hy
 simp only[execOp,Sem.run_bind]at hr⊢
 generalize (Instr.build t (ps.map fun(i,x)=>(i,a.eval x))).run Tryz.prog w=r at hr⊢
 cases r with
 |halt _ _=>exact absurd hr (by simp[Result.andThen,eA])
 |ok z w'=>
  simp only[Result.andThen,Sem.run_pure,eA]at hr⊢
  rw[hr.1,hr.2]
theorem QG {j:Nat} (h:j<13):(fO (3*j+1)).dst=some (2*j+2)∧∀(a:Act) w,a.tmps.size=29→a.defers=[]→(execOp a.eval (fO (3*j+1))).run Tryz.prog w= .ok (.value (xh j)) w:=by
 refine⟨?_,fun a w hs hd=>E1 (t:=200) (ps:=bps (fO (3*j+1))) (v:= .agg [.int .i64 (cN j).1, .int .i64 (cN j).2.1]) hs hd ?_ ?_ rfl⟩<;>rcases Dl h with rfl|rfl|rfl|rfl|rfl|rfl|rfl|rfl|rfl|rfl|rfl|rfl|rfl<;>kernel_rfl
theorem OS {j:Nat} (h:j<13):(fO (3*j+2)).dst=some (2*j+3)∧∀(a:Act) w,a.tmps.size=29→a.defers=[]→(execOp a.eval (fO (3*j+2))).run Tryz.prog w= .ok (.value (EN j)) w:=by
 refine⟨?_,fun a w hs hd=>E1 (t:=196) (ps:=bps (fO (3*j+2))) (v:= .agg [.int .i64 (cN j).2.2.1, .bool (cN j).2.2.2]) hs hd ?_ ?_ rfl⟩<;>rcases Dl h with rfl|rfl|rfl|rfl|rfl|rfl|rfl|rfl|rfl|rfl|rfl|rfl|rfl<;>kernel_rfl
theorem Vp {j:Nat} (h:j<13):(fO (3*j+3)).dst=none∧(fO (3*j+3)).op= .insert 197 (.tmp 1) (.tmp (2*j+2)) (.tmp (2*j+3))∧bM (fO (3*j+3)) 0=true∧bM (fO (3*j+3)) (3*j+1)=true∧bM (fO (3*j+3)) (3*j+2)=true:=by
 rcases Dl h with rfl|rfl|rfl|rfl|rfl|rfl|rfl|rfl|rfl|rfl|rfl|rfl|rfl<;>exact⟨by kernel_rfl,by kernel_rfl,by kernel_rfl,by kernel_rfl,by kernel_rfl⟩
theorem RH:(fO 40).dst=some 28∧bM (fO 40) 0=true∧∀ev w,(execOp ev (fO 40)).run Tryz.prog w= .ok (.value (ev (.tmp 1))) w:=⟨by kernel_rfl,by kernel_rfl,fun ev w=>by kernel_rfl⟩
theorem SA:(fO 41).dst=some 0∧bM (fO 41) 40=true∧∀ev w,(execOp ev (fO 41)).run Tryz.prog w= .ok (.value (ev (.tmp 28))) w:=⟨by kernel_rfl,by kernel_rfl,fun ev w=>by kernel_rfl⟩
theorem set_push {α:Type} (xs:Array α) (x y:α):(xs.push x).setIfInBounds xs.size y=xs.push y:=by
 apply Array.ext_getElem?
 intro i
 by_cases e:i=xs.size
 ·subst e
  rw[Array.getElem?_setIfInBounds_self_of_lt (by simp)]
  simp
 ·rw[Array.getElem?_setIfInBounds_ne (fun h=>e h.symm),Array.getElem?_push,Array.getElem?_push,if_neg e,if_neg e]
structure Gc (w0:World) (l:Array Bool) (a:Act) (w:World):Prop where
 lsz:l.size=42
 sz:a.tmps.size=29
 dfs:a.defers=[]
 keys:∀j,j<13→l.getD (3*j+1) false=true→a.tmps.getD (2*j+2) undef=xh j
 Lu:∀j,j<13→l.getD (3*j+2) false=true→a.tmps.getD (2*j+3) undef=EN j
 one:l.getD 0 false=true→a.tmps.getD 1 undef= .map (some w0.heap.size)
 mv:l.getD 40 false=true→a.tmps.getD 28 undef= .map (some w0.heap.size)
 res:l.getD 41 false=true→a.tmps.getD 0 undef= .map (some w0.heap.size)
 same:w.os=w0.os∧w.tape=w0.tape∧w.output=w0.output
 old:l.getD 0 false=false→w.heap=w0.heap∧∀j,j<13→l.getD (3*j+3) false=false
 new:l.getD 0 false=true→∃js:List Nat,w.heap=w0.heap.push (.map (eT 0 js).toArray js.length)∧∀j,j∈js↔(j<13∧l.getD (3*j+3) false=true)
theorem six {i:Nat} (h:i<42):i=0∨i=40∨i=41∨∃j,j<13∧(i=3*j+1∨i=3*j+2∨i=3*j+3):=by
 by_cases h0:i=0
 ·exact .inl h0
 ·by_cases h1:i=40
  ·exact .inr (.inl h1)
  ·by_cases h2:i=41
   ·exact .inr (.inr (.inl h2))
   ·exact .inr (.inr (.inr ⟨(i-1)/3,by omega,by omega⟩))
theorem dk {P:Program} {o:Oper} {a:Act} {w w':World} {v:Value} {K:Act→World→Prop} {Q:Exit→Act→World→Prop} (h:(execOp a.eval o).run P w= .ok (.value v) w') (hk:K (a.put o.dst v) w'):o.wp P a w K Q:=by
 unfold Oper.wp
 rw[h]
 exact hk
theorem MG {P:Program} {o:Oper} {a:Act} {w w':World} {K:Act→World→Prop} {Q:Exit→Act→World→Prop} (h:(execOp a.eval o).run P w= .ok .skip w') (hk:K (a.put o.dst undef) w'):o.wp P a w K Q:=by
 unfold Oper.wp
 rw[h]
 exact hk
theorem dp {o:Oper} {l:Array Bool} (hr:∀e∈o.after,Region.binds .any e=true→l.getD e.on false=true) {k:Nat} (h:bM o k=true):l.getD k false=true:=by
 simp only[bM,List.any_eq_true,XR]at h
 obtain⟨e,he,hb,hek⟩:=h
 have:=hr e (by simpa using he) hb
 rwa[XS hek]at this
theorem Tw {w0:World} {Q:Exit→Act→World→Prop} (i:Nat) (o:Oper) (l:Array Bool) (a:Act) (w:World) (ho:w8[i]?=some o) (hi:l.getD i false=false)
  (hr:∀e∈o.after,Region.binds .any e=true→l.getD e.on false=true) (h:Gc w0 l a w):o.wp Tryz.prog a w (fun a' w'=>Gc w0 (l.setIfInBounds i true) a' w') Q:=by
 have hlt:i<42:=by rw[←xe];exact(Array.getElem?_eq_some_iff.1 ho).1
 have hs:∀k,(l.setIfInBounds i true).getD k false=true↔(l.getD k false=true∨k=i):=fun k=>Gj h.lsz hlt
 have hsf:∀k,(l.setIfInBounds i true).getD k false=false↔(l.getD k false=false∧k≠i):=fun k=>by
  have:=hs k
  cases h1:(l.setIfInBounds i true).getD k false<;>cases h2:l.getD k false<;>simp_all
 obtain rfl:=VE ho
 rcases six hlt with rfl|rfl|rfl|⟨j,hj,rfl|rfl|rfl⟩
 ·refine dk (Uw.2 _ _) ?_
  rw[Uw.1]
  have hp:∀t,(a.put (some 1) (Value.map (some w.heap.size))).tmps.getD t undef=if t=1 then Value.map (some w.heap.size)else a.tmps.getD t undef:=fun t=>bT (by rw[h.sz];omega)
  have ho:=h.old hi
  refine⟨by simpa using h.lsz,by rw[bI];exact h.sz,h.dfs,fun k hk e=>?_,fun k hk e=>?_,fun e=>?_,fun e=>?_,fun e=>?_,h.same,fun e=>?_,fun e=>⟨[],?_,fun k=>?_⟩⟩
  ·rw[hp,if_neg (by omega)];exact h.keys k hk (by rcases(hs _).1 e with e|e;exact e;omega)
  ·rw[hp,if_neg (by omega)];exact h.Lu k hk (by rcases(hs _).1 e with e|e;exact e;omega)
  ·rw[hp,if_pos rfl,ho.1]
  ·rw[hp,if_neg (by omega)];exact h.mv (by rcases(hs _).1 e with e|e;exact e;omega)
  ·rw[hp,if_neg (by omega)];exact h.res (by rcases(hs _).1 e with e|e;exact e;omega)
  ·exact absurd rfl ((hsf _).1 e).2
  ·show w.heap.push _=_
   rw[ho.1]
   rfl
  ·constructor
   ·intro hk;cases hk
   ·rintro ⟨hk,e⟩
    rcases(hs _).1 e with e|e
    ·rw[ho.2 k hk]at e;cases e
    ·omega
 ·refine dk (RH.2.2 _ _) ?_
  rw[RH.1]
  have h0:=dp hr RH.2.1
  have hp:∀t,(a.put (some 28) (a.eval (.tmp 1))).tmps.getD t undef=if t=28 then a.eval (.tmp 1)else a.tmps.getD t undef:=fun t=>bT (by rw[h.sz];omega)
  refine⟨by simpa using h.lsz,by rw[bI];exact h.sz,h.dfs,fun k hk e=>?_,fun k hk e=>?_,fun e=>?_,fun e=>?_,fun e=>?_,h.same,fun e=>?_,fun e=>?_⟩
  ·rw[hp,if_neg (by omega)];exact h.keys k hk (by rcases(hs _).1 e with e|e;exact e;omega)
  ·rw[hp,if_neg (by omega)];exact h.Lu k hk (by rcases(hs _).1 e with e|e;exact e;omega)
  ·rw[hp,if_neg (by omega)];exact h.one (by rcases(hs _).1 e with e|e;exact e;omega)
  ·rw[hp,if_pos rfl];exact h.one h0
  ·rw[hp,if_neg (by omega)];exact h.res (by rcases(hs _).1 e with e|e;exact e;omega)
  ·have:=((hsf _).1 e).1;rw[h0]at this;cases this
  ·obtain⟨js,h1,h2⟩:=h.new h0
   refine⟨js,h1,fun k=>(h2 k).trans ⟨fun⟨p,q⟩=>⟨p,(hs _).2 (.inl q)⟩,fun⟨p,q⟩=>⟨p,by rcases(hs _).1 q with q|q;exact q;omega⟩⟩⟩
 ·refine dk (SA.2.2 _ _) ?_
  rw[SA.1]
  have h40:=dp hr SA.2.1
  have hp:∀t,(a.put (some 0) (a.eval (.tmp 28))).tmps.getD t undef=if t=0 then a.eval (.tmp 28)else a.tmps.getD t undef:=fun t=>bT (by rw[h.sz];omega)
  refine⟨by simpa using h.lsz,by rw[bI];exact h.sz,h.dfs,fun k hk e=>?_,fun k hk e=>?_,fun e=>?_,fun e=>?_,fun e=>?_,h.same,fun e=>?_,fun e=>?_⟩
  ·rw[hp,if_neg (by omega)];exact h.keys k hk (by rcases(hs _).1 e with e|e;exact e;omega)
  ·rw[hp,if_neg (by omega)];exact h.Lu k hk (by rcases(hs _).1 e with e|e;exact e;omega)
  ·rw[hp,if_neg (by omega)];exact h.one (by rcases(hs _).1 e with e|e;exact e;omega)
  ·rw[hp,if_neg (by omega)];exact h.mv (by rcases(hs _).1 e with e|e;exact e;omega)
  ·rw[hp,if_pos rfl];exact h.mv h40
  ·have e':=((hsf _).1 e).1
   exact⟨(h.old e').1,fun k hk=>(hsf _).2 ⟨(h.old e').2 k hk,by omega⟩⟩
  ·obtain⟨js,h1,h2⟩:=h.new (by rcases(hs _).1 e with e|e;exact e;omega)
   refine⟨js,h1,fun k=>(h2 k).trans ⟨fun⟨p,q⟩=>⟨p,(hs _).2 (.inl q)⟩,fun⟨p,q⟩=>⟨p,by rcases(hs _).1 q with q|q;exact q;omega⟩⟩⟩
 ·refine dk ((QG hj).2 _ _ h.sz h.dfs) ?_
  rw[(QG hj).1]
  have hp:∀t,(a.put (some (2*j+2)) (xh j)).tmps.getD t undef=if t=2*j+2 then xh j else a.tmps.getD t undef:=fun t=>bT (by rw[h.sz];omega)
  refine⟨by simpa using h.lsz,by rw[bI];exact h.sz,h.dfs,fun k hk e=>?_,fun k hk e=>?_,fun e=>?_,fun e=>?_,fun e=>?_,h.same,fun e=>?_,fun e=>?_⟩
  ·rw[hp]
   by_cases hkj:k=j
   ·subst hkj;rw[if_pos rfl]
   ·rw[if_neg (by omega)];exact h.keys k hk (by rcases(hs _).1 e with e|e;exact e;omega)
  ·rw[hp,if_neg (by omega)];exact h.Lu k hk (by rcases(hs _).1 e with e|e;exact e;omega)
  ·rw[hp,if_neg (by omega)];exact h.one (by rcases(hs _).1 e with e|e;exact e;omega)
  ·rw[hp,if_neg (by omega)];exact h.mv (by rcases(hs _).1 e with e|e;exact e;omega)
  ·rw[hp,if_neg (by omega)];exact h.res (by rcases(hs _).1 e with e|e;exact e;omega)
  ·have e':=((hsf _).1 e).1
   exact⟨(h.old e').1,fun k hk=>(hsf _).2 ⟨(h.old e').2 k hk,by omega⟩⟩
  ·obtain⟨js,h1,h2⟩:=h.new (by rcases(hs _).1 e with e|e;exact e;omega)
   refine⟨js,h1,fun k=>(h2 k).trans ⟨fun⟨p,q⟩=>⟨p,(hs _).2 (.inl q)⟩,fun⟨p,q⟩=>⟨p,by rcases(hs _).1 q with q|q;exact q;omega⟩⟩⟩
 ·refine dk ((OS hj).2 _ _ h.sz h.dfs) ?_
  rw[(OS hj).1]
  have hp:∀t,(a.put (some (2*j+3)) (EN j)).tmps.getD t undef=if t=2*j+3 then EN j else a.tmps.getD t undef:=fun t=>bT (by rw[h.sz];omega)
  refine⟨by simpa using h.lsz,by rw[bI];exact h.sz,h.dfs,fun k hk e=>?_,fun k hk e=>?_,fun e=>?_,fun e=>?_,fun e=>?_,h.same,fun e=>?_,fun e=>?_⟩
  ·rw[hp,if_neg (by omega)];exact h.keys k hk (by rcases(hs _).1 e with e|e;exact e;omega)
  ·rw[hp]
   by_cases hkj:k=j
   ·subst hkj;rw[if_pos rfl]
   ·rw[if_neg (by omega)];exact h.Lu k hk (by rcases(hs _).1 e with e|e;exact e;omega)
  ·rw[hp,if_neg (by omega)];exact h.one (by rcases(hs _).1 e with e|e;exact e;omega)
  ·rw[hp,if_neg (by omega)];exact h.mv (by rcases(hs _).1 e with e|e;exact e;omega)
  ·rw[hp,if_neg (by omega)];exact h.res (by rcases(hs _).1 e with e|e;exact e;omega)
  ·have e':=((hsf _).1 e).1
   exact⟨(h.old e').1,fun k hk=>(hsf _).2 ⟨(h.old e').2 k hk,by omega⟩⟩
  ·obtain⟨js,h1,h2⟩:=h.new (by rcases(hs _).1 e with e|e;exact e;omega)
   refine⟨js,h1,fun k=>(h2 k).trans ⟨fun⟨p,q⟩=>⟨p,(hs _).2 (.inl q)⟩,fun⟨p,q⟩=>⟨p,by rcases(hs _).1 q with q|q;exact q;omega⟩⟩⟩
 ·obtain⟨i1,i2,i3,i4,i5⟩:=Vp hj
  have g0:=dp hr i3
  have e1:a.eval (.tmp 1)= .map (some w0.heap.size):=h.one g0
  have e2:a.eval (.tmp (2*j+2))=xh j:=h.keys j hj (dp hr i4)
  have e3:a.eval (.tmp (2*j+3))=EN j:=h.Lu j hj (dp hr i5)
  obtain⟨js,h1,h2⟩:=h.new g0
  have hb:w.heap[w0.heap.size]?=some (.map (eT 0 js).toArray js.length):=by rw[h1];simp
  have hnj:∀x∈js,hit (cN j).1 (cN j).2.1 x=false:=fun x hx=>by
   cases hh:hit (cN j).1 (cN j).2.1 x with
   |false=>rfl
   |true=>
    have hjj:hit (cN j).1 (cN j).2.1 j=true:=by simp[hit]
    have:=I2 hj ((h2 x).1 hx).1 hjj hh
    subst this
    rw[((h2 j).1 hx).2]at hi
    cases hi
  refine MG (JA i2 (by rw[e1,e2,e3];exact SZ hb hnj)) ?_
  rw[i1]
  show Gc w0 _ a _
  refine⟨by simpa using h.lsz,h.sz,h.dfs,fun k hk e=>h.keys k hk (by rcases(hs _).1 e with e|e;exact e;omega),fun k hk e=>h.Lu k hk (by rcases(hs _).1 e with e|e;exact e;omega),
   fun e=>h.one g0,fun e=>h.mv (by rcases(hs _).1 e with e|e;exact e;omega),fun e=>h.res (by rcases(hs _).1 e with e|e;exact e;omega),h.same,fun e=>?_,fun e=>⟨js++[j],?_,fun k=>?_⟩⟩
  ·have:=((hsf _).1 e).1;rw[g0]at this;cases this
  ·show w.heap.setIfInBounds _ _=_
   rw[h1,xK]
   simp only[List.push_toArray,Nat.zero_add,List.length_append,List.length_cons,List.length_nil]
   exact set_push _ _ _
  ·rw[List.mem_append,List.mem_singleton,h2 k,hs]
   constructor
   ·rintro (⟨p,q⟩|rfl)
    ·exact⟨p, .inl q⟩
    ·exact⟨hj, .inr rfl⟩
   ·rintro ⟨p,q|q⟩
    ·exact .inl ⟨p,q⟩
    ·exact .inr (by omega)
theorem G6 (w:World):Go.Calls Tryz.prog 181 #[] w (fun e w'=>∃B es n,e= .returned (.map (some B))∧w.heap.size≤B∧w'.heap[B]?=some (.map es n)∧Below w.heap.size w w'∧
  ∀x:World,x.heap[B]?=some (.map es n)→∀m d,(Instr.lookup 197 (.map (some B)) (l8 m d) false).run Tryz.prog x= .ok (Em (eZ m d).1 (eZ m d).2) x):=by
 refine calls_of_wp Tryz.func181 TR (wp_seq ?_)
 have h0:(Array.replicate 42 false).getD 0 false=false:=rfl
 have hF:∀k,(Array.replicate 42 false).getD k false=false:=fun k=>by
  rw[Array.getD_eq_getD_getElem?]
  by_cases hk:k<42<;>simp[hk]
 have fin:∀(a:Act) (w1:World),a.tmps.size=29→a.defers=[]→w1=w→(Code.seq (.region 1 w8 true) .ret).wp Tryz.prog (bodyPost Tryz.prog Tryz.f181 (fun e w'=>∃B es n,e= .returned (.map (some B))∧w.heap.size≤B∧w'.heap[B]?=some (.map es n)∧Below w.heap.size w w'∧
  ∀x:World,x.heap[B]?=some (.map es n)→∀m d,(Instr.lookup 197 (.map (some B)) (l8 m d) false).run Tryz.prog x= .ok (Em (eZ m d).1 (eZ m d).2) x)) a w1:=by
  intro a w1 hs hd hw
  subst hw
  refine wp_seq (wp_region_any (by kernel_rfl) ?_)
  rw[xe]
  refine Mf (Gc {w1 with drawn:=w1.drawn+1}) US (fun i o l a w ho _ hi hr h=>Tw i o l a w ho hi hr h) (fun l a w cg h=>?_) 42 _ a _ (by simp[xe]) ?_ ?_
  ·rw[xe]at cg
   obtain⟨js,h1,h2⟩:=h.new (cg 0 (by omega))
   have hb:w.heap[w1.heap.size]?=some (.map (eT 0 js).toArray js.length):=by rw[h1];simp
   refine wp_ret ⟨h.dfs, .map (some w1.heap.size),?_,w1.heap.size,_,_,rfl,Nat.le_refl _,hb,⟨h.same.1,h.same.2.1,h.same.2.2,?_,fun k hk=>?_⟩,fun x hx m d=>SG hx (fun j=>?_) m d⟩
   ·rw[←h.res (cg 41 (by omega))]
    kernel_rfl
   ·rw[h1];simp
   ·rw[h1];simp[Array.getElem?_push,Nat.ne_of_lt hk]
   ·rw[h2]
    exact⟨fun⟨p,_⟩=>p,fun p=>⟨p,cg _ (by omega)⟩⟩
  ·rw[xe]
   unfold unl
   exact Nat.le_trans (List.length_filter_le _ _) (by simp)
  ·refine⟨by simp,hs,hd,fun j _ e=>?_,fun j _ e=>?_,fun e=>?_,fun e=>?_,fun e=>?_,⟨rfl,rfl,rfl⟩,fun _=>⟨rfl,fun j _=>hF _⟩,fun e=>?_⟩<;>(rw[hF]at e;cases e)
 rw[Tb]
 refine wp_region ?_
 rw[Sq,show List.range 1=[0] from rfl,wpOps_cons]
 unfold wpOp
 rw[TE]
 simp only
 rw[if_pos (by simp[Region.wanted,HM.2.1])]
 refine .inl (dk (HM.2.2 _ _) ?_)
 rw[HM.1]
 exact fin _ _ (by rw[bI];simp) rfl rfl
end Go.Proofs.YtfhepbbkggdlcaaGreatDoor.Px.PxT


namespace Go.Proofs.YtfhepbbkggdlcaaGreatDoor.Px.PxT
open Go Go.Proofs Go.RowKit
set_option maxRecDepth 100000
noncomputable def bN:Array Oper:=match Tryz.f176.body with
 |some (.seq _ (.seq (.seq (.region _ ops true) _) _))=>ops
 |_=> #[]
noncomputable def ED:Array Oper:=match Tryz.f176.body with
 |some (.seq (.region _ a _) _)=>a
 |_=> #[]
noncomputable def q1:Array Oper:=match Tryz.f176.body with
 |some (.seq _ (.seq (.seq _ (.seq (.region _ a _) _)) _))=>a
 |_=> #[]
noncomputable def q2:Array Oper:=match Tryz.f176.body with
 |some (.seq _ (.seq (.seq _ (.seq _ (.cond _ (.seq (.region _ a _) _) _))) _))=>a
 |_=> #[]
noncomputable def q4:Array Oper:=match Tryz.f176.body with
 |some (.seq _ (.seq _ (.seq (.region _ a _) _)))=>a
 |_=> #[]
theorem Tk:Tryz.f176.body=some (.seq (.region 0 ED false) (.seq (.seq (.region 1 bN true) (.seq (.region 2 q1 false) (.cond (.tmp 18) (.seq (.region 3 q2 false) .ret) .skip))) (.seq (.region 4 q4 false) .ret))):=by kernel_rfl
theorem dT:ED.size=2∧bN.size=9∧q1.size=6∧q2.size=3∧q4.size=1:=⟨by kernel_rfl,by kernel_rfl,by kernel_rfl,by kernel_rfl,by kernel_rfl⟩
theorem Vb:Mx bN=true:=by kernel_rfl
noncomputable def bq (ops:Array Oper) (i:Nat):Oper:=match ops[i]? with
 |some o=>o
 |none=>⟨none, .nilCheck (.tmp 0),0, "", #[],none⟩
theorem PM {ops:Array Oper} {i:Nat} {o:Oper} (h:ops[i]?=some o):o=bq ops i:=by unfold bq;rw[h]
theorem Hg {ops:Array Oper} {i:Nat} (h:i<ops.size):ops[i]?=some (bq ops i):=by
 unfold bq
 rw[Array.getElem?_eq_getElem h]
theorem Lj {a:Act} {w:World} {o:Oper} {tm:List Slot} {t:TypeId} {ps:Array (Nat×Operand)} {v:AV} {x:Value} (hf:FR [] tm a) (ho:o.op= .build t ps) (hp:aB k0 [] tm [] (.build t ps)=some (true,v)) (hx:aA [] v=some x):(execOp a.eval o).run Tryz.prog w= .ok (.value x) w:=by
 obtain⟨dst,op,ty,pos,after,gd⟩:=o
 simp only at ho
 subst ho
 obtain⟨y,hy,hr⟩:=GY (dst:=dst) (ty:=ty) (pos:=pos) (after:=after) (gd:=gd) (w:=w) p0.toQOk hf (rfl:aD _ []=true) hp
 rw[hx]at hy
 simp only[XQ]at hy
 subst hy
 simp only[execOp,Sem.run_bind]at hr⊢
 generalize (Instr.build t (ps.map fun(i,x)=>(i,a.eval x))).run Tryz.prog w=r at hr⊢
 cases r with
 |halt _ _=>exact absurd hr (by simp[Result.andThen,eA])
 |ok z w'=>
  simp only[Result.andThen,Sem.run_pure,eA]at hr⊢
  rw[hr.1,hr.2]
theorem yW {P:Program} {a:Act} {w:World} {o:Oper} {t u:Nat} {d:TypeDesc} {p:Addr} {v:Value} (ho:o.op= .load t (.tmp u)) (hd:P.underlying t=some d) (hag:du d=false) (hp:a.tmps.getD u undef= .pointer (some p)) (hc:w.cell? p=some v):
  (execOp a.eval o).run P w= .ok (.value v) w:=by
 obtain⟨dst,op,ty,pos,after,gd⟩:=o
 simp only at ho
 subst ho
 have hp':a.eval (.tmp u)= .pointer (some p):=hp
 simp only[execOp,Instr.loadAt,Instr.sureAddr,hp',Sem.run_bind,Sem.run_pure,Result.andThen_ok,loadVar,gO hd,hag,Bool.false_eq_true,if_false,run_load,hc]
theorem HB {P:Program} {a:Act} {w:World} {o:Oper} {t u f:Nat} {b off k:Nat} (ho:o.op= .fieldAddr t (.tmp u) f) (hp:a.tmps.getD u undef= .pointer (some ⟨b,off,none⟩)) (hr:(Instr.fieldAt t (.pointer (some ⟨b,off,none⟩)) f).run P w= .ok (.pointer (some ⟨b,k,none⟩)) w):
  (execOp a.eval o).run P w= .ok (.value (.pointer (some ⟨b,k,none⟩))) w:=by
 obtain⟨dst,op,ty,pos,after,gd⟩:=o
 simp only at ho
 subst ho
 have hp':a.eval (.tmp u)= .pointer (some ⟨b,off,none⟩):=hp
 simp only[execOp,hp',Sem.run_bind,hr,Result.andThen_ok,Sem.run_pure]
theorem f145 (b f:Nat) (hf:f=1∨f=2) (w:World):(Instr.fieldAt 145 (.pointer (some ⟨b,0,none⟩)) f).run Tryz.prog w= .ok (.pointer (some ⟨b,f,none⟩)) w:=by
 rcases hf with rfl|rfl<;>kernel_rfl
theorem f196 (b f:Nat) (hf:f=0∨f=1) (w:World):(Instr.fieldAt 196 (.pointer (some ⟨b,0,none⟩)) f).run Tryz.prog w= .ok (.pointer (some ⟨b,f,none⟩)) w:=by
 rcases hf with rfl|rfl<;>kernel_rfl
theorem WX:(bq bN 0).dst=some 6∧(bq bN 1).dst=some 7∧(bq bN 2).dst=some 8∧(bq bN 3).dst=some 9∧(bq bN 4).dst=some 10∧(bq bN 5).dst=some 11∧(bq bN 6).dst=some 12∧(bq bN 7).dst=some 5∧(bq bN 8).dst=none:=
 ⟨by kernel_rfl,by kernel_rfl,by kernel_rfl,by kernel_rfl,by kernel_rfl,by kernel_rfl,by kernel_rfl,by kernel_rfl,by kernel_rfl⟩
theorem Xz:bM (bq bN 2) 1=true∧bM (bq bN 4) 3=true∧bM (bq bN 5) 2=true∧bM (bq bN 5) 4=true∧bM (bq bN 6) 0=true∧bM (bq bN 6) 5=true∧bM (bq bN 8) 7=true∧bM (bq bN 8) 6=true:=
 ⟨by kernel_rfl,by kernel_rfl,by kernel_rfl,by kernel_rfl,by kernel_rfl,by kernel_rfl,by kernel_rfl,by kernel_rfl⟩
theorem Wt:(bq bN 1).op= .fieldAddr 145 (.tmp 2) 1∧(bq bN 2).op= .load 3 (.tmp 7)∧(bq bN 3).op= .fieldAddr 145 (.tmp 2) 2∧(bq bN 4).op= .load 3 (.tmp 9)∧(bq bN 5).op= .build 200 #[(0, .tmp 8),(1, .tmp 10)]∧(bq bN 6).op= .lookup 197 (.tmp 6) (.tmp 11) false∧(bq bN 8).op= .store 196 (.tmp 5) (.tmp 12):=
 ⟨by kernel_rfl,by kernel_rfl,by kernel_rfl,by kernel_rfl,by kernel_rfl,by kernel_rfl,by kernel_rfl⟩
theorem call176 (a:Act) (w:World):(execOp a.eval (bq bN 0)).run Tryz.prog w= .ok (.enter 181 #[]) w:=by kernel_rfl
theorem Ss (ev:Operand→Value) (w:World):(execOp ev (bq bN 7)).run Tryz.prog w= .ok (.value (.pointer (some ⟨w.heap.size,0,none⟩))) (w.alloc (.cells #[.int .i64 0, .bool false] 196)):=by kernel_rfl
theorem VB (a:Act) (w:World) (y m d:Int) (h:a.tmps.getD 0 undef= .agg #[.int .i64 y, .int .i64 m, .int .i64 d]):(execOp a.eval (bq ED 0)).run Tryz.prog w= .ok (.value (.pointer (some ⟨w.heap.size,0,none⟩))) (w.alloc (.cells #[.int .i64 y, .int .i64 m, .int .i64 d] 145)):=by
 have ho:(bq ED 0).op= .box 145 (.tmp 0):=by kernel_rfl
 have h':a.eval (.tmp 0)= .agg #[.int .i64 y, .int .i64 m, .int .i64 d]:=h
 generalize bq ED 0=o at ho⊢
 obtain⟨dst,op,ty,pos,after,gd⟩:=o
 simp only at ho
 subst ho
 simp only[execOp,h']
 rfl
def Vr (B:Nat) (es:Array MapEntry) (n:Nat):Prop:=∀x:World,x.heap[B]?=some (.map es n)→∀m d,(Instr.lookup 197 (.map (some B)) (l8 m d) false).run Tryz.prog x= .ok (Em (eZ m d).1 (eZ m d).2) x
structure vG (w0:World) (b0:Nat) (y m d:Int) (ab:Bool) (l:Array Bool) (a:Act) (w:World):Prop where
 lsz:l.size=9
 sz:a.tmps.size=21
 dfs:a.defers=[]
 t1:a.tmps.getD 1 undef= .bool ab
 t2:a.tmps.getD 2 undef= .pointer (some ⟨b0,0,none⟩)
 Oh:b0<w0.heap.size
 box:w0.heap[b0]?=some (.cells #[.int .i64 y, .int .i64 m, .int .i64 d] 145)
 below:Below w0.heap.size w0 w
 c87:l.getD 8 false=true→l.getD 7 false=true
 p0:l.getD 0 false=true→∃B es n,a.tmps.getD 6 undef= .map (some B)∧w0.heap.size≤B∧w.heap[B]?=some (.map es n)∧Vr B es n
 p1:l.getD 1 false=true→a.tmps.getD 7 undef= .pointer (some ⟨b0,1,none⟩)
 p2:l.getD 2 false=true→a.tmps.getD 8 undef= .int .i64 m
 p3:l.getD 3 false=true→a.tmps.getD 9 undef= .pointer (some ⟨b0,2,none⟩)
 p4:l.getD 4 false=true→a.tmps.getD 10 undef= .int .i64 d
 p5:l.getD 5 false=true→a.tmps.getD 11 undef=l8 m d
 p6:l.getD 6 false=true→a.tmps.getD 12 undef=Em (eZ m d).1 (eZ m d).2
 p7:l.getD 7 false=true→∃ba,a.tmps.getD 5 undef= .pointer (some ⟨ba,0,none⟩)∧w0.heap.size≤ba∧(l.getD 8 false=false→w.heap[ba]?=some (.cells #[.int .i64 0, .bool false] 196))∧(l.getD 8 false=true→w.heap[ba]?=some (.cells #[.int .i64 (eZ m d).1, .bool (eZ m d).2] 196))
theorem Jg {w0 w:World} {b0:Nat} {cs:Array Value} {t:TypeId} {k:Nat} {v:Value} (hlt:b0<w0.heap.size) (hb:w0.heap[b0]?=some (.cells cs t)) (h:Below w0.heap.size w0 w) (hv:cs[k]?=some v):w.cell? ⟨b0,k,none⟩=some v:=by
 have:w.heap[b0]?=some (.cells cs t):=by rw[h.block b0 hlt];exact hb
 simp[World.cell?,this,hv]
theorem tW {w0:World} {b0:Nat} {y m d:Int} {ab:Bool} {l:Array Bool} {a:Act} {w:World} {i t:Nat} {v:Value} (h:vG w0 b0 y m d ab l a w) (hi:i<9) (hi0:l.getD i false=false) (h8:i≠8) (h7:i≠7) (h0:i≠0) (ht:t<21)
  (hne:∀k u,(k,u)∈[(1,7),(2,8),(3,9),(4,10),(5,11),(6,12)]→k≠i→u≠t) (hn1:t≠1∧t≠2∧t≠5∧t≠6)
  (c1:i=1→t=7∧v= .pointer (some ⟨b0,1,none⟩)) (c2:i=2→t=8∧v= .int .i64 m) (c3:i=3→t=9∧v= .pointer (some ⟨b0,2,none⟩)) (c4:i=4→t=10∧v= .int .i64 d) (c5:i=5→t=11∧v=l8 m d) (c6:i=6→t=12∧v=Em (eZ m d).1 (eZ m d).2):
  vG w0 b0 y m d ab (l.setIfInBounds i true) (a.put (some t) v) w:=by
 have hs:∀k,(l.setIfInBounds i true).getD k false=true↔(l.getD k false=true∨k=i):=fun k=>Gj h.lsz hi
 have hp:∀u,(a.put (some t) v).tmps.getD u undef=if u=t then v else a.tmps.getD u undef:=fun u=>bT (by rw[h.sz];exact ht)
 have e8:(l.setIfInBounds i true).getD 8 false=l.getD 8 false:=by
  have:=hs 8
  cases q1:(l.setIfInBounds i true).getD 8 false<;>cases q2:l.getD 8 false<;>simp_all
 refine⟨by simpa using h.lsz,by rw[bI];exact h.sz,h.dfs,by rw[hp,if_neg (Ne.symm hn1.1)];exact h.t1,by rw[hp,if_neg (Ne.symm hn1.2.1)];exact h.t2,h.Oh,h.box,h.below,fun e=>(hs 7).2 (.inl (h.c87 (by rw[←e8];exact e))),fun e=>?_,fun e=>?_,fun e=>?_,fun e=>?_,fun e=>?_,fun e=>?_,fun e=>?_,fun e=>?_⟩
 ·rw[hp,if_neg (Ne.symm hn1.2.2.2)];exact h.p0 (by rcases(hs _).1 e with e|e;exact e;exact absurd e.symm h0)
 ·rw[hp]
  by_cases q:i=1
  ·rw[if_pos (c1 q).1.symm,(c1 q).2]
  ·rw[if_neg (hne 1 7 (by simp) (Ne.symm q))];exact h.p1 (by rcases(hs _).1 e with e|e;exact e;exact absurd e.symm q)
 ·rw[hp]
  by_cases q:i=2
  ·rw[if_pos (c2 q).1.symm,(c2 q).2]
  ·rw[if_neg (hne 2 8 (by simp) (Ne.symm q))];exact h.p2 (by rcases(hs _).1 e with e|e;exact e;exact absurd e.symm q)
 ·rw[hp]
  by_cases q:i=3
  ·rw[if_pos (c3 q).1.symm,(c3 q).2]
  ·rw[if_neg (hne 3 9 (by simp) (Ne.symm q))];exact h.p3 (by rcases(hs _).1 e with e|e;exact e;exact absurd e.symm q)
 ·rw[hp]
  by_cases q:i=4
  ·rw[if_pos (c4 q).1.symm,(c4 q).2]
  ·rw[if_neg (hne 4 10 (by simp) (Ne.symm q))];exact h.p4 (by rcases(hs _).1 e with e|e;exact e;exact absurd e.symm q)
 ·rw[hp]
  by_cases q:i=5
  ·rw[if_pos (c5 q).1.symm,(c5 q).2]
  ·rw[if_neg (hne 5 11 (by simp) (Ne.symm q))];exact h.p5 (by rcases(hs _).1 e with e|e;exact e;exact absurd e.symm q)
 ·rw[hp]
  by_cases q:i=6
  ·rw[if_pos (c6 q).1.symm,(c6 q).2]
  ·rw[if_neg (hne 6 12 (by simp) (Ne.symm q))];exact h.p6 (by rcases(hs _).1 e with e|e;exact e;exact absurd e.symm q)
 ·rw[hp,if_neg (Ne.symm hn1.2.2.1),e8];exact h.p7 (by rcases(hs _).1 e with e|e;exact e;exact absurd e.symm h7)
theorem nine {i:Nat} (h:i<9):i=0∨i=1∨i=2∨i=3∨i=4∨i=5∨i=6∨i=7∨i=8:=by omega
noncomputable def U2:TypeInfo:=match Tryz.prog.info? 196 with
 |some i=>i
 |none=>default
theorem TJ {w0:World} {b0:Nat} {y m d:Int} {ab:Bool} {Q:Exit→Act→World→Prop} (i:Nat) (o:Oper) (l:Array Bool) (a:Act) (w:World) (ho:bN[i]?=some o) (hi:l.getD i false=false)
  (hr:∀e∈o.after,Region.binds .any e=true→l.getD e.on false=true) (h:vG w0 b0 y m d ab l a w):o.wp Tryz.prog a w (fun a' w'=>vG w0 b0 y m d ab (l.setIfInBounds i true) a' w') Q:=by
 have hlt:i<9:=by rw[←dT.2.1];exact(Array.getElem?_eq_some_iff.1 ho).1
 have hs:∀k,(l.setIfInBounds i true).getD k false=true↔(l.getD k false=true∨k=i):=fun k=>Gj h.lsz hlt
 obtain⟨d0,d1,d2,d3,d4,d5,d6,d7,d8⟩:=WX
 obtain⟨e2,e4,e5,e5',e6,e6',e8,e8'⟩:=Xz
 obtain⟨k1,k2,k3,k4,k5,k6,k8⟩:=Wt
 have u3:=Tryz.underlying3
 obtain rfl:=PM ho
 rcases nine hlt with rfl|rfl|rfl|rfl|rfl|rfl|rfl|rfl|rfl
 ·unfold Oper.wp
  rw[call176]
  refine(G6 w).mono fun e w2 ⟨B,es,n,he,hB,hb,hbel,hlook⟩=>?_
  subst he
  show vG w0 b0 y m d ab _ (a.put (bq bN 0).dst _) w2
  rw[d0]
  have hp:∀u,(a.put (some 6) (Value.map (some B))).tmps.getD u undef=if u=6 then Value.map (some B)else a.tmps.getD u undef:=fun u=>bT (by rw[h.sz];omega)
  have hne:∀k,k≠0→(l.setIfInBounds 0 true).getD k false=l.getD k false:=fun k hk=>by
   have:=hs k
   cases q1:(l.setIfInBounds 0 true).getD k false<;>cases q2:l.getD k false<;>simp_all
  refine⟨by simpa using h.lsz,by rw[bI];exact h.sz,h.dfs,by rw[hp,if_neg (by omega)];exact h.t1,by rw[hp,if_neg (by omega)];exact h.t2,h.Oh,h.box,?_,fun e=>(hs 7).2 (.inl (h.c87 (by rw[←hne 8 (by omega)];exact e))),fun e=>⟨B,es,n,by rw[hp,if_pos rfl],?_,hb,hlook⟩,fun e=>?_,fun e=>?_,fun e=>?_,fun e=>?_,fun e=>?_,fun e=>?_,fun e=>?_⟩
  ·exact h.below.trans ⟨hbel.os,hbel.tape,hbel.output,hbel.size,fun k hk=>hbel.block k (Nat.lt_of_lt_of_le hk h.below.size)⟩
  ·exact Nat.le_trans h.below.size hB
  ·rw[hp,if_neg (by omega)];exact h.p1 (by rw[←hne 1 (by omega)];exact e)
  ·rw[hp,if_neg (by omega)];exact h.p2 (by rw[←hne 2 (by omega)];exact e)
  ·rw[hp,if_neg (by omega)];exact h.p3 (by rw[←hne 3 (by omega)];exact e)
  ·rw[hp,if_neg (by omega)];exact h.p4 (by rw[←hne 4 (by omega)];exact e)
  ·rw[hp,if_neg (by omega)];exact h.p5 (by rw[←hne 5 (by omega)];exact e)
  ·rw[hp,if_neg (by omega)];exact h.p6 (by rw[←hne 6 (by omega)];exact e)
  ·rw[hne 7 (by omega)]at e
   rw[hp,if_neg (by omega),hne 8 (by omega)]
   obtain⟨ba,r1,r2,r3,r4⟩:=h.p7 e
   refine⟨ba,r1,r2,fun q=>?_,fun q=>?_⟩
   ·rw[hbel.block ba (Array.getElem?_eq_some_iff.1 (r3 q)).1];exact r3 q
   ·rw[hbel.block ba (Array.getElem?_eq_some_iff.1 (r4 q)).1];exact r4 q
 ·refine dk (HB k1 h.t2 (f145 b0 1 (.inl rfl) w)) ?_
  rw[d1]
  exact tW h hlt hi (by omega) (by omega) (by omega) (by omega) (by simp;omega) (by omega) (fun _=>⟨rfl,rfl⟩) (by omega) (by omega) (by omega) (by omega) (by omega)
 ·refine dk (yW (v:= .int .i64 m) k2 u3 rfl (h.p1 (dp hr e2)) (Jg h.Oh h.box h.below rfl)) ?_
  rw[d2]
  exact tW h hlt hi (by omega) (by omega) (by omega) (by omega) (by simp;omega) (by omega) (by omega) (fun _=>⟨rfl,rfl⟩) (by omega) (by omega) (by omega) (by omega)
 ·refine dk (HB k3 h.t2 (f145 b0 2 (.inr rfl) w)) ?_
  rw[d3]
  exact tW h hlt hi (by omega) (by omega) (by omega) (by omega) (by simp;omega) (by omega) (by omega) (by omega) (fun _=>⟨rfl,rfl⟩) (by omega) (by omega) (by omega)
 ·refine dk (yW (v:= .int .i64 d) k4 u3 rfl (h.p3 (dp hr e4)) (Jg h.Oh h.box h.below rfl)) ?_
  rw[d4]
  exact tW h hlt hi (by omega) (by omega) (by omega) (by omega) (by simp;omega) (by omega) (by omega) (by omega) (by omega) (fun _=>⟨rfl,rfl⟩) (by omega) (by omega)
 ·have r8:a.eval (.tmp 8)= .int .i64 m:=h.p2 (dp hr e5)
  have r10:a.eval (.tmp 10)= .int .i64 d:=h.p4 (dp hr e5')
  have hrun:(execOp a.eval (bq bN 5)).run Tryz.prog w= .ok (.value (l8 m d)) w:=by
   refine Lj (tm:=(List.range 21).map fun i=>if i=8 then .is (.int .i64 m)else if i=10 then .is (.int .i64 d)else .any) (v:= .agg [.int .i64 m, .int .i64 d]) ?_ k5 (by kernel_rfl) rfl
   refine⟨by rw[h.sz];simp,fun i s hs=>?_, .inl h.dfs⟩
   rw[List.getElem?_map,Option.map_eq_some_iff]at hs
   obtain⟨j,hj,rfl⟩:=hs
   obtain⟨_,hj⟩:=List.getElem?_eq_some_iff.1 hj
   simp only[List.getElem_range]at hj
   subst hj
   by_cases q8:i=8
   ·subst q8
    rw[if_pos rfl]
    show aA [] _=some (a.tmps.getD 8 undef)
    rw[show a.tmps.getD 8 undef= .int .i64 m from r8]
    rfl
   ·rw[if_neg q8]
    by_cases q10:i=10
    ·subst q10
     rw[if_pos rfl]
     show aA [] _=some (a.tmps.getD 10 undef)
     rw[show a.tmps.getD 10 undef= .int .i64 d from r10]
     rfl
    ·rw[if_neg q10]
     trivial
  refine dk hrun ?_
  rw[d5]
  exact tW h hlt hi (by omega) (by omega) (by omega) (by omega) (by simp;omega) (by omega) (by omega) (by omega) (by omega) (by omega) (fun _=>⟨rfl,rfl⟩) (by omega)
 ·obtain⟨B,es,n,r1,r2,r3,r4⟩:=h.p0 (dp hr e6)
  have r6:a.eval (.tmp 6)= .map (some B):=r1
  have r11:a.eval (.tmp 11)=l8 m d:=h.p5 (dp hr e6')
  refine dk (Jq k6 (by rw[r6,r11];exact r4 w r3 m d)) ?_
  rw[d6]
  exact tW h hlt hi (by omega) (by omega) (by omega) (by omega) (by simp;omega) (by omega) (by omega) (by omega) (by omega) (by omega) (by omega) (fun _=>⟨rfl,rfl⟩)
 ·refine dk (Ss _ w) ?_
  rw[d7]
  have h8:l.getD 8 false=false:=by
   cases q:l.getD 8 false with
   |false=>rfl
   |true=>rw[h.c87 q]at hi;cases hi
  have hp:∀u,(a.put (some 5) (Value.pointer (some ⟨w.heap.size,0,none⟩))).tmps.getD u undef=if u=5 then Value.pointer (some ⟨w.heap.size,0,none⟩)else a.tmps.getD u undef:=fun u=>bT (by rw[h.sz];omega)
  have hne:∀k,k≠7→(l.setIfInBounds 7 true).getD k false=l.getD k false:=fun k hk=>by
   have:=hs k
   cases q1:(l.setIfInBounds 7 true).getD k false<;>cases q2:l.getD k false<;>simp_all
  have hold:∀k,k<w.heap.size→(w.alloc (.cells #[.int .i64 0, .bool false] 196)).heap[k]?=w.heap[k]?:=fun k hk=>(MapKept.heap_alloc w _).2 k hk
  refine⟨by simpa using h.lsz,by rw[bI];exact h.sz,h.dfs,by rw[hp,if_neg (by omega)];exact h.t1,by rw[hp,if_neg (by omega)];exact h.t2,h.Oh,h.box,?_,fun e=>(hs 7).2 (.inr rfl),fun e=>?_,fun e=>?_,fun e=>?_,fun e=>?_,fun e=>?_,fun e=>?_,fun e=>?_,fun e=>⟨w.heap.size,by rw[hp,if_pos rfl],h.below.size,fun q=>(MapKept.heap_alloc w _).1,fun q=>?_⟩⟩
  ·exact⟨h.below.os,h.below.tape,h.below.output,Nat.le_trans h.below.size (by show w.heap.size≤(w.heap.push _).size;rw[Array.size_push];omega),fun k hk=>by rw[hold k (Nat.lt_of_lt_of_le hk h.below.size)];exact h.below.block k hk⟩
  ·rw[hne 0 (by omega)]at e
   obtain⟨B,es,n,r1,r2,r3,r4⟩:=h.p0 e
   exact⟨B,es,n,by rw[hp,if_neg (by omega)];exact r1,r2,by rw[hold B (Array.getElem?_eq_some_iff.1 r3).1];exact r3,r4⟩
  ·rw[hp,if_neg (by omega)];exact h.p1 (by rw[←hne 1 (by omega)];exact e)
  ·rw[hp,if_neg (by omega)];exact h.p2 (by rw[←hne 2 (by omega)];exact e)
  ·rw[hp,if_neg (by omega)];exact h.p3 (by rw[←hne 3 (by omega)];exact e)
  ·rw[hp,if_neg (by omega)];exact h.p4 (by rw[←hne 4 (by omega)];exact e)
  ·rw[hp,if_neg (by omega)];exact h.p5 (by rw[←hne 5 (by omega)];exact e)
  ·rw[hp,if_neg (by omega)];exact h.p6 (by rw[←hne 6 (by omega)];exact e)
  ·rw[hne 8 (by omega),h8]at q;cases q
 ·obtain⟨ba,r1,r2,r3,_⟩:=h.p7 (dp hr e8)
  have v12:a.eval (.tmp 12)=Em (eZ m d).1 (eZ m d).2:=h.p6 (dp hr e8')
  have v5:a.eval (.tmp 5)= .pointer (some ⟨ba,0,none⟩):=r1
  have hb:=r3 hi
  obtain⟨w2,s1,s2,s3,s4,s5,s6,s7⟩:=lk (P:=Tryz.prog) (w:=w) (t:=196) (inf:=U2) (x:=Em (eZ m d).1 (eZ m d).2) (xs:=[.int .i64 (eZ m d).1, .bool (eZ m d).2]) (ys:=[.int .i64 0, .bool false]) (b:=ba) (o:=0) (et:=196) (by kernel_rfl) rfl rfl (by kernel_rfl) hb (by simp)
  have hrun:(execOp a.eval (bq bN 8)).run Tryz.prog w= .ok .skip w2:=by
   generalize bq bN 8=o at k8
   obtain⟨dst,op,ty,pos,after,gd⟩:=o
   simp only at k8
   subst k8
   simp only[execOp,Instr.storeAt,Instr.sureAddr,v5,v12,Sem.run_bind,Sem.run_pure,Result.andThen_ok,s1]
  refine MG hrun ?_
  rw[d8]
  show vG w0 b0 y m d ab _ a w2
  have hne:∀k,k≠8→(l.setIfInBounds 8 true).getD k false=l.getD k false:=fun k hk=>by
   have:=hs k
   cases q1:(l.setIfInBounds 8 true).getD k false<;>cases q2:l.getD k false<;>simp_all
  have hbB:∀B es n,w.heap[B]?=some (.map es n)→B≠ba:=fun B es n e q=>by rw[q,hb]at e;cases e
  refine⟨by simpa using h.lsz,h.sz,h.dfs,h.t1,h.t2,h.Oh,h.box,?_,fun e=>(hs 7).2 (.inl (dp hr e8)),fun e=>?_,fun e=>h.p1 (by rw[←hne 1 (by omega)];exact e),fun e=>h.p2 (by rw[←hne 2 (by omega)];exact e),fun e=>h.p3 (by rw[←hne 3 (by omega)];exact e),fun e=>h.p4 (by rw[←hne 4 (by omega)];exact e),fun e=>h.p5 (by rw[←hne 5 (by omega)];exact e),fun e=>h.p6 (by rw[←hne 6 (by omega)];exact e),fun e=>⟨ba,r1,r2,fun q=>?_,fun q=>s2⟩⟩
  ·exact⟨s3.trans h.below.os,s4.trans h.below.tape,s5.trans h.below.output,by rw[s6];exact h.below.size,fun k hk=>by rw[s7 k (by omega)];exact h.below.block k hk⟩
  ·rw[hne 0 (by omega)]at e
   obtain⟨B,es,n,t1,t2,t3,t4⟩:=h.p0 e
   exact⟨B,es,n,t1,t2,by rw[s7 B (hbB B es n t3)];exact t3,t4⟩
  ·have:=(hs 8).2 (.inr rfl);rw[this]at q;cases q
theorem jG {P:Program} {ops:Array Oper} {Q:Exit→Act→World→Prop} {i:Nat} {rest:List Nat} {a:Act} {w w':World} {v:Value} (hi:i<ops.size) (hw:Region.wanted (bq ops i) (yielded ops a.tmps)=true) (hr:(execOp a.eval (bq ops i)).run P w= .ok (.value v) w')
  (hk:wpOps P ops Q rest (a.put (bq ops i).dst v) w'):wpOps P ops Q (i::rest) a w:=by
 rw[wpOps_cons]
 unfold wpOp
 rw[Hg hi]
 simp only
 rw[if_pos hw]
 exact .inl (dk hr hk)
theorem Lo {P:Program} {ops:Array Oper} {Q:Exit→Act→World→Prop} {i:Nat} {rest:List Nat} {a:Act} {w:World} (hi:i<ops.size) (hw:Region.wanted (bq ops i) (yielded ops a.tmps)=false)
  (hk:wpOps P ops Q rest (a.put (bq ops i).dst undef) w):wpOps P ops Q (i::rest) a w:=by
 rw[wpOps_cons]
 unfold wpOp
 rw[Hg hi]
 simp only
 rw[if_neg (by rw[hw];decide)]
 exact hk
theorem xj {P:Program} {ops:Array Oper} {Q:Exit→Act→World→Prop} {a:Act} {w:World} (h:Q .normal a w):wpOps P ops Q [] a w:=h
theorem cY {o:Oper} {f:Nat→Option Bool} (h:o.guard=none):Region.wanted o f=true:=by unfold Region.wanted;rw[h]
theorem Oj {ops:Array Oper} {tmps:Array Value} {j d:Nat} {b:Bool} (hj:j<ops.size) (hd:(bq ops j).dst=some d) (hlt:d<tmps.size) (hv:tmps.getD d undef= .bool b):yielded ops tmps j=some b:=by
 unfold yielded
 rw[Hg hj]
 simp only[Option.bind_some,hd]
 have:tmps[d]?=some (.bool b):=by
  rw[Array.getD_eq_getD_getElem?,Array.getElem?_eq_getElem hlt]at hv
  rw[Array.getElem?_eq_getElem hlt]
  exact congrArg some hv
 rw[this]
theorem q1f:(bq q1 0).dst=some 13∧(bq q1 1).dst=some 14∧(bq q1 2).dst=some 15∧(bq q1 3).dst=some 16∧(bq q1 4).dst=some 17∧(bq q1 5).dst=some 18∧(bq q1 0).guard=none∧(bq q1 1).guard=none∧(bq q1 2).guard=some (1,false)∧(bq q1 3).guard=some (1,false)∧(bq q1 4).guard=some (1,false)∧(bq q1 5).guard=none:=
 ⟨by kernel_rfl,by kernel_rfl,by kernel_rfl,by kernel_rfl,by kernel_rfl,by kernel_rfl,by kernel_rfl,by kernel_rfl,by kernel_rfl,by kernel_rfl,by kernel_rfl,by kernel_rfl⟩
theorem q1o:(bq q1 0).op= .move (.tmp 1)∧(bq q1 1).op= .move (.tmp 13)∧(bq q1 2).op= .fieldAddr 196 (.tmp 5) 1∧(bq q1 3).op= .load 4 (.tmp 15)∧(bq q1 4).op= .unOp .not 4 (.tmp 16)∧(bq q1 5).op= .pick (.tmp 14) (.const (.bool true)) (.tmp 17):=
 ⟨by kernel_rfl,by kernel_rfl,by kernel_rfl,by kernel_rfl,by kernel_rfl,by kernel_rfl⟩
theorem q2f:(bq q2 0).dst=some 19∧(bq q2 1).dst=some 20∧(bq q2 2).dst=some 4∧(bq q2 0).guard=none∧(bq q2 1).guard=none∧(bq q2 2).guard=none∧(bq q2 0).op= .fieldAddr 196 (.tmp 5) 0∧(bq q2 1).op= .load 3 (.tmp 19)∧(bq q2 2).op= .assign (.tmp 20):=
 ⟨by kernel_rfl,by kernel_rfl,by kernel_rfl,by kernel_rfl,by kernel_rfl,by kernel_rfl,by kernel_rfl,by kernel_rfl,by kernel_rfl⟩
theorem q4f:(bq q4 0).dst=some 4∧(bq q4 0).guard=none∧(bq q4 0).op= .assign (.const (.int .i64 0)):=⟨by kernel_rfl,by kernel_rfl,by kernel_rfl⟩
theorem We:(bq ED 0).dst=some 2∧(bq ED 1).dst=some 4∧(bq ED 0).guard=none∧(bq ED 1).guard=none∧(bq ED 1).op= .assign (.const (.int .i64 0)):=⟨by kernel_rfl,by kernel_rfl,by kernel_rfl,by kernel_rfl,by kernel_rfl⟩
theorem rz {P:Program} {ev:Operand→Value} {w:World} {o:Oper} {x:Operand} (ho:o.op= .move x∨o.op= .assign x):(execOp ev o).run P w= .ok (.value (ev x)) w:=by
 obtain⟨dst,op,ty,pos,after,gd⟩:=o
 simp only at ho
 rcases ho with rfl|rfl<;>rfl
theorem SS {P:Program} {ev:Operand→Value} {w:World} {o:Oper} {x:Operand} {t:TypeId} {b:Bool} (ho:o.op= .unOp .not t x) (hx:ev x= .bool b):(execOp ev o).run P w= .ok (.value (.bool !b)) w:=by
 obtain⟨dst,op,ty,pos,after,gd⟩:=o
 simp only at ho
 subst ho
 simp only[execOp,hx]
 rfl
theorem JM {P:Program} {ev:Operand→Value} {w:World} {o:Oper} {c x y:Operand} {b:Bool} (ho:o.op= .pick c x y) (hc:ev c= .bool b):(execOp ev o).run P w= .ok (.value (if b then ev x else ev y)) w:=by
 obtain⟨dst,op,ty,pos,after,gd⟩:=o
 simp only at ho
 subst ho
 simp only[execOp,hc]
 cases b<;>rfl
theorem Jh {w:World} {b:Nat} {cs:Array Value} {t:TypeId} (h:w.heap[b]?=some (.cells cs t)) {k:Nat} {v:Value} (hv:cs[k]?=some v):w.cell? ⟨b,k,none⟩=some v:=by simp[World.cell?,h,hv]
theorem V9 {Q:Exit→Act→World→Prop} {a:Act} {w:World} {ab b:Bool} {k:Int} {ba:Nat} (hs:a.tmps.size=21) (h1:a.tmps.getD 1 undef= .bool ab) (h5:a.tmps.getD 5 undef= .pointer (some ⟨ba,0,none⟩)) (hb:w.heap[ba]?=some (.cells #[.int .i64 k, .bool b] 196))
  (hq:∀a':Act,a'.tmps.size=21→a'.defers=a.defers→a'.tmps.getD 5 undef= .pointer (some ⟨ba,0,none⟩)→a'.tmps.getD 18 undef= .bool (ab|| !b)→Q .normal a' w):(Code.region 2 q1 false).wp Tryz.prog Q a w:=by
 refine wp_region ?_
 rw[dT.2.2.1,show List.range 6=[0,1,2,3,4,5] from rfl]
 obtain⟨d0,d1,d2,d3,d4,d5,g0,g1,g2,g3,g4,g5⟩:=q1f
 obtain⟨o0,o1,o2,o3,o4,o5⟩:=q1o
 have sz:=dT.2.2.1
 refine jG (by rw[sz];omega) (cY g0) (rz (.inl o0)) ?_
 rw[d0]
 have p13:∀u,(a.put (some 13) (a.eval (.tmp 1))).tmps.getD u undef=if u=13 then a.eval (.tmp 1)else a.tmps.getD u undef:=fun u=>bT (by rw[hs];omega)
 have s13:(a.put (some 13) (a.eval (.tmp 1))).tmps.size=21:=by rw[bI];exact hs
 have q13:(a.put (some 13) (a.eval (.tmp 1))).defers=a.defers:=rfl
 generalize a.put (some 13) (a.eval (.tmp 1))=a1 at*
 have e1:a.eval (.tmp 1)= .bool ab:=h1
 rw[e1]at p13
 refine jG (by rw[sz];omega) (cY g1) (rz (.inl o1)) ?_
 rw[d1]
 have e13:a1.eval (.tmp 13)= .bool ab:=by show a1.tmps.getD 13 undef=_;rw[p13,if_pos rfl]
 have p14:∀u,(a1.put (some 14) (a1.eval (.tmp 13))).tmps.getD u undef=if u=14 then a1.eval (.tmp 13)else a1.tmps.getD u undef:=fun u=>bT (by rw[s13];omega)
 have s14:(a1.put (some 14) (a1.eval (.tmp 13))).tmps.size=21:=by rw[bI];exact s13
 have q14:(a1.put (some 14) (a1.eval (.tmp 13))).defers=a.defers:=q13
 generalize a1.put (some 14) (a1.eval (.tmp 13))=a2 at*
 rw[e13]at p14
 have t14:a2.tmps.getD 14 undef= .bool ab:=by rw[p14,if_pos rfl]
 have t5:a2.tmps.getD 5 undef= .pointer (some ⟨ba,0,none⟩):=by rw[p14,if_neg (by omega),p13,if_neg (by omega)];exact h5
 have y1:∀a':Act,a'.tmps.size=21→a'.tmps.getD 14 undef= .bool ab→yielded q1 a'.tmps 1=some ab:=fun a' s t=>Oj (by rw[sz];omega) d1 (by rw[s];omega) t
 cases ab with
 |true=>
  have nw:∀(a':Act) (j:Nat),a'.tmps.size=21→a'.tmps.getD 14 undef= .bool true→(bq q1 j).guard=some (1,false)→Region.wanted (bq q1 j) (yielded q1 a'.tmps)=false:=fun a' j s t g=>by
   unfold Region.wanted;rw[g];simp only;rw[y1 a' s t];rfl
  refine Lo (by rw[sz];omega) (nw a2 2 s14 t14 g2) ?_
  rw[d2]
  have p15:∀u,(a2.put (some 15) undef).tmps.getD u undef=if u=15 then undef else a2.tmps.getD u undef:=fun u=>bT (by rw[s14];omega)
  have s15:(a2.put (some 15) undef).tmps.size=21:=by rw[bI];exact s14
  have q15:(a2.put (some 15) undef).defers=a.defers:=q14
  generalize a2.put (some 15) undef=a3 at*
  refine Lo (by rw[sz];omega) (nw a3 3 s15 (by rw[p15,if_neg (by omega)];exact t14) g3) ?_
  rw[d3]
  have p16:∀u,(a3.put (some 16) undef).tmps.getD u undef=if u=16 then undef else a3.tmps.getD u undef:=fun u=>bT (by rw[s15];omega)
  have s16:(a3.put (some 16) undef).tmps.size=21:=by rw[bI];exact s15
  have q16:(a3.put (some 16) undef).defers=a.defers:=q15
  generalize a3.put (some 16) undef=a4 at*
  refine Lo (by rw[sz];omega) (nw a4 4 s16 (by rw[p16,if_neg (by omega),p15,if_neg (by omega)];exact t14) g4) ?_
  rw[d4]
  have p17:∀u,(a4.put (some 17) undef).tmps.getD u undef=if u=17 then undef else a4.tmps.getD u undef:=fun u=>bT (by rw[s16];omega)
  have s17:(a4.put (some 17) undef).tmps.size=21:=by rw[bI];exact s16
  have q17:(a4.put (some 17) undef).defers=a.defers:=q16
  generalize a4.put (some 17) undef=a5 at*
  have t14':a5.eval (.tmp 14)= .bool true:=by show a5.tmps.getD 14 undef=_;rw[p17,if_neg (by omega),p16,if_neg (by omega),p15,if_neg (by omega)];exact t14
  refine jG (by rw[sz];omega) (cY g5) (JM o5 t14') ?_
  rw[d5]
  refine xj (hq _ (by rw[bI];exact s17) q17 ?_ ?_)
  ·rw[bT (by rw[s17];omega),if_neg (by omega),p17,if_neg (by omega),p16,if_neg (by omega),p15,if_neg (by omega)];exact t5
  ·rw[bT (by rw[s17];omega),if_pos rfl];rfl
 |false=>
  have nw:∀(a':Act) (j:Nat),a'.tmps.size=21→a'.tmps.getD 14 undef= .bool false→(bq q1 j).guard=some (1,false)→Region.wanted (bq q1 j) (yielded q1 a'.tmps)=true:=fun a' j s t g=>by
   unfold Region.wanted;rw[g];simp only;rw[y1 a' s t];rfl
  refine jG (by rw[sz];omega) (nw a2 2 s14 t14 g2) (HB o2 t5 (f196 ba 1 (.inr rfl) w)) ?_
  rw[d2]
  generalize hv15:Value.pointer (some ⟨ba,1,none⟩)=v15
  have p15:∀u,(a2.put (some 15) v15).tmps.getD u undef=if u=15 then v15 else a2.tmps.getD u undef:=fun u=>bT (by rw[s14];omega)
  have s15:(a2.put (some 15) v15).tmps.size=21:=by rw[bI];exact s14
  have q15:(a2.put (some 15) v15).defers=a.defers:=q14
  generalize a2.put (some 15) v15=a3 at*
  have t15:a3.tmps.getD 15 undef= .pointer (some ⟨ba,1,none⟩):=by rw[p15,if_pos rfl,hv15]
  refine jG (by rw[sz];omega) (nw a3 3 s15 (by rw[p15,if_neg (by omega)];exact t14) g3) (yW (v:= .bool b) o3 Tryz.underlying4 rfl t15 (Jh hb rfl)) ?_
  rw[d3]
  have p16:∀u,(a3.put (some 16) (.bool b)).tmps.getD u undef=if u=16 then .bool b else a3.tmps.getD u undef:=fun u=>bT (by rw[s15];omega)
  have s16:(a3.put (some 16) (.bool b)).tmps.size=21:=by rw[bI];exact s15
  have q16:(a3.put (some 16) (.bool b)).defers=a.defers:=q15
  generalize a3.put (some 16) (.bool b)=a4 at*
  have t16:a4.eval (.tmp 16)= .bool b:=by show a4.tmps.getD 16 undef=_;rw[p16,if_pos rfl]
  refine jG (by rw[sz];omega) (nw a4 4 s16 (by rw[p16,if_neg (by omega),p15,if_neg (by omega)];exact t14) g4) (SS o4 t16) ?_
  rw[d4]
  have p17:∀u,(a4.put (some 17) (.bool !b)).tmps.getD u undef=if u=17 then .bool !b else a4.tmps.getD u undef:=fun u=>bT (by rw[s16];omega)
  have s17:(a4.put (some 17) (.bool !b)).tmps.size=21:=by rw[bI];exact s16
  have q17:(a4.put (some 17) (.bool !b)).defers=a.defers:=q16
  generalize a4.put (some 17) (.bool !b)=a5 at*
  have t14':a5.eval (.tmp 14)= .bool false:=by show a5.tmps.getD 14 undef=_;rw[p17,if_neg (by omega),p16,if_neg (by omega),p15,if_neg (by omega)];exact t14
  have t17:a5.eval (.tmp 17)= .bool !b:=by show a5.tmps.getD 17 undef=_;rw[p17,if_pos rfl]
  refine jG (by rw[sz];omega) (cY g5) (JM o5 t14') ?_
  rw[d5]
  refine xj (hq _ (by rw[bI];exact s17) q17 ?_ ?_)
  ·rw[bT (by rw[s17];omega),if_neg (by omega),p17,if_neg (by omega),p16,if_neg (by omega),p15,if_neg (by omega)];exact t5
  ·rw[bT (by rw[s17];omega),if_pos rfl,if_neg (by decide),t17];rfl
theorem QD (a:Act) (w:World):(results Tryz.f176 a.tmps).run Tryz.prog w= .ok (a.tmps.getD 4 undef) w:=by kernel_rfl
theorem KD (y m d:Int) (ab:Bool) (w:World):Go.Calls Tryz.prog 176 #[.agg #[.int .i64 y, .int .i64 m, .int .i64 d], .bool ab] w (fun e w'=>e= .returned (.int .i64 (kO m d ab))∧Below w.heap.size w w'):=by
 refine calls_of_wp Tryz.func176 Tk (wp_seq (wp_region ?_))
 rw[dT.1,show List.range 2=[0,1] from rfl]
 obtain⟨rd0,rd1,rg0,rg1,ro1⟩:=We
 generalize hA:({tmps:= #[.agg #[.int .i64 y, .int .i64 m, .int .i64 d], .bool ab]++Array.replicate (Tryz.f176.ntmps-(#[.agg #[.int .i64 y, .int .i64 m, .int .i64 d], .bool ab]:Array Value).size) undef,defers:=[]}:Act)=a0
 have s0:a0.tmps.size=21:=by subst hA;kernel_rfl
 have q0:a0.defers=[]:=by subst hA;rfl
 have z0:a0.tmps.getD 0 undef= .agg #[.int .i64 y, .int .i64 m, .int .i64 d]:=by subst hA;kernel_rfl
 have z1:a0.tmps.getD 1 undef= .bool ab:=by subst hA;kernel_rfl
 clear hA
 refine jG (by rw[dT.1];omega) (cY rg0) (VB a0 w y m d z0) ?_
 rw[rd0]
 generalize hw1:w.alloc (.cells #[.int .i64 y, .int .i64 m, .int .i64 d] 145)=w1
 have hb1:w1.heap[w.heap.size]?=some (.cells #[.int .i64 y, .int .i64 m, .int .i64 d] 145):=by subst hw1;exact(MapKept.heap_alloc w _).1
 have hsz1:w1.heap.size=w.heap.size+1:=by subst hw1;show(w.heap.push _).size=_;rw[Array.size_push]
 have hbel1:Below w.heap.size w w1:=by
  subst hw1
  exact⟨rfl,rfl,rfl,by show w.heap.size≤(w.heap.push _).size;rw[Array.size_push];omega,fun k hk=>(MapKept.heap_alloc w _).2 k hk⟩
 have p2:∀u,(a0.put (some 2) (.pointer (some ⟨w.heap.size,0,none⟩))).tmps.getD u undef=if u=2 then .pointer (some ⟨w.heap.size,0,none⟩)else a0.tmps.getD u undef:=fun u=>bT (by rw[s0];omega)
 have s2:(a0.put (some 2) (.pointer (some ⟨w.heap.size,0,none⟩))).tmps.size=21:=by rw[bI];exact s0
 have q2':(a0.put (some 2) (.pointer (some ⟨w.heap.size,0,none⟩))).defers=[]:=q0
 generalize a0.put (some 2) (.pointer (some ⟨w.heap.size,0,none⟩))=a1 at*
 refine jG (by rw[dT.1];omega) (cY rg1) (rz (.inr ro1)) ?_
 rw[rd1]
 have p4:∀u,(a1.put (some 4) (a1.eval (.const (.int .i64 0)))).tmps.getD u undef=if u=4 then a1.eval (.const (.int .i64 0))else a1.tmps.getD u undef:=fun u=>bT (by rw[s2];omega)
 have s4:(a1.put (some 4) (a1.eval (.const (.int .i64 0)))).tmps.size=21:=by rw[bI];exact s2
 have q4':(a1.put (some 4) (a1.eval (.const (.int .i64 0)))).defers=[]:=q2'
 generalize a1.put (some 4) (a1.eval (.const (.int .i64 0)))=a2 at*
 refine xj (wp_seq (wp_seq (wp_region_any (by kernel_rfl) ?_)))
 rw[dT.2.1]
 have hF:∀k,(Array.replicate 9 false).getD k false=false:=fun k=>by
  rw[Array.getD_eq_getD_getElem?]
  by_cases hk:k<9<;>simp[hk]
 refine Mf (vG {w1 with drawn:=w1.drawn+1} w.heap.size y m d ab) Vb (fun i o l a w ho _ hi hr h=>TJ i o l a w ho hi hr h) (fun l a w3 cg h=>?_) 9 _ a2 _ (by simp[dT.2.1]) ?_ ?_
 ·rw[dT.2.1]at cg
  obtain⟨ba,t5,_,_,hcell⟩:=h.p7 (cg 7 (by omega))
  have hcell:=hcell (cg 8 (by omega))
  have hbel:Below w.heap.size w w3:=hbel1.trans ⟨h.below.os,h.below.tape,h.below.output,h.below.size,fun k hk=>h.below.block k (Nat.lt_of_lt_of_le hk (by show w.heap.size≤w1.heap.size;omega))⟩
  refine wp_seq (V9 h.sz h.t1 t5 hcell fun a' s' d' t5' t18=>?_)
  refine wp_cond (t:=ab|| !(eZ m d).2) t18 ?_
  cases hc:(ab|| !(eZ m d).2)with
  |true=>
   rw[if_pos rfl]
   obtain⟨f0,f1,f2,g0,g1,g2,o0,o1,o2⟩:=q2f
   have sz:=dT.2.2.2.1
   refine wp_seq (wp_region ?_)
   rw[sz,show List.range 3=[0,1,2] from rfl]
   refine jG (by rw[sz];omega) (cY g0) (HB o0 t5' (f196 ba 0 (.inl rfl) w3)) ?_
   rw[f0]
   have p19:(a'.put (some 19) (.pointer (some ⟨ba,0,none⟩))).tmps.getD 19 undef= .pointer (some ⟨ba,0,none⟩):=by rw[bT (by rw[s'];omega),if_pos rfl]
   have s19:(a'.put (some 19) (.pointer (some ⟨ba,0,none⟩))).tmps.size=21:=by rw[bI];exact s'
   have q19:(a'.put (some 19) (.pointer (some ⟨ba,0,none⟩))).defers=[]:=by show a'.defers=[];rw[d'];exact h.dfs
   generalize a'.put (some 19) (.pointer (some ⟨ba,0,none⟩))=a3 at*
   refine jG (by rw[sz];omega) (cY g1) (yW (v:= .int .i64 (eZ m d).1) o1 Tryz.underlying3 rfl p19 (Jh hcell rfl)) ?_
   rw[f1]
   have p20:(a3.put (some 20) (.int .i64 (eZ m d).1)).tmps.getD 20 undef= .int .i64 (eZ m d).1:=by rw[bT (by rw[s19];omega),if_pos rfl]
   have s20:(a3.put (some 20) (.int .i64 (eZ m d).1)).tmps.size=21:=by rw[bI];exact s19
   have q20:(a3.put (some 20) (.int .i64 (eZ m d).1)).defers=[]:=q19
   generalize a3.put (some 20) (.int .i64 (eZ m d).1)=a4 at*
   refine jG (by rw[sz];omega) (cY g2) (rz (.inr o2)) ?_
   rw[f2]
   refine xj (wp_ret ⟨q20,_,QD _ _,?_,hbel⟩)
   rw[bT (by rw[s20];omega),if_pos rfl,show a4.eval (.tmp 20)= .int .i64 (eZ m d).1 from p20]
   unfold kO
   rw[hc]
   rfl
  |false=>
   rw[if_neg (by decide)]
   refine wp_skip ?_
   obtain⟨f0,g0,o0⟩:=q4f
   have sz:=dT.2.2.2.2
   refine wp_seq (wp_region ?_)
   rw[sz,show List.range 1=[0] from rfl]
   refine jG (by rw[sz];omega) (cY g0) (rz (.inr o0)) ?_
   rw[f0]
   refine xj (wp_ret ⟨by show a'.defers=[];rw[d'];exact h.dfs,_,QD _ _,?_,hbel⟩)
   rw[bT (by rw[s'];omega),if_pos rfl]
   unfold kO
   rw[hc]
   rfl
 ·rw[dT.2.1]
  unfold unl
  exact Nat.le_trans (List.length_filter_le _ _) (by simp)
 ·refine⟨by simp,s4,q4',by rw[p4,if_neg (by omega),p2,if_neg (by omega)];exact z1,by rw[p4,if_neg (by omega),p2,if_pos rfl],by show w.heap.size<w1.heap.size;omega,hb1,⟨rfl,rfl,rfl,Nat.le_refl _,fun _ _=>rfl⟩,fun e=>?_,fun e=>?_,fun e=>?_,fun e=>?_,fun e=>?_,fun e=>?_,fun e=>?_,fun e=>?_,fun e=>?_⟩<;>(rw[hF]at e;cases e)
theorem Qu:nM Tryz.prog (ar gl) 176 (H0 (X:=els)):=by
 refine⟨(kX.of Tryz.func176 (by kernel_rfl) (by kernel_rfl)).1,fun args hp ok v hc hok w0 ρ w xs hG hr ha=>?_⟩
 unfold H0 at hc
 split at hc
 ·rename_i k1 y k2 m k3 d ab
  cases hk:(kEq k1 .i64&&(kEq k2 .i64&&kEq k3 .i64))with
  |false=>rw[hk]at hc;cases hc
  |true=>
   rw[hk]at hc
   simp only[XR]at hk
   obtain rfl:=ct hk.1
   obtain rfl:=ct hk.2.1
   obtain rfl:=ct hk.2.2
   simp only[XU,XQ,Prod.mk.injEq]at hc
   obtain⟨_,rfl⟩:=hc
   have hxs:xs=[.agg #[.int .i64 y, .int .i64 m, .int .i64 d], .bool ab]:=by
    simp[au,aA,Value.oneCell']at ha
    exact ha.symm
   subst hxs
   exact⟨_,rfl,KD y m d ab w⟩
 ·cases hc
end Go.Proofs.YtfhepbbkggdlcaaGreatDoor.Px.PxT
