/- Operations that make memory, or turn it. -/
import Derived.Test.YtdadgkgkdgnihaaPxSlice
set_option linter.unusedVariables false
set_option linter.unusedSimpArgs false
namespace Go.Proofs.Ytdadgkgkdgnihaa.Px
open Go Go.RowKit
section
variable [X:aS]
def cI (P:Program) (w0:aN) (ρ:List Loc) (hp':List (Blk (X:=X))) (vo:Option AV):Result Next→Prop
 | .ok (.value x) w'=>∃ρ',ρ<+:ρ'∧HR w0 ρ' hp' w'∧∀v,vo=some v→ah ρ' v=some x
 | .ok .skip w'=>vo=none∧∃ρ',ρ<+:ρ'∧HR w0 ρ' hp' w'
 | .ok (.enter f args) w'=>Calls P f args w' (fun e w''=>∃x ρ',e= .returned x∧ρ<+:ρ'∧HR w0 ρ' hp' w''∧∀v,vo=some v→ah ρ' v=some x)
 |_=>False
def xC (P:Program) (G:World→Prop) (n:Nat) (con:rK (X:=X)):Prop:=
 qT P n∧(∀args hp r,con args hp=some r→r.ok=true→∀(w0:aN) ρ w xs,G w0.w→HR w0 ρ hp w→ab ρ args=some xs→
  Calls P n xs.toArray w (fun e w'=>∃x ρ',e= .returned x∧ρ<+:ρ'∧ah ρ' r.v=some x∧HR w0 ρ' r.hp w'))∧
 ∀args hp r,con args hp=some r→hp<+:r.hp
def oA (P:Program) (G:World→Prop) (n:Nat) (con:rK (X:=X)):Prop:=
 qT P n∧(∀args hp r,con args hp=some r→r.ok=true→∀(w0:aN) ρ w xs,G w0.w→HR w0 ρ hp w→ab ρ args=some xs→
  Calls P n xs.toArray w (fun e w'=>∃x ρ',e= .returned x∧ρ<+:ρ'∧ah ρ' r.v=some x∧HR w0 ρ' r.hp w'))
structure EOk (P:Program) (G:World→Prop) (cfg:Cfg (X:=X)):Prop extends QOk P G cfg where
 makes:∀n con,look cfg.H n=some con→xC P G n con
 writes:∀n con,look cfg.W n=some con→oA P G n con
variable {P:Program} {G:World→Prop} {cfg:Cfg (X:=X)} {w0:aN} {w:World} {ρ:List Loc} {hp hp':List (Blk (X:=X))} {tm:List Slot} {a:Act} {cs:List (Nat×Bool)} {ok:Bool} {vo:Option AV} {dst:Option Nat} {ty:Nat} {pos:String} {after:Array Edge} {gd:Option (Nat×Bool)}
omit X in
theorem eh (w:World) (o:Obj):Below w.heap.size w (w.alloc o):=(Below.refl _ _).alloc (Nat.le_refl _) _
omit X in
theorem heap_alloc_new (w:World) (o:Obj):(w.alloc o).heap[w.heap.size]?=some o:=by
 show(w.heap.push o)[w.heap.size]?=some o
 simp
theorem rb {ys:List Value} {vs:List AV} {t:TypeId} {n:Nat} (hr:HR w0 ρ hp w) (hv:ab ρ vs=some ys) (ha:ys.all Value.oneCell'=true):
  HR w0 (ρ++[⟨w.heap.size,0,n,false,none,false⟩]) (hp++[.raw vs]) (w.alloc (.cells ys.toArray t)):=
 hr.new (eh _ _) (fun _ _=>Nat.le_refl _) ⟨rfl,rfl,hr.below.size,ys,t,aB (List.prefix_append _ _) _ _ hv,ha,heap_alloc_new _ _⟩
theorem eL (hr:HR w0 ρ hp w) (l:Loc):(ρ++[l])[hp.length]?=some l:=by
 rw[List.getElem?_append_right (by rw[hr.len];exact Nat.le_refl _),hr.len,Nat.sub_self];rfl
theorem zc (hq:QOk P G cfg) (hX:bd X) {t:Nat} (hr:HR w0 ρ hp w) (h:aA cfg hp tm cs (.alloc t)=some (ok,vo,hp')):cI P w0 ρ hp' vo ((execOp a.eval ⟨dst, .alloc t,ty,pos,after,gd⟩).run P w):=by
 simp only[aA]at h
 split at h
 ·rename_i i ht
  split at h
  ·cases hb:i.var.isEmpty with
   |true=>rw[hb]at h;cases h
   |false=>
    rw[hb]at h
    simp only[List.isEmpty_eq_false_iff]at hb
    simp only[B5,B0,Prod.mk.injEq]at h
    obtain⟨_,rfl,rfl⟩:=h
    obtain⟨inf,z,h1,h2,h3,h4⟩:=j0 hq.types t i ht hb
    have hz:(zeroValue t).run P w= .ok z w:=by simp[zeroValue,eg h1,h2]
    have:(execOp a.eval (⟨dst, .alloc t,ty,pos,after,gd⟩:Oper)).run P w= .ok (.value (.pointer (some ⟨w.heap.size,0,none⟩))) (w.alloc (.cells z.cells t)):=by
     simp only[execOp,Instr.alloc,newVar,newRow,Sem.run_bind,hz,Result.andThen_ok,run_newObj,Sem.run_pure,World.alloc_eq]
    rw[this]
    refine⟨ρ++[⟨w.heap.size,0,0,false,none,false⟩],List.prefix_append _ _,?_,fun v hv=>?_⟩
    ·have:=rb (t:=t) (n:=0) hr (aB (List.nil_prefix) _ _ h3) h4
     rwa[Array.toArray_toList]at this
    ·simp only[B0]at hv
     subst hv
     exact bF.2 ⟨_,eL hr _,rfl,rfl⟩
  ·rename_i el _
   cases hb:and cfg.apn (and (not i.var.isEmpty) (and (Nat.beq i.esz (X.width el)) (Nat.beq i.var.length (i.len*X.width el))))with
   |false=>rw[hb]at h;cases h
   |true=>
    rw[hb,B4]at h
    simp only[B1,Bool.not_eq_true',List.isEmpty_eq_false_iff]at hb
    obtain⟨_,hb,b1,b2⟩:=hb
    have b1:=B2 b1
    have b2:=B2 b2
    split at h
    ·rename_i xs hxs
     simp only[B0,Prod.mk.injEq]at h
     obtain⟨_,rfl,rfl⟩:=h
     obtain⟨inf,z,h1,h2,h3,h4⟩:=j0 hq.types t i ht hb
     obtain⟨hlen,hrows⟩:=eC hX hxs
     rw[←b2,List.take_length]at hrows
     have hz:(zeroValue t).run P w= .ok z w:=by simp[zeroValue,eg h1,h2]
     have:(execOp a.eval (⟨dst, .alloc t,ty,pos,after,gd⟩:Oper)).run P w= .ok (.value (.pointer (some ⟨w.heap.size,0,none⟩))) (w.alloc (.cells z.cells t)):=by
      simp only[execOp,Instr.alloc,newVar,newRow,Sem.run_bind,hz,Result.andThen_ok,run_newObj,Sem.run_pure,World.alloc_eq]
     rw[this]
     refine⟨ρ++[⟨w.heap.size,0,xs.length,false,none,false⟩],List.prefix_append _ _,hr.new (eh _ _) (fun _ _=>Nat.le_refl _) ⟨(fun h=>by cases h),fun _=>⟨rfl,hr.below.size,Nat.le_refl _,z.cells.toList,[],t,by rw[hrows];exact h3,?_,by simp⟩⟩,fun v hv=>?_⟩
     ·rw[List.append_nil,Array.toArray_toList]
      exact heap_alloc_new _ _
     ·simp only[B0]at hv
      subst hv
      exact cm.2 ⟨_,eL hr _,rfl,by simp⟩
    ·cases h
 ·cases h
theorem Bj {t:Nat} {x:Operand} (hf:FR ρ tm a) (hc:ai tm cs=true) (hr:HR w0 ρ hp w) (h:aA cfg hp tm cs (.box t x)=some (ok,vo,hp')):cI P w0 ρ hp' vo ((execOp a.eval ⟨dst, .box t x,ty,pos,after,gd⟩).run P w):=by
 simp only[aA]at h
 split at h
 ·cases h
 ·rename_i v hnt hx
  simp only[B0,Prod.mk.injEq]at h
  obtain⟨_,rfl,rfl⟩:=h
  obtain⟨ys,h1,h2,h3⟩:=eW (aj hf hc hx) hnt
  have:(execOp a.eval (⟨dst, .box t x,ty,pos,after,gd⟩:Oper)).run P w= .ok (.value (.pointer (some ⟨w.heap.size,0,none⟩))) (w.alloc (.cells ys.toArray t)):=by
   simp only[execOp,Instr.box,newVar,newRow,Sem.run_bind,Result.andThen_ok,run_newObj,Sem.run_pure,World.alloc_eq,h3]
  rw[this]
  refine⟨ρ++[⟨w.heap.size,0,0,false,none,false⟩],List.prefix_append _ _,rb hr h1 h2,fun v hv=>?_⟩
  simp only[B0]at hv
  subst hv
  exact bF.2 ⟨_,eL hr _,rfl,rfl⟩
 ·cases h
theorem pj (hq:QOk P G cfg) {t n:Nat} (hn0:n≠0) {ps:Array (Nat×Operand)} (hf:FR ρ tm a) (hc:ai tm cs=true) (hr:HR w0 ρ hp w) (h:aA cfg hp tm cs (.buildSlice t n ps)=some (ok,vo,hp')):cI P w0 ρ hp' vo ((execOp a.eval ⟨dst, .buildSlice t n ps,ty,pos,after,gd⟩).run P w):=by
 rw[aA.eq_def]at h
 simp only at h
 split at h
 ·rename_i vs i hps ht
  cases hb:(and i.slice (and (and (Nat.beq i.zero.length i.esz) (Nat.ble 1 i.esz)) (and (Nat.ble 1 n) (Nat.ble (n*i.esz) 4096))))with
  |false=>rw[hb]at h;cases h
  |true=>
   rw[hb]at h
   simp only[B1]at hb
   obtain⟨b1,⟨b2,b3⟩,b4,b5⟩:=hb
   have b2:=B2 b2
   have b3:=Nat.le_of_ble_eq_true b3
   have b4:=Nat.le_of_ble_eq_true b4
   have b5:=Nat.le_of_ble_eq_true b5
   simp only[B4]at h
   split at h
   ·rename_i cells hcells
    simp only[B0,Prod.mk.injEq]at h
    obtain⟨_,rfl,rfl⟩:=h
    obtain⟨e,inf,z,g1,g2,g3,g4,g5,g6⟩:=(ao hq.types t i ht).slc b1
    obtain⟨hlen,hget⟩:=fD hf hc hps
    have hmap:(ps.map fun(i,x)=>(i,a.eval x)).toList=ps.toList.map fun p=>(p.1,a.eval p.2):=by simp
    obtain⟨us,d1,d2,d3⟩:=lP (ρ:=ρ) (aB (List.nil_prefix) _ _ g5) g6 n
    obtain⟨zs,c1,c2,c3⟩:=gO (ρ:=ρ) (place:=fun x=>some (x*i.esz,i.esz)) vs _ (td n i.zero) _ (kX i.esz) cells (fun _=>rfl) oC hlen hget d1 d2 hcells
    have hzl:z.cells.toList.length=i.esz:=by rw[ar g5,b2]
    have hz:(zeroValue e).run P w= .ok z w:=by simp[zeroValue,eg g2,g4]
    have hpos:n*i.esz≠0:=by
     intro h0
     rcases Nat.mul_eq_zero.1 h0 with h0|h0<;>omega
    have hrow:(Array.range (n*i.esz)).map (fun j=>z.cells[j%z.cells.size]!)=us.toArray:=by
     rw[d3,hzl,Array.toArray_toList,nf,Array.toList_range]
    have hbig:¬(n*i.esz>2^24):=by omega
    have:(execOp a.eval (⟨dst, .buildSlice t n ps,ty,pos,after,gd⟩:Oper)).run P w= .ok (.value (.slice (some ⟨w.heap.size,0,none⟩) n n)) (w.alloc (.cells zs.toArray e)):=by
     simp only[execOp,Instr.buildSlice,newRow,Sem.run_bind,run_underlying g1,a7 g2,g3,Sem.run_ite,if_neg hbig,if_neg hpos,hz,Result.andThen_ok,Sem.run_pure,hrow,hmap,c3,run_newObj,World.alloc_eq]
    rw[this]
    refine⟨ρ++[⟨w.heap.size,0,n,false,none,false⟩],List.prefix_append _ _,rb hr c1 c2,fun v hv=>?_⟩
    simp only[B0]at hv
    subst hv
    exact aK.2 ⟨_,eL hr _, .inr ⟨rfl,by simp⟩⟩
   ·cases h
 ·cases h
theorem pV (hq:QOk P G cfg) {t n:Nat} {ps:Array (Nat×Operand)} (hf:FR ρ tm a) (hc:ai tm cs=true) (hr:HR w0 ρ hp w) (h:aA cfg hp tm cs (.buildSlice t n ps)=some (ok,vo,hp')):cI P w0 ρ hp' vo ((execOp a.eval ⟨dst, .buildSlice t n ps,ty,pos,after,gd⟩).run P w):=by
 cases n with
 |succ n=>exact pj hq (by simp) hf hc hr h
 |zero=>
  simp only[aA]at h
  split at h
  ·rename_i i hps ht
   split at h
   ·rename_i el hel
    cases hb:and i.slice (Nat.beq i.esz (X.width el))with
    |false=>rw[hb]at h;cases h
    |true=>
     rw[hb,B4]at h
     simp only[B1]at hb
     simp only[B0,Prod.mk.injEq]at h
     obtain⟨_,rfl,rfl⟩:=h
     obtain⟨e,inf,z,g1,g2,g3,g4,g5,g6⟩:=(ao hq.types t i ht).slc hb.1
     have hps':ps= #[]:=by cases ps;simp at hps;subst hps;rfl
     subst hps'
     have:(execOp a.eval (⟨dst, .buildSlice t 0 #[],ty,pos,after,gd⟩:Oper)).run P w= .ok (.value (.slice (some ⟨w.heap.size,0,none⟩) 0 0)) (w.alloc (.cells #[] e)):=by
      simp[execOp,Instr.buildSlice,newRow,run_underlying g1,a7 g2,Instr.fill,show Array.range 0= #[] from Array.ext' (by simp)]
     rw[this]
     refine⟨ρ++[⟨w.heap.size,0,0,false,none,false⟩],List.prefix_append _ _,hr.new (eh _ _) (fun _ _=>Nat.le_refl _) ⟨(fun h=>by cases h),fun _=>⟨rfl,hr.below.size,Nat.le_refl _,[],[],e,rfl,heap_alloc_new _ _,by simp⟩⟩,fun v hv=>?_⟩
     simp only[B0]at hv
     subst hv
     exact aK.2 ⟨_,eL hr _, .inr ⟨rfl,by simp⟩⟩
   ·cases h
  ·cases h
theorem yL (hq:QOk P G cfg) {t:Nat} {x:Operand} {lo hi mx:Option Operand} (hf:FR ρ tm a) (hc:ai tm cs=true) (hr:HR w0 ρ hp w) (h:aA cfg hp tm cs (.slice t x lo hi mx)=some (ok,vo,hp')) (hok:ok=true):cI P w0 ρ hp' vo ((execOp a.eval ⟨dst, .slice t x lo hi mx,ty,pos,after,gd⟩).run P w):=by
 simp only[aA]at h
 cases hap:cfg.apn with
 |false=>rw[hap]at h;cases h
 |true=>
 rw[hap,B4]at h
 split at h
 ·rename_i v i l hh m hv ht hl hhi hm
  simp only[Option.map_eq_some_iff,Prod.mk.injEq]at h
  obtain⟨⟨ok',u,h'⟩,hs,e1,e2,e3⟩:=h
  simp only at e1 e2 e3
  subst e1 e2 e3
  have hx:=aj hf hc hv
  by_cases hp:∃k o,v= .ptr k o
  ·obtain⟨k,o,rfl⟩:=hp
   simp only[oI]at hs
   have hnone:lo=none∧hi=none∧mx=none:=by
    cases lo<;>cases hi<;>cases mx<;>simp at hs⊢
   obtain⟨rfl,rfl,rfl⟩:=hnone
   simp only[Option.map_none]at hs
   cases hb:and (Nat.ble 1 i.len) (Nat.beq i.esz 1)with
   |false=>rw[hb]at hs;cases hs
   |true=>
    rw[hb,B4]at hs
    simp only[B0,Prod.mk.injEq]at hs
    obtain⟨_,rfl,rfl⟩:=hs
    simp only[B1]at hb
    have b1:=Nat.le_of_ble_eq_true hb.1
    obtain⟨e,inf,d,g1,g2,g3,_⟩:=(ao hq.types t i ht).arr (by omega)
    obtain⟨y,y1,y2⟩:=rH g1 g2 (by rw[g3];exact B2 hb.2) (by omega) hr hx
    have:(execOp a.eval (⟨dst, .slice t x none none none,ty,pos,after,gd⟩:Oper)).run P w= .ok (.value y) w:=by
     simp only[execOp,Option.map_none,Sem.run_bind,y1,Result.andThen_ok,Sem.run_pure]
    rw[this]
    exact⟨ρ,List.prefix_refl _,hr,fun v hv=>by simp only[B0]at hv;exact hv▸y2⟩
  ·have hslice:i.slice=true:=by
    unfold oI at hs
    split at hs
    ·rename_i k j wd n c
     cases hb:and i.slice (Nat.beq wd i.esz)with
     |false=>rw[hb]at hs;cases hs
     |true=>simp only[B1]at hb;exact hb.1
    ·rename_i k o;exact absurd ⟨k,o,rfl⟩ hp
    ·cases hs
   obtain⟨e,inf,z,g1,g2,g3,_⟩:=(ao hq.types t i ht).slc hslice
   obtain⟨y,ρ',y1,y2,y3,y4⟩:=sf (P:=P) g1 g2 g3 (dC hf hc hl) (dC hf hc hhi) (dC hf hc hm) hr hx (fun k o e=>hp ⟨k,o,e⟩) hs hok
   have:(execOp a.eval (⟨dst, .slice t x lo hi mx,ty,pos,after,gd⟩:Oper)).run P w= .ok (.value y) w:=by
    simp only[execOp,Sem.run_bind,run_sliceAt_slice g1,y1,Result.andThen_ok,Sem.run_pure]
   rw[this]
   exact⟨ρ',y2,y3,fun v hv=>by simp only[B0]at hv;exact hv▸y4⟩
 ·cases h
theorem Ab (hq:QOk P G cfg) {t:Nat} {l c:Operand} (hf:FR ρ tm a) (hc:ai tm cs=true) (hr:HR w0 ρ hp w) (h:aA cfg hp tm cs (.makeSlice t l c)=some (ok,vo,hp')) (hok:ok=true):cI P w0 ρ hp' vo ((execOp a.eval ⟨dst, .makeSlice t l c,ty,pos,after,gd⟩).run P w):=by
 simp only[aA]at h
 split at h
 ·rename_i k1 n1 k2 n2 i hl hcc ht
  split at h
  ·rename_i el hel
   split at h
   ·rename_i z hz
    cases hb:and (and (kEq k1 .i64) (kEq k2 .i64)) (and i.slice (and (Nat.beq i.esz (X.width el)) (Nat.ble 1 i.esz)))with
    |false=>rw[hb]at h;cases h
    |true=>
     rw[hb,B4]at h
     simp only[B1]at hb
     obtain⟨_,b1,b2,b3⟩:=hb
     have b2:=B2 b2
     have b3:=Nat.le_of_ble_eq_true b3
     rcases hm:vq el z i.esz hp n1 n2 with⟨ok1,u1,hp1⟩
     rw[hm]at h
     simp only[B0,Prod.mk.injEq]at h
     obtain⟨rfl,rfl,rfl⟩:=h
     obtain⟨e,inf,zv,g1,g2,g3,g4,g5,g6⟩:=(ao hq.types t i ht).slc b1
     have gb:=(ao hq.types t i ht).byt b1 e inf g1 g2
     rw[b2]at hm
     obtain⟨y,w',ρ',y1,y2,y3,y4⟩:=um (P:=P) (k1:=k1) (k2:=k2) hq.elts g1 g2 g4 g5 g6 hz (by rw[g3,b2]) gb (by omega) hr hm hok
     have:(execOp a.eval (⟨dst, .makeSlice t l c,ty,pos,after,gd⟩:Oper)).run P w= .ok (.value y) w':=by
      simp only[execOp,bm.1 (aj hf hc hl),bm.1 (aj hf hc hcc),Sem.run_bind,y1,Result.andThen_ok,Sem.run_pure]
     rw[this]
     exact⟨ρ',y2,y3,fun v hv=>by simp only[B0]at hv;exact hv▸y4⟩
   ·cases h
  ·cases h
 ·cases h
theorem xM (hq:QOk P G cfg) {c:Call} {args:List AV} (hf:FR ρ tm a) (hc:ai tm cs=true) (hr:HR w0 ρ hp w) (hcal:c.callee= .builtin .append)
  (h:(match args,c.argTypes.toList with
    | [s,x],[t,t']=>match look cfg.ti t with
     |some i=>match i.el with
      |some el=>cond (and (Nat.beq t t') (and i.slice (and (Nat.beq i.esz (X.width el)) (and (Nat.ble 1 i.esz) (and (Nat.beq i.zero.length i.esz) cfg.apn))))) ((nx el hp s x).map fun(ok,v,h)=>(ok,some v,h)) none
      |none=>none
     |none=>none
    |_,_=>none)=some (ok,vo,hp')) (hargs:rds tm cs c.args.toList=some args) (hok:ok=true):cI P w0 ρ hp' vo ((execOp a.eval ⟨dst, .call c,ty,pos,after,gd⟩).run P w):=by
 split at h
 ·rename_i s x t t' hty
  split at h
  ·rename_i i ht
   split at h
   ·rename_i el hel
    cases hb:and (Nat.beq t t') (and i.slice (and (Nat.beq i.esz (X.width el)) (and (Nat.ble 1 i.esz) (and (Nat.beq i.zero.length i.esz) cfg.apn))))with
    |false=>rw[hb]at h;cases h
    |true=>
     rw[hb,B4]at h
     simp only[B1]at hb
     obtain⟨b0,b1,b2,b3,b4,_⟩:=hb
     have b0:=B2 b0
     have b2:=B2 b2
     have b3:=Nat.le_of_ble_eq_true b3
     subst b0
     simp only[Option.map_eq_some_iff,Prod.mk.injEq]at h
     obtain⟨⟨ok',u,h'⟩,hs,e1,e2,e3⟩:=h
     simp only at e1 e2 e3
     subst e1 e2 e3
     obtain⟨e,inf,zv,g1,g2,g3,g4,g5,g6⟩:=(ao hq.types t i ht).slc b1
     have gb:=(ao hq.types t i ht).byt b1 e inf g1 g2
     have ha:=cw hf hc hargs
     obtain⟨sv,_,hsv,hr2,e4⟩:=aa.1 ha
     obtain⟨xv,_,hxv,hr3,rfl⟩:=aa.1 hr2
     simp only[ab,B0]at hr3
     subst hr3
     have hargs':c.args.map a.eval= #[sv,xv]:=by
      rw[nf,e4]
     have hty':c.argTypes= #[t,t]:=by
      have:c.argTypes.toList.toArray= #[t,t]:=by rw[hty]
      simpa using this
     have hzl:zv.cells.size=inf.size:=by
      have:=ar g5
      rw[Array.length_toList]at this
      rw[this,g3]
      exact B2 b4
     obtain⟨y,w',ρ',y1,y2,y3,y4⟩:=qq (P:=P) (ty:=ty) hq.elts g1 g2 g4 (by rw[g3,b2]) hzl gb (by rw[g3];exact b3) hr hsv hxv hs hok
     have:(execOp a.eval (⟨dst, .call c,ty,pos,after,gd⟩:Oper)).run P w= .ok (.value y) w':=by
      simp[execOp,hcal,resolve,invoke,builtin,hargs',hty',y1]
     rw[this]
     exact⟨ρ',y2,y3,fun v hv=>by simp only[B0]at hv;exact hv▸y4⟩
   ·cases h
  ·cases h
 ·cases h
omit X in
theorem gy {t:Nat} {inf:TypeInfo} {x:Value} {xs ys:List Value} {b o:Nat} {et:TypeId} (hi:P.info? t=some inf) (hx:x.cells=xs.toArray) (hxs:xs.all Value.oneCell'=true) (hn:xs.length=inf.size)
  (hh:w.heap[b]?=some (.cells ys.toArray et (0,0))) (hl:o+xs.length≤ys.length):
  ∃w',(storeVar t ⟨b,o,none⟩ x).run P w= .ok () w'∧w'.heap[b]?=some (.cells (aC ys o xs).toArray et (0,0))∧
   w'.os=w.os∧w'.tape=w.tape∧w'.output=w.output∧w'.heap.size=w.heap.size∧∀j,j≠b→w'.heap[j]?=w.heap[j]?:=by
 obtain⟨w',h1,h2,h5⟩:=eV (P:=P) xs w ys o 0 hxs hh (by omega)
 refine⟨w',?_,h2,h5⟩
 have hs:¬(xs.toArray.size≠inf.size):=by rw[List.size_toArray,hn];simp
 simp only[storeVar,Sem.run_bind,a7 hi,Result.andThen_ok,Sem.run_ite,hx,if_neg hs,List.toList_toArray,h1]
theorem rl (hX:bd X) {t:X.El} {x':X.den t} {cells:List AV} {o:Nat}:∀{xs:List (X.den t)} {i:Nat} (hi:i<xs.length),X.enc t x'=aC (X.enc t xs[i]) o cells→o+cells.length≤X.width t→
  rows t (xs.set i x')=aC (rows t xs) (i*X.width t+o) cells
 | [],i,hi,_,_=>by simp at hi
 |x::xs,0,hi,h,ho=>by
  simp only[List.getElem_cons_zero]at h
  simp only[rows,List.set_cons_zero,List.flatMap_cons,Nat.zero_mul,Nat.zero_add,h]
  rw[gP _ _ _ _ (by rw[hX.len];exact ho)]
 |x::xs,i+1,hi,h,ho=>by
  have ih:=rl hX (xs:=xs) (i:=i) (by simpa using hi) (by simpa using h) ho
  simp only[rows,List.set_cons_succ,List.flatMap_cons]at ih⊢
  rw[ih,show(i+1)*X.width t+o=(X.enc t x).length+(i*X.width t+o) by rw[hX.len,Nat.add_mul];omega,dV]
theorem zd (hq:QOk P G cfg) {t:Nat} {p x:Operand} (hf:FR ρ tm a) (hc:ai tm cs=true) (hr:HR w0 ρ hp w) (h:aA cfg hp tm cs (.store t p x)=some (ok,vo,hp')) (hok:ok=true):cI P w0 ρ hp' vo ((execOp a.eval ⟨dst, .store t p x,ty,pos,after,gd⟩).run P w):=by
 simp only[aA]at h
 split at h
 ·rename_i pv v i hpv hv ht
  simp only[Option.map_eq_some_iff,Prod.mk.injEq]at h
  obtain⟨⟨ok',h'⟩,hs,e1,rfl,rfl⟩:=h
  simp only at e1
  subst e1
  obtain⟨inf,i1,i2⟩:=(ao hq.types t i ht).info
  have hx:=aj hf hc hv
  have hpx:=aj hf hc hpv
  unfold storeAt at hs
  split at hs
  ·rename_i k o
   obtain⟨l,hl,hn,ep⟩:=bF.1 hpx
   rw[ak]at hs
   split at hs
   ·rename_i c hk
    cases hb:(and (Nat.ble 1 i.size) (and (Nat.beq (cellsOf v).length i.size) (Nat.ble (o+i.size) c.length)))with
    |false=>rw[hb]at hs;cases hs
    |true=>
     rw[hb]at hs
     simp only[B1]at hb
     obtain⟨b1,b2,b3⟩:=hb
     have b1:=Nat.le_of_ble_eq_true b1
     have b2:=B2 b2
     have b3:=Nat.le_of_ble_eq_true b3
     simp only[B4,B0,Prod.mk.injEq,au]at hs
     obtain⟨_,rfl⟩:=hs
     obtain⟨xs,c1,c2,c3⟩:=eW hx (fun vs e=>by subst e;simp[cellsOf]at b2;omega)
     obtain⟨_,hoff,hge,ys,et,d1,d2,d3⟩:=hr.blk k _ l hk hl
     have hyl:=ar d1
     have hxl:=ar c1
     obtain⟨w',r1,r2,r4,r5,r6,r7,r8⟩:=gy (P:=P) (w:=w) (o:=o) i1 c3 c2 (by rw[hxl,b2,i2]) d3 (by omega)
     have:(execOp a.eval (⟨dst, .store t p x,ty,pos,after,gd⟩:Oper)).run P w= .ok .skip w':=by
      simp only[execOp,Instr.storeAt,Instr.sureAddr,ep,hoff,Nat.zero_add,Sem.run_bind,Sem.run_pure,Result.andThen_ok,r1]
     rw[this]
     exact⟨rfl,ρ,List.prefix_refl _,hr.write hk hl rfl rfl hn hge r4 r5 r6 r7 r8 ⟨hn,hoff,hge,_,et,di _ _ _ _ _ c1 d1,fK _ _ _ d2 c2,r2⟩⟩
   ·cases hs
  ·rename_i k j wd o
   obtain⟨l,hl,hn,ep⟩:=cm.1 hpx
   rw[ak]at hs
   split at hs
   ·rename_i c hk
    cases hb:(and (Nat.ble 1 i.size) (and (Nat.beq (cellsOf v).length i.size) (Nat.ble ((j*wd+o)+i.size) c.length)))with
    |false=>rw[hb]at hs;cases hs
    |true=>
     rw[hb]at hs
     simp only[B1]at hb
     obtain⟨b1,b2,b3⟩:=hb
     have b1:=Nat.le_of_ble_eq_true b1
     have b2:=B2 b2
     have b3:=Nat.le_of_ble_eq_true b3
     simp only[B4,B0,Prod.mk.injEq,au]at hs
     obtain⟨_,rfl⟩:=hs
     obtain⟨xs,c1,c2,c3⟩:=eW hx (fun vs e=>by subst e;simp[cellsOf]at b2;omega)
     obtain⟨_,hoff,hge,ys,et,d1,d2,d3⟩:=hr.blk k _ l hk hl
     have hyl:=ar d1
     have hxl:=ar c1
     obtain⟨w',r1,r2,r4,r5,r6,r7,r8⟩:=gy (P:=P) (w:=w) (o:=j*wd+o) i1 c3 c2 (by rw[hxl,b2,i2]) d3 (by omega)
     have:(execOp a.eval (⟨dst, .store t p x,ty,pos,after,gd⟩:Oper)).run P w= .ok .skip w':=by
      simp only[execOp,Instr.storeAt,Instr.sureAddr,ep,hoff,Nat.zero_add,Sem.run_bind,Sem.run_pure,Result.andThen_ok,r1]
     rw[this]
     exact⟨rfl,ρ,List.prefix_refl _,hr.write hk hl rfl rfl hn hge r4 r5 r6 r7 r8 ⟨hn,hoff,hge,_,et,di _ _ _ _ _ c1 d1,fK _ _ _ d2 c2,r2⟩⟩
   ·rename_i te ys0 hk
    cases hb:(and (Nat.beq wd (X.width te)) (and (Nat.ble 1 i.size) (and (Nat.beq (cellsOf v).length i.size) (Nat.ble (o+i.size) (X.width te)))))with
    |false=>rw[hb]at hs;cases hs
    |true=>
     rw[hb]at hs
     simp only[B1]at hb
     obtain⟨b0,b1,b2,b3⟩:=hb
     have b0:=B2 b0
     have b1:=Nat.le_of_ble_eq_true b1
     have b2:=B2 b2
     have b3:=Nat.le_of_ble_eq_true b3
     simp only[B4]at hs
     split at hs
     ·rename_i x' hx'
      simp only[B0,Prod.mk.injEq,au]at hs
      obtain⟨e1,rfl⟩:=hs
      rw[hok]at e1
      have hj:=of_decide_eq_true e1
      obtain⟨xs,c1,c2,c3⟩:=eW hx (fun vs e=>by subst e;simp[cellsOf]at b2;omega)
      have hbk:=hr.blk k _ l hk hl
      obtain⟨hoff,hge,hcap,ys,spare,et,d1,d3,d4⟩:=hbk.2 hn
      have hyl:=ar d1
      rw[fF hq.elts]at hyl
      have hxl:=ar c1
      have hjw:j*X.width te+X.width te≤ys0.length*X.width te:=by
       have:=Nat.mul_le_mul_right (X.width te) (Nat.succ_le_of_lt hj)
       rwa[Nat.succ_mul]at this
      obtain⟨w',r1,r2,r4,r5,r6,r7,r8⟩:=gy (P:=P) (w:=w) (o:=j*wd+o) i1 c3 c2 (by rw[hxl,b2,i2]) d3 (by rw[List.length_append,b0];omega)
      have:(execOp a.eval (⟨dst, .store t p x,ty,pos,after,gd⟩:Oper)).run P w= .ok .skip w':=by
       simp only[execOp,Instr.storeAt,Instr.sureAddr,ep,hoff,Nat.zero_add,Sem.run_bind,Sem.run_pure,Result.andThen_ok,r1]
      rw[this]
      have hget:ys0.getD j (X.ki te)=ys0[j]:=by simp[List.getD,hj]
      rw[hget]at hx'
      have hrows:=rl hq.elts (cells:=cellsOf v) (o:=o) hj (hq.elts.back _ _ _ hx') (by omega)
      have hz1:ab ρ (rows te (ys0.set j x'))=some (aC ys (j*X.width te+o) xs):=by rw[hrows];exact di _ _ _ _ _ c1 (aB (List.nil_prefix) _ _ d1)
      obtain⟨zs,hz2⟩:∃zs,ab [] (rows te (ys0.set j x'))=some zs:=jg hq.elts _
      have hz3:zs=aC ys (j*X.width te+o) xs:=by
       have:=aB (List.nil_prefix (l:=ρ)) _ _ hz2
       rw[hz1]at this
       simpa using this.symm
      refine⟨rfl,ρ,List.prefix_refl _,hr.write hk hl rfl rfl hn hge r4 r5 r6 r7 r8 ⟨(fun h=>by rw[hn]at h;cases h),fun _=>⟨hoff,hge,by simpa using hcap,zs,spare,et,hz2,?_,by simpa using d4⟩⟩⟩
      rw[r2,hz3,b0,gP _ _ _ _ (by omega)]
     ·cases hs
   ·cases hs
  ·cases hs
 ·cases h
theorem Ar (hq:EOk P G cfg) (hG:G w0.w) {c:Call} (hf:FR ρ tm a) (hc:ai tm cs=true) (hr:HR w0 ρ hp w) (h:aA cfg hp tm cs (.call c)=some (ok,vo,hp')) (hok:ok=true):cI P w0 ρ hp' vo ((execOp a.eval ⟨dst, .call c,ty,pos,after,gd⟩).run P w):=by
 simp only[aA]at h
 split at h
 ·rename_i args hargs
  have ha:=cw hf hc hargs
  split at h
  ·rename_i hcal
   exact xM hq.toQOk hf hc hr hcal h hargs hok
  ·rename_i f hcal
   split at h
   ·rename_i n first caps hfn
    split at h
    ·rename_i con eo
     simp only[Option.map_eq_some_iff,Prod.mk.injEq]at h
     obtain⟨r,hr',h1,rfl,rfl⟩:=h
     rw[hok]at h1
     obtain⟨hfo,hco,_⟩:=hq.makes n con eo
     obtain⟨u1,u2,hu1,hu2,e⟩:=gm.1 (aj hf hc hfn)
     have hcalls:=hco _ _ _ hr' h1 w0 ρ w (u1++(c.args.toList.map a.eval++u2)) hG hr (aD.2 ⟨_,_,hu1,aD.2 ⟨_,_,ha,hu2,rfl⟩,rfl⟩)
     have:(execOp a.eval (⟨dst, .call c,ty,pos,after,gd⟩:Oper)).run P w= .ok (.enter n (u1++(c.args.toList.map a.eval++u2)).toArray) w:=by
      simp only[execOp,resolve,hcal,Deferred.ofValue,e,invoke,Sem.run_bind,Sem.run_pure,Result.andThen_ok,bM hfo]
      congr 2
      simp[Array.append_assoc]
     rw[this]
     refine hcalls.mono fun e w'' ⟨x,ρ',he,hρ,hv,hr2⟩=>⟨x,ρ',he,hρ,hr2,fun v hv'=>?_⟩
     simp only[B0]at hv'
     exact hv'▸hv
    ·cases hap:cfg.apn with
     |false=>rw[hap]at h;cases h
     |true=>
      rw[hap,B4]at h
      unfold zT at h
      split at h
      ·rename_i con eo
       simp only[Option.map_eq_some_iff,Prod.mk.injEq]at h
       obtain⟨r,hr',h1,rfl,rfl⟩:=h
       rw[hok]at h1
       obtain⟨hfo,hco⟩:=hq.writes n con eo
       obtain⟨u1,u2,hu1,hu2,e⟩:=gm.1 (aj hf hc hfn)
       have hcalls:=hco _ _ _ hr' h1 w0 ρ w (u1++(c.args.toList.map a.eval++u2)) hG hr (aD.2 ⟨_,_,hu1,aD.2 ⟨_,_,ha,hu2,rfl⟩,rfl⟩)
       have:(execOp a.eval (⟨dst, .call c,ty,pos,after,gd⟩:Oper)).run P w= .ok (.enter n (u1++(c.args.toList.map a.eval++u2)).toArray) w:=by
        simp only[execOp,resolve,hcal,Deferred.ofValue,e,invoke,Sem.run_bind,Sem.run_pure,Result.andThen_ok,bM hfo]
        congr 2
        simp[Array.append_assoc]
       rw[this]
       refine hcalls.mono fun e w'' ⟨x,ρ',he,hρ,hv,hr2⟩=>⟨x,ρ',he,hρ,hr2,fun v hv'=>?_⟩
       simp only[B0]at hv'
       exact hv'▸hv
      ·cases h
   ·cases h
  ·cases h
 ·cases h
theorem wK (hq:QOk P G cfg) {t:Nat} {r:Option Operand} (hr:HR w0 ρ hp w) (h:aA cfg hp tm cs (.makeMap t r)=some (ok,vo,hp')):cI P w0 ρ hp' vo ((execOp a.eval ⟨dst, .makeMap t r,ty,pos,after,gd⟩).run P w):=by
 cases r with
 |some r=>simp[aA]at h
 |none=>
  simp only[aA]at h
  split at h
  ·rename_i i ht
   cases hb:i.mp with
   |false=>rw[hb]at h;cases h
   |true=>
    rw[hb]at h
    simp only[B4,B0,Prod.mk.injEq]at h
    obtain⟨_,rfl,rfl⟩:=h
    have:(execOp a.eval (⟨dst, .makeMap t none,ty,pos,after,gd⟩:Oper)).run P w= .ok (.value (.map (some w.heap.size))) (w.alloc (.map #[] 0)):=by
     simp only[execOp,Option.map_none,Instr.makeMap,Sem.run_bind,Result.andThen_ok,run_newObj,Sem.run_pure,World.alloc_eq]
    rw[this]
    refine⟨ρ++[⟨w.heap.size,0,0,false,none,false⟩],List.prefix_append _ _,?_,fun v hv=>?_⟩
    ·exact hr.new (eh _ _) (fun _ _=>Nat.le_refl _) ⟨rfl,hr.below.size,heap_alloc_new _ _⟩
    ·simp only[B0]at hv
     subst hv
     exact q5.2 ⟨_,eL hr _,rfl,rfl⟩
  ·cases h
theorem xd (hq:QOk P G cfg) {t:Nat} {m k x:Operand} (hf:FR ρ tm a) (hc:ai tm cs=true) (hr:HR w0 ρ hp w) (h:aA cfg hp tm cs (.insert t m k x)=some (ok,vo,hp')) (hok:ok=true):cI P w0 ρ hp' vo ((execOp a.eval ⟨dst, .insert t m k x,ty,pos,after,gd⟩).run P w):=by
 simp only[aA,ak,au]at h
 split at h
 ·rename_i j k1 n k2 v i hm hk hx ht
  split at h
  ·rename_i es hj
   cases hb:and i.mp (and (kEq k1 .i64) (kEq k2 .i64))with
   |false=>rw[hb]at h;cases h
   |true=>
    rw[hb]at h
    simp only[B1]at hb
    simp only[B4,B0,Prod.mk.injEq]at h
    obtain⟨h1,rfl,rfl⟩:=h
    rw[hok,Bool.not_eq_true']at h1
    obtain⟨kt,et,ie,u1,u2,_,_⟩:=oQ (mc hq.types t i ht) hb.1
    obtain⟨l,hl,hn,ex⟩:=q5.1 (aj hf hc hm)
    have hk':=bm.1 (aj hf hc hk)
    have hx':=bm.1 (aj hf hc hx)
    rw[bp hb.2.1]at hk'
    rw[bp hb.2.2]at hx'
    obtain⟨_,hge,hobj⟩:=hr.blk j _ l hj hl
    obtain⟨q,hfind⟩:=gx n es 0 0
    rw[h1]at hfind
    have hlt:=(Array.getElem?_eq_some_iff.1 hobj).1
    have:(execOp a.eval (⟨dst, .insert t m k x,ty,pos,after,gd⟩:Oper)).run P w= .ok .skip {w with heap:=w.heap.setIfInBounds l.b (.map (fz 0 (es++[(n,v)])).toArray (es.length+1))}:=by
     simp only[execOp,Instr.mapUpdate,ex,hk',hx',Sem.run_bind,Sem.run_pure,Result.andThen_ok,run_underlying u1,MapKept.run_getObj_map hobj,MapKept.run_checkKey u2 (show MapKept.IsKey (.int .i64) (.int .i64 n) from rfl),MapKept.run_findKey u2 hfind,B5,MapKept.run_setObj_map _ hobj]
     rw[iH]
     simp
    rw[this]
    refine⟨rfl,ρ,List.prefix_refl _,hr.write hj hl rfl rfl hn hge rfl rfl rfl (by simp) (fun j' hne=>by simp[Ne.symm hne]) ⟨hn,hge,?_⟩⟩
    simp[hlt]
  ·cases h
 ·cases h
theorem iK (hq:EOk P G cfg) (hG:G w0.w) {o:Oper} (hf:FR ρ tm a) (hc:ai tm cs=true) (hr:HR w0 ρ hp w) (h:aA cfg hp tm cs o.op=some (ok,vo,hp')) (hok:ok=true):cI P w0 ρ hp' vo ((execOp a.eval o).run P w):=by
 obtain⟨dst,op,ty,pos,after,gd⟩:=o
 cases op with
 |alloc t=>exact zc hq.toQOk hq.elts hr h
 |box t x=>exact Bj hf hc hr h
 |buildSlice t n ps=>exact pV hq.toQOk hf hc hr h
 |store t p x=>exact zd hq.toQOk hf hc hr h hok
 |slice t x lo hi mx=>exact yL hq.toQOk hf hc hr h hok
 |makeMap t r=>exact wK hq.toQOk hr h
 |insert t m k x=>exact xd hq.toQOk hf hc hr h hok
 |makeSlice t l c=>exact Ab hq.toQOk hf hc hr h hok
 |call c=>exact Ar hq hG hf hc hr h hok
 |_=>simp[aA]at h
theorem cI.wp {o:Oper} {next:Act→World→Prop} {Q:Exit→Act→World→Prop} (h:cI P w0 ρ hp' vo ((execOp a.eval o).run P w))
  (hn:∀ρ' x w',ρ<+:ρ'→HR w0 ρ' hp' w'→(∀v,vo=some v→ah ρ' v=some x)→next (a.put o.dst x) w'):o.wp P a w next Q:=by
 unfold Oper.wp
 generalize (execOp a.eval o).run P w=r at*
 cases r with
 |halt x w'=>simp only[cI]at h
 |ok n w'=>
  cases n<;>simp only[cI]at h<;>simp only[Oper.upon]
  case value x=>obtain⟨ρ',h1,h2,h3⟩:=h;exact hn ρ' x w' h1 h2 h3
  case skip=>obtain⟨h0,ρ',h1,h2⟩:=h;exact hn ρ' undef w' h1 h2 (fun v hv=>by rw[h0]at hv;cases hv)
  case enter f args=>
   refine h.mono fun e w'' ⟨x,ρ',he,h1,h2,h3⟩=>?_
   subst he
   exact hn ρ' x w'' h1 h2 h3
omit X in
theorem dw.wp {x:Value} {o:Oper} {next:Act→World→Prop} {Q:Exit→Act→World→Prop} (h:dw P w x ((execOp a.eval o).run P w))
  (hn:∀w',Below w.heap.size w w'→next (a.put o.dst x) w'):o.wp P a w next Q:=by
 unfold Oper.wp
 generalize (execOp a.eval o).run P w=r at*
 cases r with
 |halt x w'=>simp only[dw]at h
 |ok n w'=>
  cases n<;>simp only[dw]at h<;>simp only[Oper.upon]
  case value x=>obtain⟨rfl,rfl⟩:=h;exact hn _ (Below.refl _ _)
  case enter f args=>
   obtain⟨rfl,h⟩:=h
   refine h.mono fun e w'' ⟨he,hb⟩=>?_
   subst he
   exact hn w'' hb
end
end Go.Proofs.Ytdadgkgkdgnihaa.Px
