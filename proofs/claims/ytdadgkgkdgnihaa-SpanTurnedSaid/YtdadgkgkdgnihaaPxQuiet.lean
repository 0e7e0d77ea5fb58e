/- The evaluator's quiet operations: whatever it says of one, the model's step does. -/
import Derived.Test.YtdadgkgkdgnihaaPxOps
import Derived.Laws.Tables
import Derived.MapKept
set_option linter.unusedVariables false
set_option linter.unusedSimpArgs false
namespace Go.Proofs.Ytdadgkgkdgnihaa.Px
open Go Go.RowKit
section
variable [X:aS]
omit X in
theorem cw {ρ:List Loc} {tm:List Slot} {a:Act} {cs:List (Nat×Bool)} (hf:FR ρ tm a) (hc:ai tm cs=true):∀{xs:List Operand} {vs:List AV},rds tm cs xs=some vs→ab ρ vs=some (xs.map a.eval)
 | [],vs,h=>by simp only[rds,B0]at h;subst h;rfl
 |x::xs,vs,h=>by
  simp only[rds]at h
  split at h
  ·rename_i v us hv hus
   simp only[B0]at h
   subst h
   exact aa.2 ⟨_,_,aj hf hc hv,cw hf hc hus,rfl⟩
  ·cases h
omit X in
theorem fD {ρ:List Loc} {tm:List Slot} {a:Act} {cs:List (Nat×Bool)} (hf:FR ρ tm a) (hc:ai tm cs=true):∀{ps:List (Nat×Operand)} {vs:List (Nat×AV)},parts tm cs ps=some vs→
  vs.length=(ps.map fun p=>(p.1,a.eval p.2)).length∧∀(j:Nat) (p:Nat×AV) (q:Nat×Value),vs[j]?=some p→(ps.map fun p=>(p.1,a.eval p.2))[j]?=some q→p.1=q.1∧ah ρ p.2=some q.2
 | [],vs,h=>by simp only[parts,B0]at h;subst h;exact⟨rfl,fun j p q hp=>by simp at hp⟩
 |(i,x)::ps,vs,h=>by
  simp only[parts]at h
  split at h
  ·rename_i v us hv hus
   simp only[B0]at h
   subst h
   obtain⟨hl,hg⟩:=fD hf hc hus
   refine⟨by simp[hl],fun j p q hp hq=>?_⟩
   cases j with
   |zero=>
    simp only[List.getElem?_cons_zero,B0,List.map_cons]at hp hq
    subst hp;subst hq
    exact⟨rfl,aj hf hc hv⟩
   |succ j=>exact hg j p q (by simpa using hp) (by simpa using hq)
  ·cases h
omit X in
theorem sY {cp:List (Nat×Nat×Bool)} (cs:List AV) (i:Nat) (v:AV) (l:List (Nat×AV)) (r:List AV) (h:pO cp cs ((i,v)::l)=some r):
  ∃o n,(cp.map fun x=>(x.1,x.2.1))[i]?=some (o,n)∧(cellsOf v).length=n∧o+n≤cs.length∧qc v∧pO cp (aC cs o (cellsOf v)) l=some r:=by
 simp only[pO,ak]at h
 split at h
 ·rename_i o n g hi
  cases hb:(and (Nat.ble 1 n) (and (Nat.beq (cellsOf v).length n) (Nat.ble (o+n) cs.length)))with
  |false=>rw[hb]at h;cases h
  |true=>
   rw[hb]at h
   simp only[B1]at hb
   obtain⟨b1,b2,b3⟩:=hb
   have hn:=B2 b2
   have hn1:=Nat.le_of_ble_eq_true b1
   refine⟨o,n,by simp[hi],hn,Nat.le_of_ble_eq_true b3,fun vs e=>?_,h⟩
   subst e
   simp[cellsOf]at hn
   omega
 ·cases h
omit X in
theorem oC {esz:Nat} (cs:List AV) (i:Nat) (v:AV) (l:List (Nat×AV)) (r:List AV) (h:kX esz cs ((i,v)::l)=some r):
  ∃o n,(fun i=>some (i*esz,esz)) i=some (o,n)∧(cellsOf v).length=n∧o+n≤cs.length∧qc v∧kX esz (aC cs o (cellsOf v)) l=some r:=by
 simp only[kX]at h
 cases hb:(and (Nat.ble 1 esz) (and (Nat.beq (cellsOf v).length esz) (Nat.ble (i*esz+esz) cs.length)))with
 |false=>rw[hb]at h;cases h
 |true=>
  rw[hb]at h
  simp only[B1]at hb
  obtain⟨b1,b2,b3⟩:=hb
  have hn:=B2 b2
  have hn1:=Nat.le_of_ble_eq_true b1
  refine⟨_,_,rfl,hn,Nat.le_of_ble_eq_true b3,fun vs e=>?_,h⟩
  subst e
  simp[cellsOf]at hn
  omega
omit X in
theorem jz {P:Program} {w:World} {ρ:List Loc} {k:IntKind}:∀{l:List AV} {xs:List Value} {a n:Int},kH k a l=some n→ab ρ l=some xs→(xs.foldlM Builtin.min2 (.int k a)).run P w= .ok (.int k n) w
 | [],xs,a,n,h,hc=>by simp[ab]at hc;subst hc;simp[kH]at h;subst h;simp
 |v::l,xs,a,n,h,hc=>by
  obtain⟨y,ys,hy,hys,rfl⟩:=aa.1 hc
  cases v<;>simp only[kH]at h<;>try (cases h;done)
  rename_i k' b
  cases hk:kEq k k' with
  |false=>rw[hk]at h;cases h
  |true=>
   rw[hk]at h
   simp only[ah,B0]at hy
   subst hy
   have hb:(cond (decide (b<a)) b a)=if b<a then b else a:=by by_cases e:b<a<;>simp[e]
   rw[hb]at h
   simp only[List.foldlM_cons,Builtin.min2,Sem.run_bind,Sem.run_pure,Result.andThen_ok]
   exact jz h hys
omit X in
theorem jC {P:Program} {w:World} {ρ:List Loc} {k:IntKind}:∀{l:List AV} {xs:List Value} {a n:Int},kW k a l=some n→ab ρ l=some xs→(xs.foldlM Builtin.max2 (.int k a)).run P w= .ok (.int k n) w
 | [],xs,a,n,h,hc=>by simp[ab]at hc;subst hc;simp[kW]at h;subst h;simp
 |v::l,xs,a,n,h,hc=>by
  obtain⟨y,ys,hy,hys,rfl⟩:=aa.1 hc
  cases v<;>simp only[kW]at h<;>try (cases h;done)
  rename_i k' b
  cases hk:kEq k k' with
  |false=>rw[hk]at h;cases h
  |true=>
   rw[hk]at h
   simp only[ah,B0]at hy
   subst hy
   have hb:(cond (decide (b>a)) b a)=if b>a then b else a:=by by_cases e:b>a<;>simp[e]
   rw[hb]at h
   simp only[List.foldlM_cons,Builtin.max2,Sem.run_bind,Sem.run_pure,Result.andThen_ok]
   exact jC h hys
end
end Go.Proofs.Ytdadgkgkdgnihaa.Px


namespace Go.Proofs.Ytdadgkgkdgnihaa.Px
open Go Go.RowKit
section
variable {P:Program} {w:World}
theorem cz {k:IntKind} {i:Int} {y:Nat} {code:BoundsCode} (h:0≤i∧i≤y):(Instr.sliceBound (.int k i) y code).run P w= .ok i.toNat w:=by
 simp[Instr.sliceBound,asIntOf,h]
def Bnd (o:Option Value) (b:Option Int):Prop:=match o,b with
 |none,none=>True
 |some v,some i=>∃k,v= .int k i
 |_,_=>False
theorem sV {n cap:Nat} {lo hi mx:Option Value} {l h m:Option Int} (hl:Bnd lo l) (hh:Bnd hi h) (hm:Bnd mx m) (hmh:m.isSome=true→h.isSome=true)
  (b1:0≤l.getD 0∧l.getD 0≤h.getD n) (b2:h.getD n≤m.getD cap) (b3:m.getD cap≤cap):
  (Instr.sliceBounds true n cap lo hi mx).run P w= .ok ((l.getD 0).toNat,(h.getD n).toNat,(m.getD cap).toNat) w:=by
 cases lo with
 |none=>cases l with
  |some j=>exact hl.elim
  |none=>cases hi with
   |none=>cases h with
    |some j=>exact hh.elim
    |none=>cases mx with
     |none=>cases m with
      |some j=>exact hm.elim
      |none=>simp[Instr.sliceBounds]
     |some v=>cases m with
      |none=>exact hm.elim
      |some j=>simp at hmh
   |some v=>cases h with
    |none=>exact hh.elim
    |some j=>
     obtain⟨k,rfl⟩:=hh
     simp only[Option.getD_some,Option.getD_none]at b1 b2 b3
     cases mx with
     |none=>cases m with
      |some j=>exact hm.elim
      |none=>simp only[Option.getD_none]at b2;simp[Instr.sliceBounds,cz (i:=j) (y:=cap) ⟨by omega,by omega⟩]
     |some v=>cases m with
      |none=>exact hm.elim
      |some j'=>
       obtain⟨k',rfl⟩:=hm
       simp only[Option.getD_some]at b2 b3
       simp[Instr.sliceBounds,cz (i:=j') (y:=cap) ⟨by omega,by omega⟩,cz (i:=j) (y:=j'.toNat) ⟨by omega,by omega⟩]
 |some u=>cases l with
  |none=>exact hl.elim
  |some jl=>
   obtain⟨kl,rfl⟩:=hl
   cases hi with
   |none=>cases h with
    |some j=>exact hh.elim
    |none=>
     simp only[Option.getD_some,Option.getD_none]at b1 b2 b3
     cases mx with
     |none=>cases m with
      |some j=>exact hm.elim
      |none=>simp[Instr.sliceBounds,cz (i:=jl) (y:=n) ⟨by omega,by omega⟩]
     |some v=>cases m with
      |none=>exact hm.elim
      |some j=>simp at hmh
   |some v=>cases h with
    |none=>exact hh.elim
    |some j=>
     obtain⟨k,rfl⟩:=hh
     simp only[Option.getD_some]at b1 b2
     cases mx with
     |none=>cases m with
      |some j=>exact hm.elim
      |none=>simp only[Option.getD_none]at b2;simp[Instr.sliceBounds,cz (i:=j) (y:=cap) ⟨by omega,by omega⟩,cz (i:=jl) (y:=j.toNat) ⟨by omega,by omega⟩]
     |some v=>cases m with
      |none=>exact hm.elim
      |some j'=>
       obtain⟨k',rfl⟩:=hm
       simp only[Option.getD_some]at b2 b3
       simp[Instr.sliceBounds,cz (i:=j') (y:=cap) ⟨by omega,by omega⟩,cz (i:=j) (y:=j'.toNat) ⟨by omega,by omega⟩,cz (i:=jl) (y:=j.toNat) ⟨by omega,by omega⟩]
theorem jf {t e:TypeId} {i:TypeInfo} (ht:P.underlying t=some (.slice e)) (hi':P.info? e=some i) {a:Option Addr} {n cap:Nat} {lo hi mx:Option Value} {l h m:Option Int} (hl:Bnd lo l) (hh:Bnd hi h) (hm:Bnd mx m) (hmh:m.isSome=true→h.isSome=true)
  (b1:0≤l.getD 0∧l.getD 0≤h.getD n) (b2:h.getD n≤m.getD cap) (b3:m.getD cap≤cap):
  (Instr.slice t (.slice a n cap) lo hi mx).run P w= .ok (.slice (if(m.getD cap).toNat=(l.getD 0).toNat then a else a.map (·.add ((l.getD 0).toNat*i.size))) ((h.getD n).toNat-(l.getD 0).toNat) ((m.getD cap).toNat-(l.getD 0).toNat)) w:=by
 simp only[Instr.slice,Sem.run_bind,run_underlying ht,Result.andThen_ok,sV hl hh hm hmh b1 b2 b3,a7 hi',Sem.run_pure]
end
theorem dC {ρ:List Loc} {tm:List Slot} {a:Act} {cs:List (Nat×Bool)} {o:Option Operand} {d j:Int} (hf:FR ρ tm a) (hc:ai tm cs=true) (h:cM tm cs d o=some j):Bnd (o.map a.eval) (o.map fun _=>j):=by
 cases o with
 |none=>trivial
 |some x=>
  simp only[cM]at h
  split at h
  ·rename_i k n hx
   simp only[B0]at h
   subst h
   exact⟨k,by have:=aj hf hc hx;simpa[ah]using this.symm⟩
  ·cases h
end Go.Proofs.Ytdadgkgkdgnihaa.Px


namespace Go.Proofs.Ytdadgkgkdgnihaa.Px
open Go Go.RowKit
theorem bF {ρ:List Loc} {k o:Nat} {x:Value}:ah ρ (.ptr k o)=some x↔∃l,ρ[k]?=some l∧l.nil=false∧x= .pointer (some ⟨l.b,l.off+o,none⟩):=by
 simp only[ah,Option.bind_eq_some_iff]
 constructor
 ·rintro ⟨l,hl,e⟩
  cases hn:l.nil with
  |true=>rw[hn]at e;simp at e
  |false=>rw[hn]at e;simp only[Bool.false_eq_true,if_false,B0]at e;exact⟨l,hl,hn,e.symm⟩
 ·rintro ⟨l,hl,hn,rfl⟩;exact⟨l,hl,by rw[hn];simp⟩
theorem cm {ρ:List Loc} {k i w o:Nat} {x:Value}:ah ρ (.pel k i w o)=some x↔∃l,ρ[k]?=some l∧l.nil=false∧x= .pointer (some ⟨l.b,l.off+(i*w+o),none⟩):=by
 simp only[ah,Option.bind_eq_some_iff]
 constructor
 ·rintro ⟨l,hl,e⟩
  cases hn:l.nil with
  |true=>rw[hn]at e;simp at e
  |false=>rw[hn]at e;simp only[Bool.false_eq_true,if_false,B0]at e;exact⟨l,hl,hn,e.symm⟩
 ·rintro ⟨l,hl,hn,rfl⟩;exact⟨l,hl,by rw[hn];simp⟩
theorem gm {ρ:List Loc} {f:Nat} {a c:List AV} {x:Value}:ah ρ (.fn f a c)=some x↔∃u v,ab ρ a=some u∧ab ρ c=some v∧x= .func (.func f) u.toArray v.toArray:=by
 simp only[ah,Option.bind_eq_some_iff,B0]
 constructor
 ·rintro ⟨u,h1,v,h2,rfl⟩;exact⟨u,v,h1,h2,rfl⟩
 ·rintro ⟨u,v,h1,h2,rfl⟩;exact⟨u,h1,v,h2,rfl⟩
theorem nN {ρ:List Loc} {k:Nat} {x:Value}:ah ρ (.yld k)=some x↔∃l,ρ[k]?=some l∧l.nil=false∧x= .func (.yield l.b) #[] #[]:=by
 simp only[ah,Option.bind_eq_some_iff]
 constructor
 ·rintro ⟨l,hl,e⟩
  cases hn:l.nil with
  |true=>rw[hn]at e;simp at e
  |false=>rw[hn]at e;simp only[Bool.false_eq_true,if_false,B0]at e;exact⟨l,hl,hn,e.symm⟩
 ·rintro ⟨l,hl,hn,rfl⟩;exact⟨l,hl,by simp[hn]⟩
theorem aK {ρ:List Loc} {k i w n:Nat} {m:Option Nat} {x:Value}:ah ρ (.sl k i w n m)=some x↔∃l,ρ[k]?=some l∧((l.nil=true∧n=0∧x= .slice l.base 0 l.cap)∨(l.nil=false∧x= .slice (some ⟨l.b,l.off+i*w,none⟩) n (m.getD l.cap-i))):=by
 simp only[ah,Option.bind_eq_some_iff]
 constructor
 ·rintro ⟨l,hl,e⟩
  refine⟨l,hl,?_⟩
  cases hn:l.nil with
  |true=>
   rw[hn]at e
   simp only[if_true]at e
   split at e
   ·rename_i h0;simp only[B0]at e;exact .inl ⟨rfl,h0,e.symm⟩
   ·cases e
  |false=>rw[hn]at e;simp only[Bool.false_eq_true,if_false,B0]at e;exact .inr ⟨rfl,e.symm⟩
 ·rintro ⟨l,hl,h⟩
  refine⟨l,hl,?_⟩
  rcases h with⟨hn,h0,rfl⟩|⟨hn,rfl⟩
  ·simp[hn,h0]
  ·simp[hn]
theorem nf {α β:Type} (f:α→β) (a:Array α):a.map f=(a.toList.map f).toArray:=by cases a;simp
theorem bm {ρ:List Loc} {k:IntKind} {n:Int} {x:Value}:ah ρ (.int k n)=some x↔x= .int k n:=by simp[ah,eq_comm]
theorem mj {ρ:List Loc} {b:Bool} {x:Value}:ah ρ (.bool b)=some x↔x= .bool b:=by simp[ah,eq_comm]
section
variable [X:aS] {P:Program} {G:World→Prop} {cfg:Cfg (X:=X)} {w0:aN} {w:World} {ρ:List Loc} {hp:List (Blk (X:=X))} {tm:List Slot} {a:Act} {cs:List (Nat×Bool)} {ok:Bool} {v:AV} {dst:Option Nat} {ty:Nat} {pos:String} {after:Array Edge} {gd:Option (Nat×Bool)}
abbrev db (P:Program) (ρ:List Loc) (a:Act) (w:World) (v:AV) (o:Oper):Prop:=∃x,ah ρ v=some x∧dw P w x ((execOp a.eval o).run P w)
theorem tI {x:Operand} (hf:FR ρ tm a) (hc:ai tm cs=true) (h:af cfg hp tm cs (.nilCheck x)=some (ok,v)):db P ρ a w v ⟨dst, .nilCheck x,ty,pos,after,gd⟩:=by
 simp only[af]at h
 split at h
 ·rename_i k o hr
  simp only[B0,Prod.mk.injEq]at h
  obtain⟨_,rfl⟩:=h
  have hx:=aj hf hc hr
  obtain⟨l,_,_,e⟩:=bF.1 hx
  exact⟨_,hx, .value (by simp[execOp,e])⟩
 ·rename_i k i wd o hr
  simp only[B0,Prod.mk.injEq]at h
  obtain⟨_,rfl⟩:=h
  have hx:=aj hf hc hr
  obtain⟨l,_,_,e⟩:=cm.1 hx
  exact⟨_,hx, .value (by simp[execOp,e])⟩
 ·rename_i f b c hr
  simp only[B0,Prod.mk.injEq]at h
  obtain⟨_,rfl⟩:=h
  have hx:=aj hf hc hr
  obtain⟨_,_,_,_,e⟩:=gm.1 hx
  exact⟨_,hx, .value (by simp[execOp,e])⟩
 ·rename_i k hr
  simp only[B0,Prod.mk.injEq]at h
  obtain⟨_,rfl⟩:=h
  have hx:=aj hf hc hr
  obtain⟨_,_,_,e⟩:=nN.1 hx
  exact⟨_,hx, .value (by simp[execOp,e])⟩
 ·cases h
omit X in
theorem Ae {x:Operand} (hf:FR ρ tm a) (hc:ai tm cs=true) (h:(rd tm cs x).map (fun v=>(true,v))=some (ok,v)):db P ρ a w v ⟨dst, .move x,ty,pos,after,gd⟩:=by
 simp only[Option.map_eq_some_iff,Prod.mk.injEq]at h
 obtain⟨u,hu,_,rfl⟩:=h
 exact⟨_,aj hf hc hu, .value (by simp[execOp])⟩
omit X in
theorem wO {x:Operand} (hf:FR ρ tm a) (hc:ai tm cs=true) (h:(rd tm cs x).map (fun v=>(true,v))=some (ok,v)):db P ρ a w v ⟨dst, .assign x,ty,pos,after,gd⟩:=by
 simp only[Option.map_eq_some_iff,Prod.mk.injEq]at h
 obtain⟨u,hu,_,rfl⟩:=h
 exact⟨_,aj hf hc hu, .value (by simp[execOp])⟩
theorem zx (hq:QOk P G cfg) {op:BinOp} {t:Nat} {x y:Operand} {ty2:Nat} (hf:FR ρ tm a) (hc:ai tm cs=true) (h:af cfg hp tm cs (.binOp op t x y ty2)=some (ok,v)) (hok:ok=true):db P ρ a w v ⟨dst, .binOp op t x y ty2,ty,pos,after,gd⟩:=by
 simp only[af]at h
 split at h
 ·rename_i v1 v2 h1 h2
  obtain⟨z,hz,hr⟩:=rE hq (aj hf hc h1) (aj hf hc h2) h hok
  exact⟨z,hz, .value hr⟩
 ·cases h
theorem AG {op:UnOp} {t:Nat} {x:Operand} (hf:FR ρ tm a) (hc:ai tm cs=true) (h:af cfg hp tm cs (.unOp op t x)=some (ok,v)):db P ρ a w v ⟨dst, .unOp op t x,ty,pos,after,gd⟩:=by
 simp only[af]at h
 split at h
 ·rename_i b hr
  simp only[B0,Prod.mk.injEq]at h
  obtain⟨_,rfl⟩:=h
  have hx:=aj hf hc hr
  rw[mj]at hx
  exact⟨_,rfl, .value (by simp[execOp,hx,Op.unary])⟩
 ·rename_i k n hr
  simp only[B0,Prod.mk.injEq]at h
  obtain⟨_,rfl⟩:=h
  have hx:=aj hf hc hr
  rw[bm]at hx
  exact⟨_,rfl, .value (by simp[execOp,hx,Op.unary,Op.intArith])⟩
 ·rename_i k n hr
  simp only[B0,Prod.mk.injEq]at h
  obtain⟨_,rfl⟩:=h
  have hx:=aj hf hc hr
  rw[bm]at hx
  exact⟨_,rfl, .value (by simp only[execOp,hx,Op.unary,intBits_xor,Sem.run_bind,Sem.run_pure,Result.andThen_ok])⟩
 ·cases h
theorem vU (hq:QOk P G cfg) {s d:Nat} {x:Operand} (hf:FR ρ tm a) (hc:ai tm cs=true) (h:af cfg hp tm cs (.convert s d x)=some (ok,v)):db P ρ a w v ⟨dst, .convert s d x,ty,pos,after,gd⟩:=by
 simp only[af]at h
 split at h
 ·rename_i k n is i hr h1 h2
  split at h
  ·rename_i k' hk
   simp only[B0,Prod.mk.injEq]at h
   obtain⟨_,rfl⟩:=h
   have hx:=aj hf hc hr
   rw[bm]at hx
   obtain⟨ds,hds,_⟩:=(ao hq.types s is h1).und
   have hdd:=(ao hq.types d i h2).kind k' hk
   refine⟨_,rfl, .value ?_⟩
   simp only[execOp,hx,convert,Sem.run_bind,run_underlying hds,run_underlying hdd,Result.andThen_ok,Conv.intToInt,Sem.run_pure]
  ·cases h
 ·cases h
theorem yV (hq:QOk P G cfg) {t f:Nat} {x:Operand} (hf:FR ρ tm a) (hc:ai tm cs=true) (h:af cfg hp tm cs (.field t x f)=some (ok,v)):db P ρ a w v ⟨dst, .field t x f,ty,pos,after,gd⟩:=by
 simp only[af,ak]at h
 split at h
 ·rename_i vs i hr ht
  split at h
  ·rename_i o n g hfl
   simp only[Option.map_eq_some_iff,Prod.mk.injEq]at h
   obtain⟨u,hu,_,rfl⟩:=h
   have hx:=aj hf hc hr
   obtain⟨ys,hys,ho,e⟩:=bx.1 hx
   obtain⟨fs,fd,inf,d,h1,h2,h3,h4,h5,_,h7,h8⟩:=(ao hq.types t i ht).cp f o n g hfl
   rw[←h8,←h5]at hu
   obtain⟨z,hz,hrun⟩:=rS (P:=P) (w:=w) h4 h7 hys ho hu
   refine⟨z,hz, .value ?_⟩
   simp only[execOp,Instr.field,Sem.run_bind,run_underlying h1,Result.andThen_ok,h2,e,asAgg,Sem.run_pure,h3,hrun]
  ·cases h
 ·cases h
theorem yN (hq:QOk P G cfg) {t:Nat} {x ix:Operand} (hf:FR ρ tm a) (hc:ai tm cs=true) (h:af cfg hp tm cs (.index t x ix)=some (ok,v)) (hok:ok=true):db P ρ a w v ⟨dst, .index t x ix,ty,pos,after,gd⟩:=by
 simp only[af]at h
 split at h
 ·rename_i vs k j i hr hi ht
  cases hl:Nat.beq i.len 0 with
  |true=>rw[hl]at h;cases h
  |false=>
   rw[hl,B5]at h
   have hx:=aj hf hc hr
   have hj:=aj hf hc hi
   rw[bm]at hj
   obtain⟨ys,hys,ho,e⟩:=bx.1 hx
   have key:(0≤j∧j<(i.len:Int))∧Px.part i.wB vs (j.toNat*i.esz) i.esz=some v:=by
    split at h
    ·rename_i k ns hint
     cases hlen:Nat.beq vs.length (i.len*i.esz)with
     |false=>rw[hlen]at h;cases h
     |true=>
      rw[hlen]at h
      simp only[B4,Option.map_eq_some_iff,Prod.mk.injEq]at h
      obtain⟨u,hu,hb,rfl⟩:=h
      rw[hok]at hb
      simp only[B1,B3]at hb
      refine⟨hb,lT hint ?_ hu⟩
      rw[B2 hlen]
      have:(j.toNat+1)*i.esz≤i.len*i.esz:=Nat.mul_le_mul_right _ (by omega)
      rw[Nat.add_mul,Nat.one_mul]at this
      exact this
    ·cases hb:and (decide (0≤j)) (decide (j<(i.len:Int)))with
     |false=>rw[hb]at h;cases h
     |true=>
      rw[hb]at h
      simp only[B4,Option.map_eq_some_iff,Prod.mk.injEq]at h
      obtain⟨u,hu,_,rfl⟩:=h
      simp only[B1,B3]at hb
      exact⟨hb,hu⟩
   obtain⟨hb,hu⟩:=key
   obtain⟨el,inf,d,h1,h2,h3,h4,h5⟩:=(ao hq.types t i ht).arr (fun e=>by rw[e]at hl;simp at hl)
   rw[←h5,←h3]at hu
   obtain⟨z,hz,hrun⟩:=rS (P:=P) (w:=w) h2 h4 hys ho hu
   refine⟨z,hz, .value ?_⟩
   simp only[execOp,Instr.index,hj,asIntOf,Sem.run_bind,Sem.run_pure,Result.andThen_ok,run_underlying h1,e,Sem.run_ite,if_pos hb,a7 h2,hrun]
 ·cases h
theorem wm {x:Operand} {i:Nat} (hf:FR ρ tm a) (hc:ai tm cs=true) (h:af cfg hp tm cs (.extract x i)=some (ok,v)):db P ρ a w v ⟨dst, .extract x i,ty,pos,after,gd⟩:=by
 simp only[af,ak]at h
 split at h
 ·rename_i vs hr
  simp only[Option.map_eq_some_iff,Prod.mk.injEq]at h
  obtain⟨u,hu,_,rfl⟩:=h
  have hx:=aj hf hc hr
  simp only[ah,Option.bind_eq_some_iff,B0]at hx
  obtain⟨ys,hys,e⟩:=hx
  obtain⟨z,hz,hcz⟩:=eR hys hu
  refine⟨z,hcz, .value ?_⟩
  simp only[execOp,Instr.extract,←e,List.getElem?_toArray,hz,Sem.run_bind,Sem.run_pure,Result.andThen_ok]
 ·cases h
theorem rN (hq:QOk P G cfg) {t f:Nat} {x:Operand} (hf:FR ρ tm a) (hc:ai tm cs=true) (h:af cfg hp tm cs (.fieldAddr t x f)=some (ok,v)):db P ρ a w v ⟨dst, .fieldAddr t x f,ty,pos,after,gd⟩:=by
 simp only[af,ak]at h
 split at h
 ·rename_i k o i hr ht
  simp only[Option.map_eq_some_iff,Prod.mk.injEq]at h
  obtain⟨⟨d,n,g⟩,hfl,_,rfl⟩:=h
  have hx:=aj hf hc hr
  obtain⟨l,hl,hn,e⟩:=bF.1 hx
  obtain⟨fs,fd,inf,ds,h1,h2,h3,h4,h5,h6,h7,h8⟩:=(ao hq.types t i ht).cp f d n g hfl
  refine⟨_,bF.2 ⟨l,hl,hn,rfl⟩, .value ?_⟩
  have h6':¬inf.size=0:=by rw[h5];exact h6
  simp only[execOp,Instr.fieldAt,Instr.sureAddr,fieldPlace,e,Sem.run_bind,run_underlying h1,h2,Result.andThen_ok,Sem.run_pure,a7 h4,Sem.run_ite,if_neg h6',Addr.add_lit,h3,Nat.add_assoc]
 ·rename_i k j wd o i hr ht
  simp only[Option.map_eq_some_iff,Prod.mk.injEq]at h
  obtain⟨⟨d,n,g⟩,hfl,_,rfl⟩:=h
  have hx:=aj hf hc hr
  obtain⟨l,hl,hn,e⟩:=cm.1 hx
  obtain⟨fs,fd,inf,ds,h1,h2,h3,h4,h5,h6,h7,h8⟩:=(ao hq.types t i ht).cp f d n g hfl
  refine⟨_,cm.2 ⟨l,hl,hn,rfl⟩, .value ?_⟩
  have h6':¬inf.size=0:=by rw[h5];exact h6
  simp only[execOp,Instr.fieldAt,Instr.sureAddr,fieldPlace,e,Sem.run_bind,run_underlying h1,h2,Result.andThen_ok,Sem.run_pure,a7 h4,Sem.run_ite,if_neg h6',Addr.add_lit,h3,Nat.add_assoc]
 ·cases h
theorem sC (hq:QOk P G cfg) {t:Nat} {x ix:Operand} (hf:FR ρ tm a) (hc:ai tm cs=true) (h:af cfg hp tm cs (.indexAddr t x ix)=some (ok,v)) (hok:ok=true):db P ρ a w v ⟨dst, .indexAddr t x ix,ty,pos,after,gd⟩:=by
 simp only[af]at h
 split at h
 ·rename_i u1 u2 i hr hi ht
  have hx:=aj hf hc hr
  have hj:=aj hf hc hi
  unfold xN at h
  split at h
  ·rename_i k i0 wd n m kk j
   cases hb:and i.slice (Nat.beq wd i.esz)with
   |false=>rw[hb]at h;cases h
   |true=>
    rw[hb]at h
    simp only[B1]at hb
    simp only[B4,B0,Prod.mk.injEq]at h
    obtain⟨h1,rfl⟩:=h
    rw[hok]at h1
    simp only[B1,B3]at h1
    rw[bm]at hj
    have hwd:=B2 hb.2
    obtain⟨e,inf,z,g1,g2,g3,_⟩:=(ao hq.types t i ht).slc hb.1
    obtain⟨l,hl,hx⟩:=aK.1 hx
    rcases hx with⟨_,h0,_⟩|⟨hn,ex⟩
    ·exact absurd h1 (by rw[h0];omega)
    ·refine⟨_,cm.2 ⟨l,hl,hn,rfl⟩, .value ?_⟩
     simp only[execOp,Instr.indexAt,ex,hj,asIntOf,Sem.run_bind,Sem.run_pure,Result.andThen_ok,run_underlying g1,Sem.run_ite,if_pos h1,a7 g2,Addr.add_lit,g3,hwd,Nat.add_zero,Nat.add_mul,Nat.add_assoc]
  ·rename_i k o kk j
   cases hb:Nat.ble 2 i.len with
   |false=>rw[hb]at h;cases h
   |true=>
    rw[hb]at h
    simp only[B4,B0,Prod.mk.injEq]at h
    obtain⟨h1,rfl⟩:=h
    rw[hok]at h1
    simp only[B1,B3]at h1
    rw[bm]at hj
    have hlen:=Nat.le_of_ble_eq_true hb
    obtain⟨e,inf,d,g1,g2,g3,_⟩:=(ao hq.types t i ht).arr (by omega)
    obtain⟨l,hl,hn,ex⟩:=bF.1 hx
    refine⟨_,bF.2 ⟨l,hl,hn,rfl⟩, .value ?_⟩
    simp only[execOp,Instr.indexAt,Instr.sureAddr,ex,hj,asIntOf,Sem.run_bind,Sem.run_pure,Result.andThen_ok,run_underlying g1,Sem.run_ite,if_pos h1,a7 g2,Addr.add_lit,g3,Nat.add_assoc]
  ·rename_i gb o kk j
   cases hb:Nat.ble 2 i.len with
   |false=>rw[hb]at h;cases h
   |true=>
    rw[hb]at h
    simp only[B4,B0,Prod.mk.injEq]at h
    obtain⟨h1,rfl⟩:=h
    rw[hok]at h1
    simp only[B1,B3]at h1
    rw[bm]at hj
    have hlen:=Nat.le_of_ble_eq_true hb
    obtain⟨e,inf,d,g1,g2,g3,_⟩:=(ao hq.types t i ht).arr (by omega)
    have ex:a.eval x= .pointer (some ⟨gb,o,none⟩):=by
     simp only[ah,Value.oneCell',if_true,B0]at hx
     exact hx.symm
    refine⟨.pointer (some ⟨gb,o+j.toNat*i.esz,none⟩),rfl, .value ?_⟩
    simp only[execOp,Instr.indexAt,Instr.sureAddr,ex,hj,asIntOf,Sem.run_bind,Sem.run_pure,Result.andThen_ok,run_underlying g1,Sem.run_ite,if_pos h1,a7 g2,Addr.add_lit,g3,Nat.add_assoc]
  ·rename_i k i0 wd kk j
   cases hb:and (Nat.ble 2 i.len) (Nat.beq wd i.esz)with
   |false=>rw[hb]at h;cases h
   |true=>
    rw[hb]at h
    simp only[B1]at hb
    simp only[B4,B0,Prod.mk.injEq]at h
    obtain⟨h1,rfl⟩:=h
    rw[hok]at h1
    simp only[B1,B3]at h1
    rw[bm]at hj
    have hlen:=Nat.le_of_ble_eq_true hb.1
    have hwd:=B2 hb.2
    obtain⟨e,inf,d,g1,g2,g3,_⟩:=(ao hq.types t i ht).arr (by omega)
    obtain⟨l,hl,hn,ex⟩:=cm.1 hx
    refine⟨_,cm.2 ⟨l,hl,hn,rfl⟩, .value ?_⟩
    simp only[execOp,Instr.indexAt,Instr.sureAddr,ex,hj,asIntOf,Sem.run_bind,Sem.run_pure,Result.andThen_ok,run_underlying g1,Sem.run_ite,if_pos h1,a7 g2,Addr.add_lit,g3,hwd,Nat.add_zero,Nat.add_mul,Nat.add_assoc]
  ·cases h
 ·cases h
theorem sP (hq:QOk P G cfg) (hG:G w0.w) {t:Nat} {inf:TypeInfo} {d:TypeDesc} {p:AV} {px:Value} (hr:HR w0 ρ hp w) (hi:P.info? t=some inf) (hd:P.underlying t=some d) (hp':ah ρ p=some px) (h:rW cfg.gl (bE d) inf.size p=some (ok,v)) (hok:ok=true):
  ∃x a,px= .pointer (some a)∧ah ρ v=some x∧(loadVar t a).run P w= .ok x w:=by
 unfold rW at h
 split at h
 ·rename_i b o
  split at h
  ·rename_i cs hl
   obtain⟨hlt,ys,hc,bc,hw⟩:=hq.wL b cs hl w0.w hG
   have hpart:Px.part (bE d) cs o inf.size=some v:=by
    split at h
    ·rename_i k ns ha
     simp only[Option.map_eq_some_iff,Prod.mk.injEq]at h
     obtain⟨u,hu,h1,rfl⟩:=h
     rw[hok]at h1
     exact lT ha (Nat.le_of_ble_eq_true h1) hu
    ·simp only[Option.map_eq_some_iff,Prod.mk.injEq]at h
     obtain⟨u,hu,_,rfl⟩:=h
     exact hu
   obtain⟨x,hx,hrun⟩:=eB (P:=P) (w:=w) (ρ:=ρ) (b:=b) (off:=0) hi hd (aB (List.nil_prefix) _ _ hc) bc (fun j y hj=>by
    rw[Nat.zero_add,←hw j y hj]
    exact hr.below.cell (p:=⟨b,j,none⟩) hlt) hpart
   rw[Nat.zero_add]at hrun
   simp only[ah,Value.oneCell',if_true,B0]at hp'
   exact⟨x,_,hp'.symm,hx,hrun⟩
  ·cases h
 ·cases h
theorem Ao (hq:QOk P G cfg) (hG:G w0.w) {t:Nat} {x:Operand} (hf:FR ρ tm a) (hc:ai tm cs=true) (hr':HR w0 ρ hp w) (h:af cfg hp tm cs (.load t x)=some (ok,v)) (hok:ok=true):db P ρ a w v ⟨dst, .load t x,ty,pos,after,gd⟩:=by
 simp only[af]at h
 split at h
 ·rename_i p i hr ht
  obtain⟨inf,h1,h2⟩:=(ao hq.types t i ht).info
  obtain⟨d,h3,h4⟩:=(ao hq.types t i ht).und
  rw[←h2,←h4]at h
  cases hl:loadAt (X:=X) (bE d) inf.size hp p with
  |some r=>
   rw[hl]at h
   simp only[orL,B0]at h
   subst h
   obtain⟨z,ad,e,hz,hrun⟩:=lv (P:=P) hq.elts hr' h1 h3 (aj hf hc hr) hl hok
   refine⟨z,hz, .value ?_⟩
   simp only[execOp,Instr.loadAt,Instr.sureAddr,e,Sem.run_bind,Sem.run_pure,Result.andThen_ok,hrun]
  |none=>
   rw[hl]at h
   obtain⟨z,ad,e,hz,hrun⟩:=sP hq hG hr' h1 h3 (aj hf hc hr) h hok
   refine⟨z,hz, .value ?_⟩
   simp only[execOp,Instr.loadAt,Instr.sureAddr,e,Sem.run_bind,Sem.run_pure,Result.andThen_ok,hrun]
 ·cases h
theorem yI (hq:QOk P G cfg) {t:Nat} {ps:Array (Nat×Operand)} (hf:FR ρ tm a) (hc:ai tm cs=true) (h:af cfg hp tm cs (.build t ps)=some (ok,v)):db P ρ a w v ⟨dst, .build t ps,ty,pos,after,gd⟩:=by
 simp only[af]at h
 split at h
 ·rename_i vs i hps ht
  have hti:=ao hq.types t i ht
  obtain⟨hlen,hget⟩:=fD hf hc hps
  obtain⟨inf,hinf,_⟩:=hti.info
  have hmap:(ps.map fun(i,x)=>(i,a.eval x)).toList=ps.toList.map fun p=>(p.1,a.eval p.2):=by simp
  cases hagz:and i.agg (not i.zero.isEmpty)with
  |false=>rw[hagz]at h;cases h
  |true=>
   rw[hagz]at h
   simp only[B1,Bool.not_eq_true',List.isEmpty_eq_false_iff]at hagz
   obtain⟨hag,hz0⟩:=hagz
   simp only[B4,Option.map_eq_some_iff,Prod.mk.injEq]at h
   obtain⟨r,hr,_,rfl⟩:=h
   have hzero:∀(_:i.slice=false),∃z,inf.zero=some z∧ab [] i.zero=some z.cells.toList∧z.cells.toList.all Value.oneCell'=true:=by
    intro hs
    obtain⟨inf',z,e1,e2,e3,e4⟩:=hti.zero hz0 hs
    rw[hinf]at e1
    simp only[B0]at e1
    subst e1
    exact⟨z,e2,e3,e4⟩
   have hs:i.slice=false:=by
    cases hs:i.slice with
    |false=>rfl
    |true=>
     obtain⟨e,_,_,g1,_⟩:=hti.slc hs
     obtain⟨d,g2,g3⟩:=hti.und
     rw[g1]at g2
     simp only[B0]at g2
     subst g2
     rw[hag]at g3
     simp[bE]at g3
   obtain⟨z,hz1,hz2,hz3⟩:=hzero hs
   have hz2':ab ρ i.zero=some z.cells.toList:=aB (List.nil_prefix) _ _ hz2
   split at hr
   ·rename_i hl0
    obtain⟨fs,hu,hpl⟩:=hti.nfl hag hl0
    obtain⟨zs,c1,c2,c3⟩:=gO (ρ:=ρ) (place:=fun x=>(i.cp.map fun x=>(x.1,x.2.1))[x]?) vs _ i.zero _ (pO i.cp) r (fun _=>rfl) sY hlen hget hz2' hz3 hr
    refine⟨.agg zs.toArray,bx.2 ⟨zs,c1,c2,rfl⟩, .value ?_⟩
    have hb:P.built t (ps.map fun(i,x)=>(i,a.eval x)).toList=some zs.toArray:=by
     unfold Program.built
     rw[hmap]
     simp only[hinf,hu,hz1,hpl]
     simpa using c3
    simp only[execOp,Sem.run_bind,run_build w t _ _ hb,Result.andThen_ok,Sem.run_pure]
   ·rename_i n hl
    obtain⟨e,ie,d,g1,g2,g3,_⟩:=hti.arr (by omega)
    obtain⟨zs,c1,c2,c3⟩:=gO (ρ:=ρ) (place:=fun x=>some (x*i.esz,i.esz)) vs _ i.zero _ (kX i.esz) r (fun _=>rfl) oC hlen hget hz2' hz3 hr
    refine⟨.agg zs.toArray,bx.2 ⟨zs,c1,c2,rfl⟩, .value ?_⟩
    have hb:P.built t (ps.map fun(i,x)=>(i,a.eval x)).toList=some zs.toArray:=by
     unfold Program.built
     rw[hmap]
     simp only[hinf,g1,hz1,g2,g3]
     simpa using c3
    simp only[execOp,Sem.run_bind,run_build w t _ _ hb,Result.andThen_ok,Sem.run_pure]
 ·rename_i hps ht
  cases hv:wC t cfg.vt with
  |false=>rw[hv]at h;cases h
  |true=>
   rw[hv,B4]at h
   simp only[B0,Prod.mk.injEq]at h
   obtain⟨_,rfl⟩:=h
   obtain⟨_,hb⟩:=hq.uN t hv
   obtain⟨hlen,_⟩:=fD hf hc hps
   have hmap:(ps.map fun(i,x)=>(i,a.eval x)).toList=[]:=by
    have:(ps.map fun(i,x)=>(i,a.eval x)).toList=ps.toList.map fun p=>(p.1,a.eval p.2):=by simp
    rw[this]
    exact List.eq_nil_of_length_eq_zero hlen.symm
   refine⟨.agg #[],by simp[ah,ab], .value ?_⟩
   simp only[execOp,Sem.run_bind,run_build w t _ _ (show P.built t (ps.map fun(i,x)=>(i,a.eval x)).toList=some #[] by rw[hmap];exact hb),Result.andThen_ok,Sem.run_pure]
 ·cases h
theorem tk {fn:Fn} {first caps:Array Operand} (hf:FR ρ tm a) (hc:ai tm cs=true) (h:af cfg hp tm cs (.makeFunc fn first caps)=some (ok,v)):db P ρ a w v ⟨dst, .makeFunc fn first caps,ty,pos,after,gd⟩:=by
 cases fn<;>simp only[af]at h<;>try (cases h;done)
 split at h
 ·rename_i u1 u2 h1 h2
  simp only[B0,Prod.mk.injEq]at h
  obtain⟨_,rfl⟩:=h
  refine⟨_,gm.2 ⟨_,_,cw hf hc h1,cw hf hc h2,rfl⟩, .value ?_⟩
  simp[execOp,Instr.makeFunc,nf]
 ·cases h
theorem Ai (hq:QOk P G cfg) (hG:G w0.w) {c:Call} (hf:FR ρ tm a) (hc:ai tm cs=true) (hr':HR w0 ρ hp w) (h:af cfg hp tm cs (.call c)=some (ok,v)) (hok:ok=true):db P ρ a w v ⟨dst, .call c,ty,pos,after,gd⟩:=by
 simp only[af]at h
 split at h
 ·rename_i args hargs
  have ha:=cw hf hc hargs
  split at h
  ·rename_i b hcal
   have hmap:(c.args.map a.eval).toList=c.args.toList.map a.eval:=by simp
   unfold sg at h
   split at h
   ·rename_i x
    split at h
    ·rename_i t hts
     split at h
     ·rename_i i ht
      cases hs:i.slice with
      |false=>rw[hs]at h;cases h
      |true=>
       rw[hs]at h
       simp only[B4]at h
       split at h
       case h_2=>cases h
       rename_i n hn
       simp only[B0,Prod.mk.injEq]at h
       obtain⟨_,rfl⟩:=h
       obtain⟨e,_,_,g1,_⟩:=(ao hq.types t i ht).slc hs
       obtain⟨y,ys,hy,hys,eys⟩:=aa.1 ha
       simp only[ab,B0]at hys
       subst hys
       refine⟨_,rfl, .value ?_⟩
       have hat:c.argTypes= #[t]:=by
        have:c.argTypes.toList=[t]:=hts
        rw[←Array.toArray_toList (xs:=c.argTypes),this]
       have hav:c.args.map a.eval= #[y]:=by
        rw[←Array.toArray_toList (xs:=c.args.map a.eval),hmap,eys]
       have hslice:∃base cap,y= .slice base n cap:=by
        unfold lenOf at hn
        split at hn
        ·simp only[B0]at hn
         subst hn
         obtain⟨l,_,hy⟩:=aK.1 hy
         rcases hy with⟨_,h0,e⟩|⟨_,e⟩
         ·exact⟨_,_,by rw[e,h0]⟩
         ·exact⟨_,_,e⟩
        ·simp only[B0]at hn
         subst hn
         simp[ah,Value.oneCell']at hy
         exact⟨_,_,hy.symm⟩
        ·cases hn
       obtain⟨base,cap,rfl⟩:=hslice
       have hel:P.elem t=e:=by simp[Program.elem,g1]
       simp only[execOp,resolve,hcal,hav,hat,invoke,builtin,Sem.run_bind,Sem.run_pure,Result.andThen_ok,run_len_slice (P:=P) w t ty base n cap (by rw[hel];exact g1),goInt]
     ·cases h
    ·cases h
   ·rename_i k n0 l
    simp only[Option.map_eq_some_iff,Prod.mk.injEq]at h
    obtain⟨m,hm,_,rfl⟩:=h
    obtain⟨y,ys,hy,hys,eys⟩:=aa.1 ha
    rw[bm]at hy
    subst hy
    refine⟨_,rfl, .value ?_⟩
    simp only[execOp,resolve,hcal,invoke,builtin,Builtin.min_,hmap,eys,Sem.run_bind,Sem.run_pure,Result.andThen_ok,jz (P:=P) (w:=w) hm hys]
   ·rename_i k n0 l
    simp only[Option.map_eq_some_iff,Prod.mk.injEq]at h
    obtain⟨m,hm,_,rfl⟩:=h
    obtain⟨y,ys,hy,hys,eys⟩:=aa.1 ha
    rw[bm]at hy
    subst hy
    refine⟨_,rfl, .value ?_⟩
    simp only[execOp,resolve,hcal,invoke,builtin,Builtin.max_,hmap,eys,Sem.run_bind,Sem.run_pure,Result.andThen_ok,jC (P:=P) (w:=w) hm hys]
   ·cases h
  ·rename_i f hcal
   split at h
   ·rename_i n first caps hfn
    split at h
    ·rename_i con eo
     obtain⟨hfo,hco⟩:=hq.calls n con eo
     obtain⟨u1,u2,hu1,hu2,e⟩:=gm.1 (aj hf hc hfn)
     obtain⟨x,hx,hcalls⟩:=hco _ _ _ _ h hok w0 ρ w (u1++(c.args.toList.map a.eval++u2)) hG hr' (aD.2 ⟨_,_,hu1,aD.2 ⟨_,_,ha,hu2,rfl⟩,rfl⟩)
     refine⟨x,hx,?_⟩
     have:(execOp a.eval (⟨dst, .call c,ty,pos,after,gd⟩:Oper)).run P w= .ok (.enter n (u1++(c.args.toList.map a.eval++u2)).toArray) w:=by
      simp only[execOp,resolve,hcal,Deferred.ofValue,e,invoke,Sem.run_bind,Sem.run_pure,Result.andThen_ok,bM hfo]
      congr 2
      simp[Array.append_assoc]
     rw[this]
     exact⟨rfl,hcalls⟩
    ·cases h
   ·cases h
  ·rename_i f m hcal
   split at h
   ·rename_i t u hfn
    split at h
    ·rename_i n hm
     split at h
     ·rename_i con eo
      obtain⟨hfo,hco⟩:=hq.calls n con eo
      have hrecv:=aj hf hc hfn
      simp only[ah,Option.bind_eq_some_iff,B0]at hrecv
      obtain⟨x,hx,e⟩:=hrecv
      obtain⟨_,hmeth⟩:=hq.uG t m n hm
      obtain⟨y,hy,hcalls⟩:=hco _ _ _ _ h hok w0 ρ w (x::c.args.toList.map a.eval) hG hr' (aa.2 ⟨_,_,hx,ha,rfl⟩)
      refine⟨y,hy,?_⟩
      have:(execOp a.eval (⟨dst, .call c,ty,pos,after,gd⟩:Oper)).run P w= .ok (.enter n (x::c.args.toList.map a.eval).toArray) w:=by
       have e0:(#[a.eval f]++c.args.map a.eval)[0]?=some (.iface t x):=by rw[←e,Array.getElem?_append_left (by simp)];rfl
       have e1:(#[a.eval f]++c.args.map a.eval).extract 1 (#[a.eval f]++c.args.map a.eval).size=c.args.map a.eval:=by
        apply Array.ext'
        simp
        exact List.take_of_length_le (by simp)
       simp only[execOp,resolve,hcal,invoke,callMethod,e0,e1,Sem.run_bind,Sem.run_pure,run_program,Result.andThen_ok,hmeth,bM hfo]
       congr 2
       apply Array.ext'
       simp
      rw[this]
      exact⟨rfl,hcalls⟩
     ·cases h
    ·cases h
   ·cases h
 ·cases h
theorem mN (hq:QOk P G cfg) {t:Nat} {x:Operand} (hf:FR ρ tm a) (hc:ai tm cs=true) (h:af cfg hp tm cs (.makeInterface t x)=some (ok,v)):db P ρ a w v ⟨dst, .makeInterface t x,ty,pos,after,gd⟩:=by
 simp only[af]at h
 split at h
 ·rename_i u i hr ht
  split at h
  ·rename_i k hk
   simp only[B0,Prod.mk.injEq]at h
   obtain⟨_,rfl⟩:=h
   have hx:=aj hf hc hr
   have hu:=(ao hq.types t i ht).kind k hk
   refine⟨.iface t (a.eval x),by simp[ah,hx], .value ?_⟩
   simp only[execOp,Sem.run_bind,run_makeInterface (P:=P) w t (a.eval x) (by simp[Program.concrete,hu]),Result.andThen_ok,Sem.run_pure]
  ·cases h
 ·rename_i u hr ht
  cases hv:wC t cfg.vt with
  |false=>rw[hv]at h;cases h
  |true=>
   rw[hv,B4]at h
   simp only[B0,Prod.mk.injEq]at h
   obtain⟨_,rfl⟩:=h
   have hx:=aj hf hc hr
   refine⟨.iface t (a.eval x),by simp[ah,hx], .value ?_⟩
   simp only[execOp,Sem.run_bind,run_makeInterface (P:=P) w t (a.eval x) (hq.uN t hv).1,Result.andThen_ok,Sem.run_pure]
 ·cases h
omit X in
theorem q5 {ρ:List Loc} {k:Nat} {x:Value}:ah ρ (.mp k)=some x↔∃l,ρ[k]?=some l∧l.nil=false∧x= .map (some l.b):=by
 simp only[ah,Option.bind_eq_some_iff]
 constructor
 ·rintro ⟨l,hl,e⟩
  cases hn:l.nil with
  |true=>rw[hn]at e;simp at e
  |false=>rw[hn]at e;simp at e;exact⟨l,hl,hn,e.symm⟩
 ·rintro ⟨l,hl,hn,rfl⟩
  exact⟨l,hl,by rw[hn];simp⟩
omit X in
theorem gx (n:Int):∀(es:List (Int×Int)) (i j:Nat),∃q,Instr.findNow (.int .i64) (.int .i64 n) (fz i es) j=some (cond (lE n es) (some (q, .int .i64 (ob n es))) none)
 | [],_,_=>⟨0,rfl⟩
 |(k,v)::es,i,j=>by
  simp only[fz,Instr.findNow,Instr.sameNow,lE,ob]
  cases h:n==k with
  |true=>exact⟨j,rfl⟩
  |false=>
   obtain⟨q,e⟩:=gx n es (i+1) (j+1)
   exact⟨q,by simpa using e⟩
omit X in
theorem n9 {n:Int}:∀{es:List (Int×Int)},lE n es=false→ob n es=0
 | [],_=>rfl
 |(k,v)::es,h=>by
  simp only[lE,Bool.or_eq_false_iff]at h
  simp only[ob,h.1,B5]
  exact n9 h.2
omit X in
theorem iH (n v:Int):∀(es:List (Int×Int)) (i:Nat),fz i (es++[(n,v)])=fz i es++[{key:= .int .i64 n,val:= .int .i64 v,born:=i+es.length}]
 | [],_=>rfl
 |(k,u)::es,i=>by
  simp only[List.cons_append,fz,iH n v es (i+1),List.length_cons]
  congr 3
  congr 1
  omega
theorem xe (hq:QOk P G cfg) {t:Nat} {x ix:Operand} {ok2:Bool} (hf:FR ρ tm a) (hc:ai tm cs=true) (hr:HR w0 ρ hp w) (h:af cfg hp tm cs (.lookup t x ix ok2)=some (ok,v)):db P ρ a w v ⟨dst, .lookup t x ix ok2,ty,pos,after,gd⟩:=by
 cases ok2 with
 |false=>simp[af]at h
 |true=>
  simp only[af,ak]at h
  split at h
  ·rename_i j k n i hx hix ht
   split at h
   ·rename_i es hj
    cases hb:and i.mp (kEq k .i64)with
    |false=>rw[hb]at h;cases h
    |true=>
     rw[hb]at h
     simp only[B1]at hb
     simp only[B4,B0,Prod.mk.injEq]at h
     obtain⟨_,rfl⟩:=h
     obtain⟨kt,et,ie,u1,u2,u3,u4⟩:=oQ (mc hq.types t i ht) hb.1
     obtain⟨l,hl,hn,ex⟩:=q5.1 (aj hf hc hx)
     have hk:=bm.1 (aj hf hc hix)
     rw[bp hb.2]at hk
     obtain⟨_,_,hobj⟩:=hr.blk j _ l hj hl
     obtain⟨q,hfind⟩:=gx n es 0 0
     have hz:(zeroValue et).run P w= .ok (.int .i64 0) w:=by simp[zeroValue,eg u3,u4]
     refine⟨.tuple #[.int .i64 (ob n es), .bool (lE n es)],by simp[ah,ab], .value ?_⟩
     simp only[execOp,Instr.lookup,ex,hk,Sem.run_bind,Sem.run_pure,Result.andThen_ok,run_underlying u1,MapKept.run_getObj_map hobj,MapKept.run_checkKey u2 (show MapKept.IsKey (.int .i64) (.int .i64 n) from rfl),MapKept.run_findKey u2 hfind]
     cases hm:lE n es with
     |true=>simp[Result.andThen]
     |false=>simp[Result.andThen,hz,n9 hm]
   ·cases h
  ·cases h
theorem yM (hq:QOk P G cfg) {t:Nat} {x:Operand} {lo hi mx:Option Operand} (hf:FR ρ tm a) (hc:ai tm cs=true) (hr':HR w0 ρ hp w) (h:af cfg hp tm cs (.slice t x lo hi mx)=some (ok,v)) (hok:ok=true):db P ρ a w v ⟨dst, .slice t x lo hi mx,ty,pos,after,gd⟩:=by
 cases mx with
 |some m=>simp[af]at h
 |none=>
  simp only[af]at h
  cases hap:cfg.apn with
  |true=>rw[hap]at h;cases h
  |false=>
   rw[hap,B5]at h
   split at h
   ·rename_i k i wd n ti l hh hx ht hl hhi
    rw[ak]at h
    split at h
    ·rename_i te xs own hk
     cases hb:and ti.slice (Nat.beq wd ti.esz)with
     |false=>rw[hb]at h;cases h
     |true=>
      rw[hb,B4]at h
      simp only[B1]at hb
      have hwd:=B2 hb.2
      have h:vJ k i wd n xs.length ((lo.map fun _=>l).getD 0) ((hi.map fun _=>hh).getD n)=some (ok,v):=by cases lo<;>cases hi<;>exact h
      simp only[vJ,B0,Prod.mk.injEq]at h
      obtain⟨h1,rfl⟩:=h
      rw[hok]at h1
      simp only[B1,B3]at h1
      obtain⟨b0,b1,b2,b3⟩:=h1
      have b0:=Nat.le_of_ble_eq_true b0
      obtain⟨e,inf,z,g1,g2,g3,_⟩:=(ao hq.types t ti ht).slc hb.1
      obtain⟨lc,hlc,ex⟩:=aK.1 (aj hf hc hx)
      have hblk:=hr'.blk k _ lc hk hlc
      have hcap:lc.nil=false→xs.length≤lc.cap:=fun hn=>by
       cases own with
       |true=>exact(hblk.2 hn).2.2.1
       |false=>exact(hblk.2 hn).2.1
      have hnil:lc.nil=true→xs=[]:=fun hn=>by
       cases own with
       |true=>exact(hblk.1 hn).1
       |false=>exact hblk.1 hn
      have hform:a.eval x= .slice (if lc.nil then lc.base else some ⟨lc.b,lc.off+i*wd,none⟩) n (if lc.nil then lc.cap else lc.cap-i)∧n≤(if lc.nil then lc.cap else lc.cap-i):=by
       rcases ex with⟨e1,e2,e3⟩|⟨e1,e3⟩
       ·subst e2
        rw[e1]
        exact⟨e3,Nat.zero_le _⟩
       ·rw[e1]
        have:=hcap e1
        exact⟨e3,by simp only[Bool.false_eq_true,if_false];omega⟩
      obtain⟨ea,en⟩:=hform
      generalize hA:(if lc.nil then lc.base else some ⟨lc.b,lc.off+i*wd,none⟩)=A at ea
      generalize hC:(if lc.nil then lc.cap else lc.cap-i)=C at ea en
      have hrun:=jf (P:=P) (w:=w) g1 g2 (a:=A) (n:=n) (cap:=C) (dC hf hc hl) (dC hf hc hhi) (show Bnd none none from trivial) (by simp) ⟨b1,b2⟩ (by simp only[Option.getD_none];omega) (by simp)
      simp only[Option.getD_none,Int.toNat_natCast,g3,←hwd]at hrun
      refine⟨.slice (if C=((lo.map fun _=>l).getD 0).toNat then A else A.map (·.add (((lo.map fun _=>l).getD 0).toNat*wd))) (((hi.map fun _=>hh).getD n).toNat-((lo.map fun _=>l).getD 0).toNat) (C-((lo.map fun _=>l).getD 0).toNat),?_, .value ?_⟩
      ·simp only[ah,hlc,Option.bind_some]
       subst hA hC
       rfl
      ·simp only[execOp,Option.map_none,ea,Sem.run_bind,Instr.sliceAt,run_underlying g1,hrun,Result.andThen_ok,Sem.run_pure]
    ·cases h
   ·cases h
theorem bg (hq:QOk P G cfg) (hG:G w0.w) {o:Oper} (hf:FR ρ tm a) (hc:ai tm cs=true) (hr:HR w0 ρ hp w) (h:af cfg hp tm cs o.op=some (ok,v)) (hok:ok=true):db P ρ a w v o:=by
 obtain⟨dst,op,ty,pos,after,gd⟩:=o
 cases op with
 |move x=>exact Ae hf hc h
 |assign x=>exact wO hf hc h
 |nilCheck x=>exact tI hf hc h
 |binOp op t x y ty2=>exact zx hq hf hc h hok
 |unOp op t x=>exact AG hf hc h
 |convert s d x=>exact vU hq hf hc h
 |field t x f=>exact yV hq hf hc h
 |index t x ix=>exact yN hq hf hc h hok
 |extract x i=>exact wm hf hc h
 |fieldAddr t x f=>exact rN hq hf hc h
 |indexAddr t x ix=>exact sC hq hf hc h hok
 |load t x=>exact Ao hq hG hf hc hr h hok
 |build t ps=>exact yI hq hf hc h
 |makeFunc fn first caps=>exact tk hf hc h
 |makeInterface t x=>exact mN hq hf hc h
 |lookup t x ix ok2=>exact xe hq hf hc hr h
 |call c=>exact Ai hq hG hf hc hr h hok
 |slice t x lo hi mx=>exact yM hq hf hc hr h hok
 |_=>simp[af]at h
end
end Go.Proofs.Ytdadgkgkdgnihaa.Px
