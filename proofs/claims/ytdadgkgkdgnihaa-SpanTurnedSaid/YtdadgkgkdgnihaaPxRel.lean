/- The relation between the evaluator's abstract states and the model's frames and worlds. -/
import Derived.Test.YtdadgkgkdgnihaaPxDef
set_option linter.unusedVariables false
set_option linter.unusedSimpArgs false
namespace Go.Proofs.Ytdadgkgkdgnihaa.Px
open Go Go.RowKit
structure aN where
 w:World
 q:List (Nat×Obj):=[]
def bare (w:World):aN:=⟨w,[]⟩
structure Loc where
 b:Nat
 off:Nat
 cap:Nat
 nil:Bool
 base:Option Addr:=none
 mark:Bool:=false
mutual
def ah (ρ:List Loc):AV→Option Value
 | .int k n=>some (.int k n)
 | .bool b=>some (.bool b)
 | .str s=>some (.string s)
 | .ptr k o=>(ρ[k]?).bind fun l=>if l.nil then none else some (.pointer (some ⟨l.b,l.off+o,none⟩))
 | .pel k i w o=>(ρ[k]?).bind fun l=>if l.nil then none else some (.pointer (some ⟨l.b,l.off+(i*w+o),none⟩))
 | .sl k i w n m=>(ρ[k]?).bind fun l=>if l.nil then(if n=0 then some (.slice l.base 0 l.cap)else none)else some (.slice (some ⟨l.b,l.off+i*w,none⟩) n (m.getD l.cap-i))
 | .val v=>if v.oneCell' then some v else none
 | .fn f a c=>(ab ρ a).bind fun x=>(ab ρ c).bind fun y=>some (.func (.func f) x.toArray y.toArray)
 | .agg cs=>(ab ρ cs).bind fun x=>if x.all Value.oneCell' then some (.agg x.toArray)else none
 | .tup vs=>(ab ρ vs).bind fun x=>some (.tuple x.toArray)
 | .ifc t v=>(ah ρ v).bind fun x=>some (.iface t x)
 | .yld k=>(ρ[k]?).bind fun l=>if l.nil then none else some (.func (.yield l.b) #[] #[])
 | .mp k=>(ρ[k]?).bind fun l=>if l.nil then none else some (.map (some l.b))
 | .cut k i w lo n=>(ρ[k]?).bind fun l=>some (.slice (if(if l.nil then l.cap else l.cap-i)=lo then(if l.nil then l.base else some ⟨l.b,l.off+i*w,none⟩)else(if l.nil then l.base else some ⟨l.b,l.off+i*w,none⟩).map (·.add (lo*w))) n ((if l.nil then l.cap else l.cap-i)-lo))
def ab (ρ:List Loc):List AV→Option (List Value)
 | []=>some []
 |v::l=>(ah ρ v).bind fun x=>(ab ρ l).bind fun y=>some (x::y)
end
theorem ak {α:Type} (l:List α) (n:Nat):nth l n=l[n]?:=by
 induction l generalizing n with
 |nil=>simp[nth]
 |cons x l ih=>cases n<;>simp[nth,ih]
theorem au {α:Type} (l:List α) (n:Nat) (y:α):cO l n y=l.set n y:=by
 induction l generalizing n with
 |nil=>simp[cO]
 |cons x l ih=>cases n<;>simp[cO,ih]
theorem cN {α:Type} (n:Nat) (l:List α):fH n l=l.drop n:=by
 induction n generalizing l with
 |zero=>rfl
 |succ n ih=>cases l<;>simp[fH,ih]
theorem cT {α:Type} (n:Nat) (l:List α):takeN n l=l.take n:=by
 induction n generalizing l with
 |zero=>rfl
 |succ n ih=>cases l<;>simp[takeN,ih]
mutual
theorem c5 {ρ ρ':List Loc} (h:ρ<+:ρ'):∀(v:AV) (x:Value),ah ρ v=some x→ah ρ' v=some x
 | .int k n,x,e=>e
 | .bool b,x,e=>e
 | .str s,x,e=>e
 | .val v,x,e=>e
 | .ptr k o,x,e=>by
  simp only[ah,Option.bind_eq_some_iff]at e⊢
  obtain⟨l,hl,e⟩:=e
  exact⟨l,by obtain⟨t,rfl⟩:=h;rw[List.getElem?_append_left (List.getElem?_eq_some_iff.1 hl).1];exact hl,e⟩
 | .pel k i w o,x,e=>by
  simp only[ah,Option.bind_eq_some_iff]at e⊢
  obtain⟨l,hl,e⟩:=e
  exact⟨l,by obtain⟨t,rfl⟩:=h;rw[List.getElem?_append_left (List.getElem?_eq_some_iff.1 hl).1];exact hl,e⟩
 | .sl k i w n m,x,e=>by
  simp only[ah,Option.bind_eq_some_iff]at e⊢
  obtain⟨l,hl,e⟩:=e
  exact⟨l,by obtain⟨t,rfl⟩:=h;rw[List.getElem?_append_left (List.getElem?_eq_some_iff.1 hl).1];exact hl,e⟩
 | .fn f a c,x,e=>by
  simp only[ah,Option.bind_eq_some_iff]at e⊢
  obtain⟨y,hy,z,hz,e⟩:=e
  exact⟨y,aB h a y hy,z,aB h c z hz,e⟩
 | .agg cs,x,e=>by
  simp only[ah,Option.bind_eq_some_iff]at e⊢
  obtain⟨y,hy,e⟩:=e
  exact⟨y,aB h cs y hy,e⟩
 | .tup cs,x,e=>by
  simp only[ah,Option.bind_eq_some_iff]at e⊢
  obtain⟨y,hy,e⟩:=e
  exact⟨y,aB h cs y hy,e⟩
 | .ifc t v,x,e=>by
  simp only[ah,Option.bind_eq_some_iff]at e⊢
  obtain⟨y,hy,e⟩:=e
  exact⟨y,c5 h v y hy,e⟩
 | .yld k,x,e=>by
  simp only[ah,Option.bind_eq_some_iff]at e⊢
  obtain⟨l,hl,e⟩:=e
  exact⟨l,by obtain⟨t,rfl⟩:=h;rw[List.getElem?_append_left (List.getElem?_eq_some_iff.1 hl).1];exact hl,e⟩
 | .mp k,x,e=>by
  simp only[ah,Option.bind_eq_some_iff]at e⊢
  obtain⟨l,hl,e⟩:=e
  exact⟨l,by obtain⟨t,rfl⟩:=h;rw[List.getElem?_append_left (List.getElem?_eq_some_iff.1 hl).1];exact hl,e⟩
 | .cut k i w lo n,x,e=>by
  simp only[ah,Option.bind_eq_some_iff]at e⊢
  obtain⟨l,hl,e⟩:=e
  exact⟨l,by obtain⟨t,rfl⟩:=h;rw[List.getElem?_append_left (List.getElem?_eq_some_iff.1 hl).1];exact hl,e⟩
theorem aB {ρ ρ':List Loc} (h:ρ<+:ρ'):∀(l:List AV) (xs:List Value),ab ρ l=some xs→ab ρ' l=some xs
 | [],xs,e=>e
 |v::l,xs,e=>by
  simp only[ab,Option.bind_eq_some_iff]at e⊢
  obtain⟨y,hy,z,hz,e⟩:=e
  exact⟨y,c5 h v y hy,z,aB h l z hz,e⟩
end
theorem aa {ρ:List Loc} {v:AV} {l:List AV} {xs:List Value}:ab ρ (v::l)=some xs↔∃y ys,ah ρ v=some y∧ab ρ l=some ys∧xs=y::ys:=by
 simp only[ab,Option.bind_eq_some_iff,B0]
 constructor
 ·rintro ⟨y,hy,z,hz,rfl⟩;exact⟨y,z,hy,hz,rfl⟩
 ·rintro ⟨y,z,hy,hz,rfl⟩;exact⟨y,hy,z,hz,rfl⟩
theorem aD {ρ:List Loc}:∀{l m:List AV} {xs:List Value},ab ρ (l++m)=some xs↔∃ys zs,ab ρ l=some ys∧ab ρ m=some zs∧xs=ys++zs
 | [],m,xs=>by simp[ab]
 |v::l,m,xs=>by
  simp only[List.cons_append,aa,aD (l:=l)]
  constructor
  ·rintro ⟨y,ys,hy,⟨a,b,ha,hb,rfl⟩,rfl⟩;exact⟨y::a,b,⟨y,a,hy,ha,rfl⟩,hb,rfl⟩
  ·rintro ⟨_,b,⟨y,a,hy,ha,rfl⟩,hb,rfl⟩;exact⟨y,a++b,hy,⟨a,b,ha,hb,rfl⟩,rfl⟩
theorem ar {ρ:List Loc}:∀{l:List AV} {xs:List Value},ab ρ l=some xs→xs.length=l.length
 | [],xs,e=>by simp[ab]at e;subst e;rfl
 |v::l,xs,e=>by
  obtain⟨y,ys,_,h,rfl⟩:=aa.1 e
  simp[ar h]
theorem eR {ρ:List Loc}:∀{l:List AV} {xs:List Value} {i:Nat} {v:AV},ab ρ l=some xs→l[i]?=some v→∃x,xs[i]?=some x∧ah ρ v=some x
 | [],xs,i,v,e,h=>by simp at h
 |u::l,xs,i,v,e,h=>by
  obtain⟨y,ys,hy,hl,rfl⟩:=aa.1 e
  cases i with
  |zero=>simp at h;subst h;exact⟨y,by simp,hy⟩
  |succ i=>simp at h;obtain⟨x,hx,hc⟩:=eR hl h;exact⟨x,by simpa using hx,hc⟩
theorem cr {ρ:List Loc} {l:List AV} {xs:List Value} (n:Nat) (e:ab ρ l=some xs):ab ρ (l.take n)=some (xs.take n):=by
 induction n generalizing l xs with
 |zero=>simp[ab]
 |succ n ih=>
  cases l with
  |nil=>simp[ab]at e;subst e;simp[ab]
  |cons v l=>obtain⟨y,ys,hy,hl,rfl⟩:=aa.1 e;simp only[List.take_succ_cons];exact aa.2 ⟨y,_,hy,ih hl,rfl⟩
theorem cq {ρ:List Loc} {l:List AV} {xs:List Value} (n:Nat) (e:ab ρ l=some xs):ab ρ (l.drop n)=some (xs.drop n):=by
 induction n generalizing l xs with
 |zero=>simpa using e
 |succ n ih=>
  cases l with
  |nil=>simp[ab]at e;subst e;simp[ab]
  |cons v l=>obtain⟨y,ys,hy,hl,rfl⟩:=aa.1 e;simpa using ih hl
theorem pD {ρ:List Loc} {l:List AV} {xs:List Value} (n:Nat) {v:AV} {x:Value} (e:ab ρ l=some xs) (hv:ah ρ v=some x):ab ρ (l.set n v)=some (xs.set n x):=by
 induction n generalizing l xs with
 |zero=>
  cases l with
  |nil=>simp[ab]at e;subst e;simp[ab]
  |cons u l=>obtain⟨y,ys,hy,hl,rfl⟩:=aa.1 e;simp only[List.set_cons_zero];exact aa.2 ⟨x,_,hv,hl,rfl⟩
 |succ n ih=>
  cases l with
  |nil=>simp[ab]at e;subst e;simp[ab]
  |cons u l=>obtain⟨y,ys,hy,hl,rfl⟩:=aa.1 e;simp only[List.set_cons_succ];exact aa.2 ⟨y,_,hy,ih hl,rfl⟩
theorem oV {α:Type} {p:α→Bool} {l:List α} (n:Nat) (h:l.all p=true):(l.take n).all p=true:=by
 rw[List.all_eq_true]at h⊢;exact fun x hx=>h x (List.mem_of_mem_take hx)
theorem nS {α:Type} {p:α→Bool} {l:List α} (n:Nat) (h:l.all p=true):(l.drop n).all p=true:=by
 rw[List.all_eq_true]at h⊢;exact fun x hx=>h x (List.mem_of_mem_drop hx)
theorem bx {ρ:List Loc} {cs:List AV} {x:Value}:ah ρ (.agg cs)=some x↔∃ys,ab ρ cs=some ys∧ys.all Value.oneCell'=true∧x= .agg ys.toArray:=by
 simp only[ah,Option.bind_eq_some_iff]
 constructor
 ·rintro ⟨ys,h,e⟩
  split at e
  ·rename_i hc;exact⟨ys,h,hc,by simpa using e.symm⟩
  ·cases e
 ·rintro ⟨ys,h,hc,rfl⟩;exact⟨ys,h,by rw[if_pos hc]⟩
theorem eW {ρ:List Loc} {v:AV} {x:Value} (h:ah ρ v=some x) (ht:∀vs,v≠ .tup vs):
  ∃ys,ab ρ (cellsOf v)=some ys∧ys.all Value.oneCell'=true∧x.cells=ys.toArray:=by
 cases v with
 |agg cs=>obtain⟨ys,h1,h2,rfl⟩:=bx.1 h;exact⟨ys,h1,h2,rfl⟩
 |tup vs=>exact absurd rfl (ht vs)
 |int k n=>simp only[ah,B0]at h;subst h;exact⟨[_],rfl,rfl,rfl⟩
 |bool b=>simp only[ah,B0]at h;subst h;exact⟨[_],rfl,rfl,rfl⟩
 |str s=>simp only[ah,B0]at h;subst h;exact⟨[_],rfl,rfl,rfl⟩
 |val u=>
  have h':=h
  simp only[ah]at h'
  split at h'
  ·rename_i hu
   simp only[B0]at h'
   subst h'
   refine⟨[u],aa.2 ⟨u,[],h,rfl,rfl⟩,by simp[hu],?_⟩
   cases u<;>simp[Value.oneCell']at hu<;>rfl
  ·cases h'
 |ptr k o=>
  have h':=h
  simp only[ah,Option.bind_eq_some_iff]at h'
  obtain⟨l,_,e⟩:=h'
  split at e
  ·cases e
  ·simp only[B0]at e;subst e;exact⟨[_],aa.2 ⟨_,[],h,rfl,rfl⟩,rfl,rfl⟩
 |pel k i w o=>
  have h':=h
  simp only[ah,Option.bind_eq_some_iff]at h'
  obtain⟨l,_,e⟩:=h'
  split at e
  ·cases e
  ·simp only[B0]at e;subst e;exact⟨[_],aa.2 ⟨_,[],h,rfl,rfl⟩,rfl,rfl⟩
 |sl k i w n m=>
  have h':=h
  simp only[ah,Option.bind_eq_some_iff]at h'
  obtain⟨l,_,e⟩:=h'
  split at e
  ·split at e
   ·simp only[B0]at e;subst e;exact⟨[_],aa.2 ⟨_,[],h,rfl,rfl⟩,rfl,rfl⟩
   ·cases e
  ·simp only[B0]at e;subst e;exact⟨[_],aa.2 ⟨_,[],h,rfl,rfl⟩,rfl,rfl⟩
 |fn f a c=>
  have h':=h
  simp only[ah,Option.bind_eq_some_iff,B0]at h'
  obtain⟨_,_,_,_,e⟩:=h'
  subst e;exact⟨[_],aa.2 ⟨_,[],h,rfl,rfl⟩,rfl,rfl⟩
 |ifc t u=>
  have h':=h
  simp only[ah,Option.bind_eq_some_iff,B0]at h'
  obtain⟨_,_,e⟩:=h'
  subst e;exact⟨[_],aa.2 ⟨_,[],h,rfl,rfl⟩,rfl,rfl⟩
 |yld k=>
  have h':=h
  simp only[ah,Option.bind_eq_some_iff]at h'
  obtain⟨l,_,e⟩:=h'
  split at e
  ·cases e
  ·simp only[B0]at e;subst e;exact⟨[_],aa.2 ⟨_,[],h,rfl,rfl⟩,rfl,rfl⟩
 |mp k=>
  have h':=h
  simp only[ah,Option.bind_eq_some_iff]at h'
  obtain⟨l,_,e⟩:=h'
  split at e
  ·cases e
  ·simp only[B0]at e;subst e;exact⟨[_],aa.2 ⟨_,[],h,rfl,rfl⟩,rfl,rfl⟩
 |cut k i w lo n=>
  have h':=h
  simp only[ah,Option.bind_eq_some_iff]at h'
  obtain⟨l,_,e⟩:=h'
  simp only[B0]at e
  subst e
  exact⟨[_],aa.2 ⟨_,[],h,rfl,rfl⟩,rfl,rfl⟩
def fN (ρ:List Loc) (tm:List Slot):Slot→Value→Prop
 | .any,_=>True
 | .is v,x=>ah ρ v=some x
 | .opt cs v,x=>(ai tm cs=true→ah ρ v=some x)∧(ai tm cs=false→x=undef)
def Put (ρ:List Loc) (ds:List Deferred):Prop:=ds=[]∨∃(k:Nat) (l:Loc),ρ[k]?=some l∧l.mark=true∧ds=[{target:= .collected l.b,args:= #[]}]
theorem Put.mono {ρ ρ':List Loc} {ds:List Deferred} (h:ρ<+:ρ') (hp:Put ρ ds):Put ρ' ds:=by
 rcases hp with h0|⟨k,l,h1,h2⟩
 ·exact .inl h0
 ·exact .inr ⟨k,l,by obtain⟨t,rfl⟩:=h;rw[List.getElem?_append_left (List.getElem?_eq_some_iff.1 h1).1];exact h1,h2⟩
structure FR (ρ:List Loc) (tm:List Slot) (a:Act):Prop where
 size:a.tmps.size=tm.length
 at_:∀(i:Nat) (s:Slot),tm[i]?=some s→fN ρ tm s (a.tmps.getD i undef)
 defers:Put ρ a.defers
def Slot.gh:Slot→Bool
 | .opt _ _=>true
 |_=>false
def ae (tm:List Slot):Prop:=∀(i:Nat) (s:Slot),tm[i]?=some s→s.gh=false
theorem fN.mono {ρ ρ':List Loc} {tm:List Slot} {s:Slot} {x:Value} (h:ρ<+:ρ') (hs:fN ρ tm s x):fN ρ' tm s x:=by
 cases s with
 |any=>trivial
 |is v=>exact c5 h v x hs
 |opt cs v=>exact⟨fun hc=>c5 h v x (hs.1 hc),hs.2⟩
theorem FR.mono {ρ ρ':List Loc} {tm:List Slot} {a:Act} (h:ρ<+:ρ') (hf:FR ρ tm a):FR ρ' tm a:=
 ⟨hf.size,fun i s hi=>(hf.at_ i s hi).mono h,hf.defers.mono h⟩
def toCode:Ex→Code
 | .normal=> .skip
 | .exit id=> .exit id
 | .goto l=> .goto l
 | .ret=> .ret
def zu:RS→LoopState→Option Code→Prop
 | .ready,s,p=>s= .ready∧p=none
 | .busy,s,p=>s= .busy∧p=none
 | .done e,s,p=>s= .done∧p=some (toCode e)
section
variable [X:aS]
class bd (X:aS):Prop where
 len:∀(t:X.El) (x:X.den t),(X.enc t x).length=X.width t
 cells:∀(t:X.El) (x:X.den t),∃ys,ab [] (X.enc t x)=some ys∧ys.all Value.oneCell'=true
 back:∀(t:X.El) (cs:List AV) (x:X.den t),X.dec t cs=some x→X.enc t x=cs
 total:∀(t:X.El) (cs:List AV),av (X.kinds t) cs=true→∃x,X.dec t cs=some x
def rows (t:X.El) (xs:List (X.den t)):List AV:=xs.flatMap (X.enc t)
def fz:Nat→List (Int×Int)→List MapEntry
 |_,[]=>[]
 |n,(k,v)::l=>{key:= .int .i64 k,val:= .int .i64 v,born:=n}::fz (n+1) l
def BOk (w0:aN) (w:World) (ρ:List Loc) (l:Loc):Blk (X:=X)→Prop
 | .dead=>True
 | .alias k _ true=>ρ[k]?=some l
 | .alias k f false=>(l.nil=true∧(f=true→l.cap=0))∨l.nil=false∧∃l',ρ[k]?=some l'∧l'.nil=false∧l'.b=l.b∧l'.off=l.off∧l'.cap=l.cap
 | .raw cs=>l.nil=false∧l.off=0∧w0.w.heap.size≤l.b∧∃ys t,ab ρ cs=some ys∧ys.all Value.oneCell'=true∧w.heap[l.b]?=some (.cells ys.toArray t (0,0))
 | .vec t xs true=>(l.nil=true→xs=[]∧l.cap=0)∧(l.nil=false→l.off=0∧w0.w.heap.size≤l.b∧xs.length≤l.cap∧
   ∃ys spare ty,ab [] (rows t xs)=some ys∧w.heap[l.b]?=some (.cells (ys++spare).toArray ty (0,0))∧spare.length=(l.cap-xs.length)*X.width t)
 | .vec t xs false=>(l.nil=true→xs=[])∧(l.nil=false→l.b<w0.w.heap.size∧xs.length≤l.cap∧
   ∃ys,ab [] (rows t xs)=some ys∧∀j y,ys[j]?=some y→w0.w.cell? ⟨l.b,l.off+j,none⟩=some y)
 | .dfr=>l.nil=false∧w0.w.heap.size≤l.b∧w.heap[l.b]?=some (.deferred (some []))
 | .mark=>l.nil=false∧w0.w.heap.size≤l.b∧w.heap[l.b]?=some (.deferred (some []))
 | .rcd st id tm=>l.nil=false∧w0.w.heap.size≤l.b∧∃r:Loop,w.heap[l.b]?=some (.loop r)∧zu st r.state r.pending∧X.src id=some (r.params,r.assign,r.body)∧FR ρ tm {tmps:=r.tmps,defers:=[]}∧ae tm
 | .iJ es=>l.nil=false∧w0.w.heap.size≤l.b∧w.heap[l.b]?=some (.map (fz 0 es).toArray es.length)
def Blk.eA:Blk (X:=X)→Bool
 | .mark=>true
 |_=>false
def Blk.own:Blk (X:=X)→Bool
 | .dead=>false
 | .alias _ _ _=>false
 | .raw _=>true
 | .vec _ _ o=>o
 | .dfr=>true
 | .mark=>true
 | .rcd _ _ _=>true
 | .iJ _=>true
structure HR (w0:aN) (ρ:List Loc) (hp:List (Blk (X:=X))) (w:World):Prop where
 len:ρ.length=hp.length
 below:Below w0.w.heap.size w0.w w
 blk:∀(k:Nat) (b:Blk (X:=X)) (l:Loc),hp[k]?=some b→ρ[k]?=some l→BOk w0 w ρ l b
 marks:∀(k:Nat) (b:Blk (X:=X)) (l:Loc),hp[k]?=some b→ρ[k]?=some l→l.mark=true→b.eA=true
 sep:∀(k k':Nat) (b b':Blk (X:=X)) (l l':Loc),hp[k]?=some b→hp[k']?=some b'→ρ[k]?=some l→ρ[k']?=some l'→k≠k'→b.own=true→b'.own=true→l.nil=false→l'.nil=false→l.b≠l'.b
 bz:∀p∈w0.q,w.heap[p.1]?=some p.2∧∀(k:Nat) (b:Blk (X:=X)) (l:Loc),hp[k]?=some b→ρ[k]?=some l→b.own=true→l.nil=false→l.b≠p.1
structure Rl (w0:aN) (ρ:List Loc) (s:St (X:=X)) (a:Act) (w:World):Prop where
 fr:FR ρ s.tm a
 hr:HR w0 ρ s.hp w
end
section
variable {R:Type}
mutual
theorem mg:∀(v:AV) (K:AV→R),gz v K=K v
 | .int k n,K=>rfl
 | .bool b,K=>rfl
 | .str s,K=>rfl
 | .ptr k o,K=>rfl
 | .pel k i w o,K=>rfl
 | .sl k i w n m,K=>rfl
 | .val v,K=>rfl
 | .fn f a c,K=>by simp only[gz,eO a,eO c]
 | .agg cs,K=>by simp only[gz,eO cs]
 | .tup vs,K=>by simp only[gz,eO vs]
 | .ifc t v,K=>by simp only[gz,mg v]
 | .yld k,K=>rfl
 | .mp k,K=>rfl
 | .cut k i w lo n,K=>rfl
theorem eO:∀(l:List AV) (K:List AV→R),iV l K=K l
 | [],K=>rfl
 |v::l,K=>by simp only[iV,mg v,eO l]
end
theorem lQ (s:Slot) (K:Slot→R):o5 s K=K s:=by cases s<;>simp only[o5,mg]
theorem dH:∀(l:List Slot) (K:List Slot→R),gF l K=K l
 | [],K=>rfl
 |v::l,K=>by simp only[gF,lQ,dH l]
theorem b8 {α:Type}:∀(l:List α) (n:Nat) (y:α) (K:List α→R),hJ l n y K=K (cO l n y)
 | [],_,_,K=>rfl
 |_::l,0,y,K=>rfl
 |x::l,n+1,y,K=>by simp only[hJ,cO,b8 l]
variable [X:aS]
theorem wi (b:Blk (X:=X)) (K:Blk (X:=X)→R):tj b K=K b:=by cases b<;>simp only[tj,eO,dH]
theorem da:∀(l:List (Blk (X:=X))) (K:List (Blk (X:=X))→R),dr l K=K l
 | [],K=>rfl
 |v::l,K=>by simp only[dr,wi,da l]
variable (cfg:Cfg (X:=X)) (fail:R) (ci:bo (X:=X) (R:=R))
theorem gK (hasG:Bool) (o:Oper) (v:Slot) (s:St (X:=X)) (K:St (X:=X)→R):du fail hasG o v s K=lX fail hasG o v s K:=by
 unfold du lX
 cases o.dst with
 |none=>rfl
 |some d=>cases hasG with
  |true=>simp only[lQ,b8]
  |false=>cases v<;>simp only[lQ,b8]
theorem gg (hasG:Bool) (cs:List (Nat×Bool)) (o:Oper) (s:St (X:=X)) (K:St (X:=X)→R):iL cfg fail ci hasG cs o s K=kp cfg fail ci hasG cs o s K:=by
 unfold iL kp
 simp only[da]
theorem ec (ops:List Oper) (s:St (X:=X)) (K:St (X:=X)→R):bD cfg fail ci ops s K=dK cfg fail ci ops s K:=by
 unfold bD dK
 simp only[dH]
theorem xU (fuel f:Nat) (fn:Func) (args:List AV) (hp:List (Blk (X:=X))) (K:AV→List (Blk (X:=X))→R):n5 cfg fail ci fuel f fn args hp K=sT cfg fail ci fuel f fn args hp K:=by
 unfold n5 sT
 simp only[dH,da]
end
end Go.Proofs.Ytdadgkgkdgnihaa.Px
