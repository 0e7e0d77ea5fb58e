/- The relation between the evaluator's abstract states and the model's frames and worlds. -/
import Derived.Test.YtfhepbbkggdlcaaGreatDoorPxDef
set_option linter.unusedVariables false
set_option linter.unusedSimpArgs false
namespace Go.Proofs.YtfhepbbkggdlcaaGreatDoor.Px
open Go Go.RowKit
structure cf where
 w:World
 q:List (Nat×Obj):=[]
def bare (w:World):cf:=⟨w,[]⟩
structure Loc where
 b:Nat
 off:Nat
 cap:Nat
 nil:Bool
 base:Option Addr:=none
 mark:Bool:=false
mutual
def aA (ρ:List Loc):AV→Option Value
 | .int k n=>some (.int k n)
 | .bool b=>some (.bool b)
 | .str s=>some (.string s)
 | .ptr k o=>(ρ[k]?).bind fun l=>if l.nil then none else some (.pointer (some ⟨l.b,l.off+o,none⟩))
 | .pel k i w o=>(ρ[k]?).bind fun l=>if l.nil then none else some (.pointer (some ⟨l.b,l.off+(i*w+o),none⟩))
 | .sl k i w n m=>(ρ[k]?).bind fun l=>if l.nil then(if n=0 then some (.slice l.base 0 l.cap)else none)else some (.slice (some ⟨l.b,l.off+i*w,none⟩) n (m.getD l.cap-i))
 | .val v=>if v.oneCell' then some v else none
 | .fn f a c=>(au ρ a).bind fun x=>(au ρ c).bind fun y=>some (.func (.func f) x.toArray y.toArray)
 | .agg cs=>(au ρ cs).bind fun x=>if x.all Value.oneCell' then some (.agg x.toArray)else none
 | .tup vs=>(au ρ vs).bind fun x=>some (.tuple x.toArray)
 | .ifc t v=>(aA ρ v).bind fun x=>some (.iface t x)
 | .yld k=>(ρ[k]?).bind fun l=>if l.nil then none else some (.func (.yield l.b) #[] #[])
 | .mp k=>(ρ[k]?).bind fun l=>if l.nil then none else some (.map (some l.b))
 | .cut k i w lo n=>(ρ[k]?).bind fun l=>some (.slice (if(if l.nil then l.cap else l.cap-i)=lo then(if l.nil then l.base else some ⟨l.b,l.off+i*w,none⟩)else(if l.nil then l.base else some ⟨l.b,l.off+i*w,none⟩).map (·.add (lo*w))) n ((if l.nil then l.cap else l.cap-i)-lo))
def au (ρ:List Loc):List AV→Option (List Value)
 | []=>some []
 |v::l=>(aA ρ v).bind fun x=>(au ρ l).bind fun y=>some (x::y)
end
theorem aG {α:Type} (l:List α) (n:Nat):nth l n=l[n]?:=by
 induction l generalizing n with
 |nil=>simp[nth]
 |cons x l ih=>cases n<;>simp[nth,ih]
theorem aR {α:Type} (l:List α) (n:Nat) (y:α):ij l n y=l.set n y:=by
 induction l generalizing n with
 |nil=>simp[ij]
 |cons x l ih=>cases n<;>simp[ij,ih]
theorem fQ {α:Type} (n:Nat) (l:List α):mK n l=l.drop n:=by
 induction n generalizing l with
 |zero=>rfl
 |succ n ih=>cases l<;>simp[mK,ih]
theorem fR {α:Type} (n:Nat) (l:List α):takeN n l=l.take n:=by
 induction n generalizing l with
 |zero=>rfl
 |succ n ih=>cases l<;>simp[takeN,ih]
mutual
theorem gM {ρ ρ':List Loc} (h:ρ<+:ρ'):∀(v:AV) (x:Value),aA ρ v=some x→aA ρ' v=some x
 | .int k n,x,e=>e
 | .bool b,x,e=>e
 | .str s,x,e=>e
 | .val v,x,e=>e
 | .ptr k o,x,e=>by
  simp only[aA,Option.bind_eq_some_iff]at e⊢
  obtain⟨l,hl,e⟩:=e
  exact⟨l,by obtain⟨t,rfl⟩:=h;rw[List.getElem?_append_left (List.getElem?_eq_some_iff.1 hl).1];exact hl,e⟩
 | .pel k i w o,x,e=>by
  simp only[aA,Option.bind_eq_some_iff]at e⊢
  obtain⟨l,hl,e⟩:=e
  exact⟨l,by obtain⟨t,rfl⟩:=h;rw[List.getElem?_append_left (List.getElem?_eq_some_iff.1 hl).1];exact hl,e⟩
 | .sl k i w n m,x,e=>by
  simp only[aA,Option.bind_eq_some_iff]at e⊢
  obtain⟨l,hl,e⟩:=e
  exact⟨l,by obtain⟨t,rfl⟩:=h;rw[List.getElem?_append_left (List.getElem?_eq_some_iff.1 hl).1];exact hl,e⟩
 | .fn f a c,x,e=>by
  simp only[aA,Option.bind_eq_some_iff]at e⊢
  obtain⟨y,hy,z,hz,e⟩:=e
  exact⟨y,bk h a y hy,z,bk h c z hz,e⟩
 | .agg cs,x,e=>by
  simp only[aA,Option.bind_eq_some_iff]at e⊢
  obtain⟨y,hy,e⟩:=e
  exact⟨y,bk h cs y hy,e⟩
 | .tup cs,x,e=>by
  simp only[aA,Option.bind_eq_some_iff]at e⊢
  obtain⟨y,hy,e⟩:=e
  exact⟨y,bk h cs y hy,e⟩
 | .ifc t v,x,e=>by
  simp only[aA,Option.bind_eq_some_iff]at e⊢
  obtain⟨y,hy,e⟩:=e
  exact⟨y,gM h v y hy,e⟩
 | .yld k,x,e=>by
  simp only[aA,Option.bind_eq_some_iff]at e⊢
  obtain⟨l,hl,e⟩:=e
  exact⟨l,by obtain⟨t,rfl⟩:=h;rw[List.getElem?_append_left (List.getElem?_eq_some_iff.1 hl).1];exact hl,e⟩
 | .mp k,x,e=>by
  simp only[aA,Option.bind_eq_some_iff]at e⊢
  obtain⟨l,hl,e⟩:=e
  exact⟨l,by obtain⟨t,rfl⟩:=h;rw[List.getElem?_append_left (List.getElem?_eq_some_iff.1 hl).1];exact hl,e⟩
 | .cut k i w lo n,x,e=>by
  simp only[aA,Option.bind_eq_some_iff]at e⊢
  obtain⟨l,hl,e⟩:=e
  exact⟨l,by obtain⟨t,rfl⟩:=h;rw[List.getElem?_append_left (List.getElem?_eq_some_iff.1 hl).1];exact hl,e⟩
theorem bk {ρ ρ':List Loc} (h:ρ<+:ρ'):∀(l:List AV) (xs:List Value),au ρ l=some xs→au ρ' l=some xs
 | [],xs,e=>e
 |v::l,xs,e=>by
  simp only[au,Option.bind_eq_some_iff]at e⊢
  obtain⟨y,hy,z,hz,e⟩:=e
  exact⟨y,gM h v y hy,z,bk h l z hz,e⟩
end
theorem aq {ρ:List Loc} {v:AV} {l:List AV} {xs:List Value}:au ρ (v::l)=some xs↔∃y ys,aA ρ v=some y∧au ρ l=some ys∧xs=y::ys:=by
 simp only[au,Option.bind_eq_some_iff,XQ]
 constructor
 ·rintro ⟨y,hy,z,hz,rfl⟩;exact⟨y,z,hy,hz,rfl⟩
 ·rintro ⟨y,z,hy,hz,rfl⟩;exact⟨y,hy,z,hz,rfl⟩
theorem bd {ρ:List Loc}:∀{l m:List AV} {xs:List Value},au ρ (l++m)=some xs↔∃ys zs,au ρ l=some ys∧au ρ m=some zs∧xs=ys++zs
 | [],m,xs=>by simp[au]
 |v::l,m,xs=>by
  simp only[List.cons_append,aq,bd (l:=l)]
  constructor
  ·rintro ⟨y,ys,hy,⟨a,b,ha,hb,rfl⟩,rfl⟩;exact⟨y::a,b,⟨y,a,hy,ha,rfl⟩,hb,rfl⟩
  ·rintro ⟨_,b,⟨y,a,hy,ha,rfl⟩,hb,rfl⟩;exact⟨y,a++b,hy,⟨a,b,ha,hb,rfl⟩,rfl⟩
theorem aO {ρ:List Loc}:∀{l:List AV} {xs:List Value},au ρ l=some xs→xs.length=l.length
 | [],xs,e=>by simp[au]at e;subst e;rfl
 |v::l,xs,e=>by
  obtain⟨y,ys,_,h,rfl⟩:=aq.1 e
  simp[aO h]
theorem lE {ρ:List Loc}:∀{l:List AV} {xs:List Value} {i:Nat} {v:AV},au ρ l=some xs→l[i]?=some v→∃x,xs[i]?=some x∧aA ρ v=some x
 | [],xs,i,v,e,h=>by simp at h
 |u::l,xs,i,v,e,h=>by
  obtain⟨y,ys,hy,hl,rfl⟩:=aq.1 e
  cases i with
  |zero=>simp at h;subst h;exact⟨y,by simp,hy⟩
  |succ i=>simp at h;obtain⟨x,hx,hc⟩:=lE hl h;exact⟨x,by simpa using hx,hc⟩
theorem eJ {ρ:List Loc} {l:List AV} {xs:List Value} (n:Nat) (e:au ρ l=some xs):au ρ (l.take n)=some (xs.take n):=by
 induction n generalizing l xs with
 |zero=>simp[au]
 |succ n ih=>
  cases l with
  |nil=>simp[au]at e;subst e;simp[au]
  |cons v l=>obtain⟨y,ys,hy,hl,rfl⟩:=aq.1 e;simp only[List.take_succ_cons];exact aq.2 ⟨y,_,hy,ih hl,rfl⟩
theorem eK {ρ:List Loc} {l:List AV} {xs:List Value} (n:Nat) (e:au ρ l=some xs):au ρ (l.drop n)=some (xs.drop n):=by
 induction n generalizing l xs with
 |zero=>simpa using e
 |succ n ih=>
  cases l with
  |nil=>simp[au]at e;subst e;simp[au]
  |cons v l=>obtain⟨y,ys,hy,hl,rfl⟩:=aq.1 e;simpa using ih hl
theorem Ft {ρ:List Loc} {l:List AV} {xs:List Value} (n:Nat) {v:AV} {x:Value} (e:au ρ l=some xs) (hv:aA ρ v=some x):au ρ (l.set n v)=some (xs.set n x):=by
 induction n generalizing l xs with
 |zero=>
  cases l with
  |nil=>simp[au]at e;subst e;simp[au]
  |cons u l=>obtain⟨y,ys,hy,hl,rfl⟩:=aq.1 e;simp only[List.set_cons_zero];exact aq.2 ⟨x,_,hv,hl,rfl⟩
 |succ n ih=>
  cases l with
  |nil=>simp[au]at e;subst e;simp[au]
  |cons u l=>obtain⟨y,ys,hy,hl,rfl⟩:=aq.1 e;simp only[List.set_cons_succ];exact aq.2 ⟨y,_,hy,ih hl,rfl⟩
theorem DG {α:Type} {p:α→Bool} {l:List α} (n:Nat) (h:l.all p=true):(l.take n).all p=true:=by
 rw[List.all_eq_true]at h⊢;exact fun x hx=>h x (List.mem_of_mem_take hx)
theorem DE {α:Type} {p:α→Bool} {l:List α} (n:Nat) (h:l.all p=true):(l.drop n).all p=true:=by
 rw[List.all_eq_true]at h⊢;exact fun x hx=>h x (List.mem_of_mem_drop hx)
theorem dn {ρ:List Loc} {cs:List AV} {x:Value}:aA ρ (.agg cs)=some x↔∃ys,au ρ cs=some ys∧ys.all Value.oneCell'=true∧x= .agg ys.toArray:=by
 simp only[aA,Option.bind_eq_some_iff]
 constructor
 ·rintro ⟨ys,h,e⟩
  split at e
  ·rename_i hc;exact⟨ys,h,hc,by simpa using e.symm⟩
  ·cases e
 ·rintro ⟨ys,h,hc,rfl⟩;exact⟨ys,h,by rw[if_pos hc]⟩
theorem lZ {ρ:List Loc} {v:AV} {x:Value} (h:aA ρ v=some x) (ht:∀vs,v≠ .tup vs):
  ∃ys,au ρ (cellsOf v)=some ys∧ys.all Value.oneCell'=true∧x.cells=ys.toArray:=by
 cases v with
 |agg cs=>obtain⟨ys,h1,h2,rfl⟩:=dn.1 h;exact⟨ys,h1,h2,rfl⟩
 |tup vs=>exact absurd rfl (ht vs)
 |int k n=>simp only[aA,XQ]at h;subst h;exact⟨[_],rfl,rfl,rfl⟩
 |bool b=>simp only[aA,XQ]at h;subst h;exact⟨[_],rfl,rfl,rfl⟩
 |str s=>simp only[aA,XQ]at h;subst h;exact⟨[_],rfl,rfl,rfl⟩
 |val u=>
  have h':=h
  simp only[aA]at h'
  split at h'
  ·rename_i hu
   simp only[XQ]at h'
   subst h'
   refine⟨[u],aq.2 ⟨u,[],h,rfl,rfl⟩,by simp[hu],?_⟩
   cases u<;>simp[Value.oneCell']at hu<;>rfl
  ·cases h'
 |ptr k o=>
  have h':=h
  simp only[aA,Option.bind_eq_some_iff]at h'
  obtain⟨l,_,e⟩:=h'
  split at e
  ·cases e
  ·simp only[XQ]at e;subst e;exact⟨[_],aq.2 ⟨_,[],h,rfl,rfl⟩,rfl,rfl⟩
 |pel k i w o=>
  have h':=h
  simp only[aA,Option.bind_eq_some_iff]at h'
  obtain⟨l,_,e⟩:=h'
  split at e
  ·cases e
  ·simp only[XQ]at e;subst e;exact⟨[_],aq.2 ⟨_,[],h,rfl,rfl⟩,rfl,rfl⟩
 |sl k i w n m=>
  have h':=h
  simp only[aA,Option.bind_eq_some_iff]at h'
  obtain⟨l,_,e⟩:=h'
  split at e
  ·split at e
   ·simp only[XQ]at e;subst e;exact⟨[_],aq.2 ⟨_,[],h,rfl,rfl⟩,rfl,rfl⟩
   ·cases e
  ·simp only[XQ]at e;subst e;exact⟨[_],aq.2 ⟨_,[],h,rfl,rfl⟩,rfl,rfl⟩
 |fn f a c=>
  have h':=h
  simp only[aA,Option.bind_eq_some_iff,XQ]at h'
  obtain⟨_,_,_,_,e⟩:=h'
  subst e;exact⟨[_],aq.2 ⟨_,[],h,rfl,rfl⟩,rfl,rfl⟩
 |ifc t u=>
  have h':=h
  simp only[aA,Option.bind_eq_some_iff,XQ]at h'
  obtain⟨_,_,e⟩:=h'
  subst e;exact⟨[_],aq.2 ⟨_,[],h,rfl,rfl⟩,rfl,rfl⟩
 |yld k=>
  have h':=h
  simp only[aA,Option.bind_eq_some_iff]at h'
  obtain⟨l,_,e⟩:=h'
  split at e
  ·cases e
  ·simp only[XQ]at e;subst e;exact⟨[_],aq.2 ⟨_,[],h,rfl,rfl⟩,rfl,rfl⟩
 |mp k=>
  have h':=h
  simp only[aA,Option.bind_eq_some_iff]at h'
  obtain⟨l,_,e⟩:=h'
  split at e
  ·cases e
  ·simp only[XQ]at e;subst e;exact⟨[_],aq.2 ⟨_,[],h,rfl,rfl⟩,rfl,rfl⟩
 |cut k i w lo n=>
  have h':=h
  simp only[aA,Option.bind_eq_some_iff]at h'
  obtain⟨l,_,e⟩:=h'
  simp only[XQ]at e
  subst e
  exact⟨[_],aq.2 ⟨_,[],h,rfl,rfl⟩,rfl,rfl⟩
def pN (ρ:List Loc) (tm:List Slot):Slot→Value→Prop
 | .any,_=>True
 | .is v,x=>aA ρ v=some x
 | .opt cs v,x=>(aD tm cs=true→aA ρ v=some x)∧(aD tm cs=false→x=undef)
def Put (ρ:List Loc) (ds:List Deferred):Prop:=ds=[]∨∃(k:Nat) (l:Loc),ρ[k]?=some l∧l.mark=true∧ds=[{target:= .collected l.b,args:= #[]}]
theorem Put.mono {ρ ρ':List Loc} {ds:List Deferred} (h:ρ<+:ρ') (hp:Put ρ ds):Put ρ' ds:=by
 rcases hp with h0|⟨k,l,h1,h2⟩
 ·exact .inl h0
 ·exact .inr ⟨k,l,by obtain⟨t,rfl⟩:=h;rw[List.getElem?_append_left (List.getElem?_eq_some_iff.1 h1).1];exact h1,h2⟩
structure FR (ρ:List Loc) (tm:List Slot) (a:Act):Prop where
 size:a.tmps.size=tm.length
 at_:∀(i:Nat) (s:Slot),tm[i]?=some s→pN ρ tm s (a.tmps.getD i undef)
 defers:Put ρ a.defers
def Slot.ob:Slot→Bool
 | .opt _ _=>true
 |_=>false
def aw (tm:List Slot):Prop:=∀(i:Nat) (s:Slot),tm[i]?=some s→s.ob=false
theorem pN.mono {ρ ρ':List Loc} {tm:List Slot} {s:Slot} {x:Value} (h:ρ<+:ρ') (hs:pN ρ tm s x):pN ρ' tm s x:=by
 cases s with
 |any=>trivial
 |is v=>exact gM h v x hs
 |opt cs v=>exact⟨fun hc=>gM h v x (hs.1 hc),hs.2⟩
theorem FR.mono {ρ ρ':List Loc} {tm:List Slot} {a:Act} (h:ρ<+:ρ') (hf:FR ρ tm a):FR ρ' tm a:=
 ⟨hf.size,fun i s hi=>(hf.at_ i s hi).mono h,hf.defers.mono h⟩
def toCode:Ex→Code
 | .normal=> .skip
 | .exit id=> .exit id
 | .goto l=> .goto l
 | .ret=> .ret
def TS:RS→LoopState→Option Code→Prop
 | .ready,s,p=>s= .ready∧p=none
 | .busy,s,p=>s= .busy∧p=none
 | .done e,s,p=>s= .done∧p=some (toCode e)
section
variable [X:bQ]
class cJ (X:bQ):Prop where
 len:∀(t:X.El) (x:X.den t),(X.enc t x).length=X.width t
 cells:∀(t:X.El) (x:X.den t),∃ys,au [] (X.enc t x)=some ys∧ys.all Value.oneCell'=true
 back:∀(t:X.El) (cs:List AV) (x:X.den t),X.dec t cs=some x→X.enc t x=cs
 total:∀(t:X.El) (cs:List AV),aQ (X.kinds t) cs=true→∃x,X.dec t cs=some x
def rows (t:X.El) (xs:List (X.den t)):List AV:=xs.flatMap (X.enc t)
def mG:Nat→List (Int×Int)→List MapEntry
 |_,[]=>[]
 |n,(k,v)::l=>{key:= .int .i64 k,val:= .int .i64 v,born:=n}::mG (n+1) l
def BOk (w0:cf) (w:World) (ρ:List Loc) (l:Loc):Blk (X:=X)→Prop
 | .dead=>True
 | .alias k _ true=>ρ[k]?=some l
 | .alias k f false=>(l.nil=true∧(f=true→l.cap=0))∨l.nil=false∧∃l',ρ[k]?=some l'∧l'.nil=false∧l'.b=l.b∧l'.off=l.off∧l'.cap=l.cap
 | .raw cs=>l.nil=false∧l.off=0∧w0.w.heap.size≤l.b∧∃ys t,au ρ cs=some ys∧ys.all Value.oneCell'=true∧w.heap[l.b]?=some (.cells ys.toArray t (0,0))
 | .vec t xs true=>(l.nil=true→xs=[]∧l.cap=0)∧(l.nil=false→l.off=0∧w0.w.heap.size≤l.b∧xs.length≤l.cap∧
   ∃ys spare ty,au [] (rows t xs)=some ys∧w.heap[l.b]?=some (.cells (ys++spare).toArray ty (0,0))∧spare.length=(l.cap-xs.length)*X.width t)
 | .vec t xs false=>(l.nil=true→xs=[])∧(l.nil=false→l.b<w0.w.heap.size∧xs.length≤l.cap∧
   ∃ys,au [] (rows t xs)=some ys∧∀j y,ys[j]?=some y→w0.w.cell? ⟨l.b,l.off+j,none⟩=some y)
 | .dfr=>l.nil=false∧w0.w.heap.size≤l.b∧w.heap[l.b]?=some (.deferred (some []))
 | .mark=>l.nil=false∧w0.w.heap.size≤l.b∧w.heap[l.b]?=some (.deferred (some []))
 | .rcd st id tm=>l.nil=false∧w0.w.heap.size≤l.b∧∃r:Loop,w.heap[l.b]?=some (.loop r)∧TS st r.state r.pending∧X.src id=some (r.params,r.assign,r.body)∧FR ρ tm {tmps:=r.tmps,defers:=[]}∧aw tm
 | .u6 es=>l.nil=false∧w0.w.heap.size≤l.b∧w.heap[l.b]?=some (.map (mG 0 es).toArray es.length)
def Blk.lJ:Blk (X:=X)→Bool
 | .mark=>true
 |_=>false
def Blk.own:Blk (X:=X)→Bool
 | .dead=>false
 | .alias _ _ _=>false
 | .raw _=>true
 | .vec _ _ o=>o
 | .dfr=>true
 | .mark=>true
 | .rcd _ _ _=>true
 | .u6 _=>true
structure HR (w0:cf) (ρ:List Loc) (hp:List (Blk (X:=X))) (w:World):Prop where
 len:ρ.length=hp.length
 below:Below w0.w.heap.size w0.w w
 blk:∀(k:Nat) (b:Blk (X:=X)) (l:Loc),hp[k]?=some b→ρ[k]?=some l→BOk w0 w ρ l b
 marks:∀(k:Nat) (b:Blk (X:=X)) (l:Loc),hp[k]?=some b→ρ[k]?=some l→l.mark=true→b.lJ=true
 sep:∀(k k':Nat) (b b':Blk (X:=X)) (l l':Loc),hp[k]?=some b→hp[k']?=some b'→ρ[k]?=some l→ρ[k']?=some l'→k≠k'→b.own=true→b'.own=true→l.nil=false→l'.nil=false→l.b≠l'.b
 eD:∀p∈w0.q,w.heap[p.1]?=some p.2∧∀(k:Nat) (b:Blk (X:=X)) (l:Loc),hp[k]?=some b→ρ[k]?=some l→b.own=true→l.nil=false→l.b≠p.1
structure Rl (w0:cf) (ρ:List Loc) (s:St (X:=X)) (a:Act) (w:World):Prop where
 fr:FR ρ s.tm a
 hr:HR w0 ρ s.hp w
end
section
variable {R:Type}
mutual
theorem zd:∀(v:AV) (K:AV→R),oK v K=K v
 | .int k n,K=>rfl
 | .bool b,K=>rfl
 | .str s,K=>rfl
 | .ptr k o,K=>rfl
 | .pel k i w o,K=>rfl
 | .sl k i w n m,K=>rfl
 | .val v,K=>rfl
 | .fn f a c,K=>by simp only[oK,lA a,lA c]
 | .agg cs,K=>by simp only[oK,lA cs]
 | .tup vs,K=>by simp only[oK,lA vs]
 | .ifc t v,K=>by simp only[oK,zd v]
 | .yld k,K=>rfl
 | .mp k,K=>rfl
 | .cut k i w lo n,K=>rfl
theorem lA:∀(l:List AV) (K:List AV→R),sN l K=K l
 | [],K=>rfl
 |v::l,K=>by simp only[sN,zd v,lA l]
end
theorem zM (s:Slot) (K:Slot→R):CM s K=K s:=by cases s<;>simp only[CM,zd]
theorem lD:∀(l:List Slot) (K:List Slot→R),tb l K=K l
 | [],K=>rfl
 |v::l,K=>by simp only[tb,zM,lD l]
theorem fW {α:Type}:∀(l:List α) (n:Nat) (y:α) (K:List α→R),uF l n y K=K (ij l n y)
 | [],_,_,K=>rfl
 |_::l,0,y,K=>rfl
 |x::l,n+1,y,K=>by simp only[uF,ij,fW l]
variable [X:bQ]
theorem MV (b:Blk (X:=X)) (K:Blk (X:=X)→R):KB b K=K b:=by cases b<;>simp only[KB,lA,lD]
theorem nS:∀(l:List (Blk (X:=X))) (K:List (Blk (X:=X))→R),lH l K=K l
 | [],K=>rfl
 |v::l,K=>by simp only[lH,MV,nS l]
variable (cfg:Cfg (X:=X)) (fail:R) (ci:dJ (X:=X) (R:=R))
theorem o8 (hasG:Bool) (o:Oper) (v:Slot) (s:St (X:=X)) (K:St (X:=X)→R):iZ fail hasG o v s K=zG fail hasG o v s K:=by
 unfold iZ zG
 cases o.dst with
 |none=>rfl
 |some d=>cases hasG with
  |true=>simp only[zM,fW]
  |false=>cases v<;>simp only[zM,fW]
theorem ou (hasG:Bool) (cs:List (Nat×Bool)) (o:Oper) (s:St (X:=X)) (K:St (X:=X)→R):rr cfg fail ci hasG cs o s K=vW cfg fail ci hasG cs o s K:=by
 unfold rr vW
 simp only[nS]
theorem jW (ops:List Oper) (s:St (X:=X)) (K:St (X:=X)→R):dC cfg fail ci ops s K=jn cfg fail ci ops s K:=by
 unfold dC jn
 simp only[lD]
theorem Sd (fuel f:Nat) (fn:Func) (args:List AV) (hp:List (Blk (X:=X))) (K:AV→List (Blk (X:=X))→R):Cq cfg fail ci fuel f fn args hp K=Ll cfg fail ci fuel f fn args hp K:=by
 unfold Cq Ll
 simp only[lD,nS]
end
end Go.Proofs.YtfhepbbkggdlcaaGreatDoor.Px
