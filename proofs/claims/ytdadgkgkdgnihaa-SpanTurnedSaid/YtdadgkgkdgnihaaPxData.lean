/- Data of a program as Lean's own structures: how they are laid as cells, and a contract by a plain function of them. -/
import Derived.Test.YtdadgkgkdgnihaaPxLaw
import Derived.Test.YtdadgkgkdgnihaaPxEq
set_option linter.unusedVariables false
set_option linter.unusedSimpArgs false
namespace Go.Proofs.Ytdadgkgkdgnihaa.Px
open Go Go.RowKit Go.ChangeShapes Go.WideShapes Go.Deep
structure Cel (T:Type) where
 kinds:List (Option IntKind)
 enc:T→List AV
 dec:List AV→Option (T×List AV)
 ki:T
 back:∀l x r,dec l=some (x,r)→l=enc x++r
 ok:∀x,av kinds (enc x)=true
 total:∀ks l,av (kinds++ks) l=true→∃x r,dec l=some (x,r)∧av ks r=true
theorem sd (k:IntKind):kEq k k=true:=by cases k<;>rfl
def uw (k:IntKind):List AV→Option (Int×List AV)
 | .int k' n::r=>cond (kEq k k') (some (n,r)) none
 |_=>none
def uI:List AV→Option (Bool×List AV)
 | .bool b::r=>some (b,r)
 |_=>none
def Cel.int (k:IntKind):Cel Int where
 kinds:=[some k]
 enc n:=[.int k n]
 dec:=uw k
 ki:=0
 back l x r h:=by
  unfold uw at h
  split at h
  ·rename_i k' n r'
   cases hk:kEq k k' with
   |true=>rw[hk]at h;simp only[B4,B0,Prod.mk.injEq]at h;rw[←h.1,←h.2,bp hk];rfl
   |false=>rw[hk]at h;cases h
  ·cases h
 ok x:=by simp[av,sd]
 total ks l h:=by
  match l,h with
  | .int k' n::r,h=>
   simp only[List.singleton_append,av,B1]at h
   exact⟨n,r,by simp[uw,h.1],h.2⟩
def Cel.bool:Cel Bool where
 kinds:=[none]
 enc b:=[.bool b]
 dec:=uI
 ki:=false
 back l x r h:=by
  unfold uI at h
  split at h
  ·simp only[B0,Prod.mk.injEq]at h;rw[←h.1,←h.2];rfl
  ·cases h
 ok x:=by simp[av]
 total ks l h:=by
  match l,h with
  | .bool b::r,h=>
   simp only[List.singleton_append,av]at h
   exact⟨b,r,rfl,h⟩
theorem nX {ks ks':List (Option IntKind)} {cs cs':List AV} (h:av ks cs=true) (h':av ks' cs'=true):av (ks++ks') (cs++cs')=true:=by
 induction ks generalizing cs with
 |nil=>cases cs with
  |nil=>exact h'
  |cons c cs=>simp[av]at h
 |cons k ks ih=>
  match k,cs,h with
  |some k, .int k' n::cs,h=>
   simp only[av,B1]at h
   simp only[List.cons_append,av,h.1,ih h.2,Bool.and_self]
  |none, .bool b::cs,h=>
   simp only[av]at h
   simp only[List.cons_append,av,ih h]
theorem oD {ks:List (Option IntKind)} {cs:List AV} (h:av ks cs=true):cs.length=ks.length:=by
 induction ks generalizing cs with
 |nil=>cases cs with
  |nil=>rfl
  |cons c cs=>simp[av]at h
 |cons k ks ih=>
  match k,cs,h with
  |some k, .int k' n::cs,h=>
   simp only[av,B1]at h
   simp[ih h.2]
  |none, .bool b::cs,h=>
   simp only[av]at h
   simp[ih h]
theorem gr {ks:List (Option IntKind)} {cs:List AV} (h:av ks cs=true):∃ys,ab [] cs=some ys∧ys.all Value.oneCell'=true:=by
 induction ks generalizing cs with
 |nil=>cases cs with
  |nil=>exact⟨[],rfl,rfl⟩
  |cons c cs=>simp[av]at h
 |cons k ks ih=>
  match k,cs,h with
  |some k, .int k' n::cs,h=>
   simp only[av,B1]at h
   obtain⟨ys,h1,h2⟩:=ih h.2
   exact⟨_,aa.2 ⟨_,_,rfl,h1,rfl⟩,by simp only[List.all_cons,h2,Value.oneCell',Bool.and_self]⟩
  |none, .bool b::cs,h=>
   simp only[av]at h
   obtain⟨ys,h1,h2⟩:=ih h
   exact⟨_,aa.2 ⟨_,_,rfl,h1,rfl⟩,by simp only[List.all_cons,h2,Value.oneCell',Bool.and_self]⟩
def Cel.prod {A B:Type} (a:Cel A) (b:Cel B):Cel (A×B) where
 kinds:=a.kinds++b.kinds
 enc x:=a.enc x.1++b.enc x.2
 dec l:=match a.dec l with
  |some (x,r)=>match b.dec r with
   |some (y,r')=>some ((x,y),r')
   |none=>none
  |none=>none
 ki:=(a.ki,b.ki)
 back l x r h:=by
  split at h
  ·rename_i x1 r1 h1
   split at h
   ·rename_i y1 r2 h2
    simp only[B0,Prod.mk.injEq]at h
    obtain⟨rfl,rfl⟩:=h
    rw[a.back _ _ _ h1,b.back _ _ _ h2,List.append_assoc]
   ·cases h
  ·cases h
 ok x:=nX (a.ok _) (b.ok _)
 total ks l h:=by
  rw[List.append_assoc]at h
  obtain⟨x,r,h1,h2⟩:=a.total _ _ h
  obtain⟨y,r',h3,h4⟩:=b.total _ _ h2
  exact⟨(x,y),r',by rw[h1];dsimp only;rw[h3],h4⟩
def Cel.iso {A B:Type} (a:Cel A) (f:A→B) (g:B→A) (h:∀x,g (f x)=x):Cel B where
 kinds:=a.kinds
 enc x:=a.enc (g x)
 dec l:=match a.dec l with
  |some (x,r)=>some (f x,r)
  |none=>none
 ki:=f a.ki
 back l x r hd:=by
  split at hd
  ·rename_i x1 r1 h1
   simp only[B0,Prod.mk.injEq]at hd
   obtain⟨rfl,rfl⟩:=hd
   rw[h,a.back _ _ _ h1]
  ·cases hd
 ok x:=a.ok _
 total ks l hk:=by
  obtain⟨x,r,h1,h2⟩:=a.total _ _ hk
  exact⟨f x,r,by rw[h1],h2⟩
def Cel.one {T:Type} (c:Cel T) (l:List AV):Option T:=match c.dec l with
 |some (x,[])=>some x
 |_=>none
theorem Cel.xr {T:Type} {c:Cel T} {l:List AV} {x:T} (h:c.one l=some x):c.enc x=l:=by
 unfold Cel.one at h
 split at h
 ·rename_i y hy
  simp only[B0]at h
  subst h
  have:=c.back _ _ _ hy
  rw[List.append_nil]at this
  exact this.symm
 ·cases h
theorem Cel.vN {T:Type} {c:Cel T} {l:List AV} (h:av c.kinds l=true):∃x,c.one l=some x:=by
 obtain⟨x,r,h1,h2⟩:=c.total [] l (by rw[List.append_nil];exact h)
 have:r=[]:=by
  cases r with
  |nil=>rfl
  |cons _ _=>simp[av]at h2
 subst this
 exact⟨x,by unfold Cel.one;rw[h1]⟩
@[reducible] def uv (El:Type) (dec:DecidableEq El) (den:El→Type) (c:(t:El)→Cel (den t)) (src:Nat→Option (Array Tmp×Code×Code):=fun _=>none):aS where
 El:=El
 decEl:=dec
 den:=den
 width t:=(c t).kinds.length
 enc t:=(c t).enc
 dec t l:=(c t).one l
 ki t:=(c t).ki
 kinds t:=(c t).kinds
 src:=src
theorem wF {El:Type} {dec:DecidableEq El} {den:El→Type} {c:(t:El)→Cel (den t)} {src:Nat→Option (Array Tmp×Code×Code)}:bd (uv El dec den c src):=
 @bd.mk (uv El dec den c src) (fun t x=>oD ((c t).ok x)) (fun t x=>gr ((c t).ok x)) (fun _ _ _ h=>Cel.xr h) (fun _ _ h=>Cel.vN h)
section
variable [X:aS]
def Cl1 (w:World):DV (X:=X)→Value→Prop
 | .int k n,v=>v= .int k n
 | .bool b,v=>v= .bool b
 | .sl el xs,v=>(∃base cap,v= .slice base 0 cap∧xs=[])∨∃(a:Addr) (cap:Nat),v= .slice (some ⟨a.block,a.off,none⟩) xs.length cap∧xs.length≤cap∧a.block<w.heap.size∧∃ys,ab [] (rows el xs)=some ys∧∀(j:Nat) (y:Value),ys[j]?=some y→w.cell? ⟨a.block,a.off+j,none⟩=some y
inductive Cl (w:World):List (DV (X:=X))→List Value→Prop where
 |nil:Cl w [] []
 |cons {d:DV (X:=X)} {v:Value} {ds:List (DV (X:=X))} {vs:List Value} (h:Cl1 w d v) (t:Cl w ds vs):Cl w (d::ds) (v::vs)
theorem Cl.append {w:World} {ds ds':List (DV (X:=X))} {vs vs':List Value} (h:Cl w ds vs) (h':Cl w ds' vs'):Cl w (ds++ds') (vs++vs'):=by
 induction h with
 |nil=>exact h'
 |cons h _ ih=>exact .cons h ih
theorem Leaves.cl {w:World} {ks:List (LS (X:=X))} {ds:List (DV (X:=X))} {vs:List Value} (h:Leaves w ks ds vs):Cl w ds vs:=by
 induction h with
 |nil=>exact .nil
 | @cons k d v ks ds vs h t ih=>
  refine .cons ?_ ih
  cases k with
  |int k=>obtain⟨n,rfl,rfl,_⟩:=h;rfl
  |bool=>obtain⟨b,rfl,rfl⟩:=h;rfl
  |sl el=>
   obtain⟨xs,rfl,h,_⟩:=h
   rcases h with h|⟨a,cap,h1,h2,_,h4,h5⟩
   ·exact .inl h
   ·exact .inr ⟨a,cap,h1,h2,h4,h5⟩
theorem Cl1.one {w:World} {d:DV (X:=X)} {v:Value} (h:Cl1 w d v):v.oneCell'=true:=by
 cases d with
 |int k n=>cases h;rfl
 |bool b=>cases h;rfl
 |sl el xs=>rcases h with⟨_,_,rfl,_⟩|⟨_,_,rfl,_⟩<;>rfl
theorem ym {w:World} {ds:List (DV (X:=X))} {vs:List Value} (h:Cl w ds vs):vs.all Value.oneCell'=true∧∀n,∃ls,Seen w (mkC n ds).2 ls∧∀ρ:List Loc,ρ.length=n→ab (ρ++ls) (mkC n ds).1=some vs:=by
 induction h with
 |nil=>exact⟨rfl,fun n=>⟨[],Seen.nil,fun ρ _=>rfl⟩⟩
 | @cons d v ds vs h t ih=>
  obtain⟨ih1,ih2⟩:=ih
  refine⟨by simp only[List.all_cons,h.one,ih1,Bool.and_self],fun n=>?_⟩
  cases d with
  |int k m=>
   cases h
   obtain⟨ls,h1,h2⟩:=ih2 n
   exact⟨ls,h1,fun ρ hρ=>aa.2 ⟨_,_,rfl,h2 ρ hρ,rfl⟩⟩
  |bool b=>
   cases h
   obtain⟨ls,h1,h2⟩:=ih2 n
   exact⟨ls,h1,fun ρ hρ=>aa.2 ⟨_,_,rfl,h2 ρ hρ,rfl⟩⟩
  |sl el xs=>
   obtain⟨ls,h1,h2⟩:=ih2 (n+1)
   have get:∀(ρ:List Loc) (l:Loc),ρ.length=n→(ρ++l::ls)[n]?=some l:=fun ρ l hρ=>by
    rw[List.getElem?_append_right (by omega),hρ,Nat.sub_self];rfl
   have tail:∀(ρ:List Loc) (l:Loc),ρ.length=n→ab (ρ++l::ls) (mkC (n+1) ds).1=some vs:=fun ρ l hρ=>by
    have:=h2 (ρ++[l]) (by simp[hρ])
    rwa[List.append_assoc]at this
   rcases h with⟨base,cap,rfl,rfl⟩|⟨a,cap,rfl,hle,hlt,ys,hys,hc⟩
   ·refine⟨⟨0,0,cap,true,base,false⟩::ls,?_,fun ρ hρ=>?_⟩
    ·have:Seen w [Blk.vec el ([]:List (X.den el)) false] [⟨0,0,cap,true,base,false⟩]:=by
      refine⟨rfl,fun i b l hb hl=>?_⟩
      cases i with
      |zero=>simp only[List.getElem?_cons_zero,B0]at hb hl;subst hb;subst hl;exact⟨⟨rfl,rfl⟩,fun ρ=>⟨fun _=>rfl,(fun h=>by cases h)⟩⟩
      |succ i=>simp at hb
     exact this.append h1
    ·simp only[mkC]
     exact aa.2 ⟨_,_,by simp[ah,get ρ _ hρ],tail ρ _ hρ,rfl⟩
   ·refine⟨⟨a.block,a.off,cap,false,none,false⟩::ls,?_,fun ρ hρ=>?_⟩
    ·have:Seen w [Blk.vec el xs false] [⟨a.block,a.off,cap,false,none,false⟩]:=by
      refine⟨rfl,fun i b l hb hl=>?_⟩
      cases i with
      |zero=>simp only[List.getElem?_cons_zero,B0]at hb hl;subst hb;subst hl;exact⟨⟨rfl,rfl⟩,fun ρ=>⟨(fun h=>by cases h),fun _=>⟨hlt,hle,ys,hys,hc⟩⟩⟩
      |succ i=>simp at hb
     exact this.append h1
    ·simp only[mkC]
     exact aa.2 ⟨_,_,by simp[ah,get ρ _ hρ],tail ρ _ hρ,rfl⟩
def xT (w:World) (g:Bool) (ds:List (DV (X:=X))) (v:Value):Prop:=
 match g with
 |true=>∃cs:List Value,v= .agg cs.toArray∧Cl w ds cs
 |false=>∃d,ds=[d]∧Cl1 w d v
inductive ka (w:World):List Arg→List Value→Prop where
 |nil:ka w [] []
 |cons {g:Bool} {ds:List (DV (X:=X))} {v:Value} {as:List Arg} {vs:List Value} (h:xT w g ds v) (t:ka w as vs):ka w ((g,ds)::as) (v::vs)
theorem uL.cl {w:World} {g:Bool} {ks:List (LS (X:=X))} {ds:List (DV (X:=X))} {v:Value} (h:uL w g ks ds v):xT w g ds v:=by
 cases g with
 |true=>obtain⟨cs,h1,h2⟩:=h;exact⟨cs,h1,h2.cl⟩
 |false=>
  obtain⟨k,d,rfl,rfl,h⟩:=h
  have:=(Leaves.cons h .nil).cl
  cases this with
  |cons h _=>exact⟨d,rfl,h⟩
theorem yn {w:World} {as:List Arg} {vs:List Value} (h:ka w as vs):∀n,∃ls,Seen w (mkA n as).2 ls∧∀ρ:List Loc,ρ.length=n→ab (ρ++ls) (mkA n as).1=some vs:=by
 induction h with
 |nil=>exact fun n=>⟨[],Seen.nil,fun ρ _=>rfl⟩
 | @cons g ds v as vs h t ih=>
  intro n
  have key:∃ls,Seen w (mkC n ds).2 ls∧∀ρ:List Loc,ρ.length=n→ah (ρ++ls) (mkV g (mkC n ds).1)=some v:=by
   cases g with
   |true=>
    obtain⟨cs,rfl,hl⟩:=h
    obtain⟨h1,h2⟩:=ym hl
    obtain⟨ls,h3,h4⟩:=h2 n
    exact⟨ls,h3,fun ρ hρ=>bx.2 ⟨cs,h4 ρ hρ,h1,rfl⟩⟩
   |false=>
    obtain⟨d,rfl,hl⟩:=h
    obtain⟨_,h2⟩:=ym (Cl.cons hl .nil)
    obtain⟨ls,h3,h4⟩:=h2 n
    refine⟨ls,h3,fun ρ hρ=>?_⟩
    have:=h4 ρ hρ
    cases d with
    |int k m=>obtain⟨y,ys,hy,_,e⟩:=aa.1 this;simp only[List.cons.injEq]at e;rw[e.1];exact hy
    |bool b=>obtain⟨y,ys,hy,_,e⟩:=aa.1 this;simp only[List.cons.injEq]at e;rw[e.1];exact hy
    |sl el xs=>obtain⟨y,ys,hy,_,e⟩:=aa.1 this;simp only[List.cons.injEq]at e;rw[e.1];exact hy
  obtain⟨ls,h1,h2⟩:=key
  obtain⟨ls',h3,h4⟩:=ih (n+(mkC n ds).2.length)
  refine⟨ls++ls',h1.append h3,fun ρ hρ=>?_⟩
  have e1:=h2 ρ hρ
  have e2:=h4 (ρ++ls) (by simp[hρ,h1.1])
  rw[List.append_assoc]at e2
  simp only[mkA]
  exact aa.2 ⟨_,_,c5 ⟨ls',by simp⟩ _ _ e1,e2,rfl⟩
variable {P:Program} {G:World→Prop} {cfg:Cfg (X:=X)}
theorem oY (hp:Prog P G cfg) {n d fuel:Nat} {fn:Func} (hk:iW P n fn) {w:World} (hG:G w) {as:List Arg} {vs:List Value} (ha:ka w as vs)
  {v:AV} (h:n5 cfg none (bA cfg none fuel d) fuel n fn (mkA 0 as).1 (mkA 0 as).2 (fun v _=>some v)=some v) {x:Value} (hv:ah [] v=some x):
  Calls P n vs.toArray w (fun e w'=>e= .returned x∧Below w.heap.size w w'):=by
 obtain⟨ls,h1,h2⟩:=yn ha 0
 have h3:=h2 [] rfl
 rw[List.nil_append]at h3
 let φ:Option AV→Prop:=fun r=>r=some v
 have hf0:¬φ none:=fun e=>by cases e
 have hd:cC P (bare w) cfg (none:Option AV) φ:=dT (w0:=bare w) hp.mixed hf0 hp.toEOk hG
 have hci:=ft (w0:=bare w) hf0 hp.toEOk hp.jN hp.ranges hp.plain hG hp.fns (fun w1 e c hc=>dT (w0:=w1) hp.mixed hf0 hc (by rw[e];exact hG)) (fuel:=fuel) d
 refine(iM (w0:=bare w) (φ:=φ) hf0 hp.toEOk hp.jN hp.ranges hp.plain hG hci hd hk.2 h h1.hr h3).mono ?_
 rintro e w' ⟨v',hp',ρ',x',rfl,hφ,_,hx',hr⟩
 have:v'=v:=by simpa[φ]using hφ
 subst this
 have:=c5 (List.nil_prefix (l:=ρ')) _ _ hv
 rw[hx']at this
 simp only[B0]at this
 exact⟨by rw[this],hr.below⟩
def Reads (hp:List (Blk (X:=X))) (ds:List (DV (X:=X))) (l:List AV):Prop:=
 ∀(w0:aN) (w:World) (ρ:List Loc) (vs:List Value),HR w0 ρ hp w→ab ρ l=some vs→Cl w ds vs
structure Dat (T:Type) where
 sh:List (LS (X:=X))
 dv:T→List (DV (X:=X))
 rd:List (Blk (X:=X))→List AV→Option (Bool×T×List AV)
 wf:T→Prop
 read:∀hp l x r,rd hp l=some (true,x,r)→∃l1,l=l1++r∧Reads hp (dv x) l1
 total:∀w ks ds vs,Leaves w (sh++ks) ds vs→∃x ds' vs',ds=dv x++ds'∧Leaves w ks ds' vs'∧wf x
def pq:List AV→List (DV (X:=X))
 | .int k n::l=> .int k n::pq l
 | .bool b::l=> .bool b::pq l
 |_=>[]
theorem jS {w:World} {ρ:List Loc}:∀{ks:List (Option IntKind)} {cs:List AV} {vs:List Value},av ks cs=true→ab ρ cs=some vs→Cl w (pq (X:=X) cs) vs
 | [],[],vs,_,h=>by simp only[ab,B0]at h;subst h;exact .nil
 | [],_::_,_,h,_=>by simp[av]at h
 |some k::ks, .int k' n::cs,vs,h,hc=>by
  simp only[av,B1]at h
  obtain⟨y,ys,h1,h2,rfl⟩:=aa.1 hc
  simp only[ah,B0]at h1
  exact .cons h1.symm (jS h.2 h2)
 |none::ks, .bool b::cs,vs,h,hc=>by
  simp only[av]at h
  obtain⟨y,ys,h1,h2,rfl⟩:=aa.1 hc
  simp only[ah,B0]at h1
  exact .cons h1.symm (jS h h2)
theorem Leaves.cellsOf {w:World}:∀{ks:List (Option IntKind)} {ls:List (LS (X:=X))} {ds:List (DV (X:=X))} {vs:List Value},Leaves w (LS.kinds ks++ls) ds vs→∃cs ds' vs',av ks cs=true∧cs.all dM=true∧ds=pq cs++ds'∧Leaves w ls ds' vs'
 | [],ls,ds,vs,h=>⟨[],ds,vs,rfl,rfl,rfl,h⟩
 |some k::ks,ls,ds,vs,h=>by
  cases h with
  |cons h t=>
   obtain⟨n,rfl,rfl,hw⟩:=h
   obtain⟨cs,ds',vs',h1,h2,h3,h4⟩:=Leaves.cellsOf t
   exact⟨.int k n::cs,ds',vs',by simp only[av,sd,h1,Bool.and_self],by simp only[List.all_cons,dM,hw,h2,Bool.and_self],by rw[h3];rfl,h4⟩
 |none::ks,ls,ds,vs,h=>by
  cases h with
  |cons h t=>
   obtain⟨n,rfl,rfl⟩:=h
   obtain⟨cs,ds',vs',h1,h2,h3,h4⟩:=Leaves.cellsOf t
   exact⟨.bool n::cs,ds',vs',by simp only[av,h1],by simp only[List.all_cons,dM,h2,Bool.and_self],by rw[h3];rfl,h4⟩
def Dat.dd {T:Type} (c:Cel T):Dat T where
 sh:=LS.kinds c.kinds
 dv x:=pq (c.enc x)
 rd _ l:=match c.dec l with
  |some (x,r)=>some (true,x,r)
  |none=>none
 wf x:=(c.enc x).all dM=true
 read hp l x r h:=by
  split at h
  ·rename_i y r' hd
   simp only[B0,Prod.mk.injEq,true_and]at h
   obtain⟨rfl,rfl⟩:=h
   exact⟨c.enc y,c.back _ _ _ hd,fun _ _ _ _ _ hc=>jS (c.ok y) hc⟩
  ·cases h
 total w ks ds vs h:=by
  obtain⟨cs,ds',vs',h1,h2,h3,h4⟩:=Leaves.cellsOf h
  obtain⟨x,r,h5,h6⟩:=c.total [] cs (by rw[List.append_nil];exact h1)
  have:r=[]:=by
   cases r with
   |nil=>rfl
   |cons _ _=>simp[av]at h6
  subst this
  have:=c.back _ _ _ h5
  rw[List.append_nil]at this
  subst this
  exact⟨x,ds',vs',h3,h4,h2⟩
def Dat.prod {A B:Type} (a:Dat A) (b:Dat B):Dat (A×B) where
 sh:=a.sh++b.sh
 dv x:=a.dv x.1++b.dv x.2
 rd hp l:=match a.rd hp l with
  |some (g,x,r)=>match b.rd hp r with
   |some (g',y,r')=>some (and g g',(x,y),r')
   |none=>none
  |none=>none
 wf x:=a.wf x.1∧b.wf x.2
 read hp l x r h:=by
  split at h
  ·rename_i g x1 r1 h1
   split at h
   ·rename_i g' y1 r2 h2
    simp only[B0,Prod.mk.injEq,B1]at h
    obtain⟨⟨rfl,rfl⟩,rfl,rfl⟩:=h
    obtain⟨l1,rfl,g1⟩:=a.read _ _ _ _ h1
    obtain⟨l2,rfl,g2⟩:=b.read _ _ _ _ h2
    refine⟨l1++l2,by rw[List.append_assoc],fun w0 w ρ vs hr hc=>?_⟩
    obtain⟨ys,zs,e1,e2,rfl⟩:=aD.1 hc
    exact(g1 w0 w ρ ys hr e1).append (g2 w0 w ρ zs hr e2)
   ·cases h
  ·cases h
 total w ks ds vs h:=by
  rw[List.append_assoc]at h
  obtain⟨x,ds1,vs1,rfl,h1,w1⟩:=a.total w _ _ _ h
  obtain⟨y,ds2,vs2,rfl,h2,w2⟩:=b.total w _ _ _ h1
  exact⟨(x,y),ds2,vs2,by rw[List.append_assoc],h2,w1,w2⟩
def Dat.iso {A B:Type} (a:Dat A) (f:A→B) (g:B→A) (h:∀x,g (f x)=x):Dat B where
 sh:=a.sh
 dv x:=a.dv (g x)
 rd hp l:=match a.rd hp l with
  |some (k,x,r)=>some (k,f x,r)
  |none=>none
 wf x:=a.wf (g x)
 read hp l x r hd:=by
  split at hd
  ·rename_i k x1 r1 h1
   simp only[B0,Prod.mk.injEq]at hd
   obtain⟨rfl,rfl,rfl⟩:=hd
   rw[h]
   exact a.read _ _ _ _ h1
  ·cases hd
 total w ks ds vs hk:=by
  obtain⟨x,ds',vs',h1,h2,h3⟩:=a.total w ks ds vs hk
  exact⟨f x,ds',vs',by rw[h];exact h1,h2,by rw[h];exact h3⟩
def zH (hp:List (Blk (X:=X))):AV→Bool
 | .sl k i _ n m=>my hp k i n m
 | .cut .. =>false
 |_=>true
def Al (el:X.El) (hp:List (Blk (X:=X))):List AV→Option (Bool×List (X.den el)×List AV)
 |v::r=>match gW el hp v with
  |some (ok,xs)=>some (and ok (zH hp v),xs,r)
  |none=>none
 | []=>none
theorem xg {w0:aN} {w:World} {ρ:List Loc} {hp:List (Blk (X:=X))} (hr:HR w0 ρ hp w) {k:Nat} {l:Loc} (hl:ρ[k]?=some l) (hn:l.nil=false) {b:Blk (X:=X)} (hk:hp[deref hp k]?=some b) (hb:(∃t xs o,b= .vec t xs o)∨∃cs,b= .raw cs):l.b<w.heap.size:=by
 obtain⟨l',hl',hn',e1,_,_⟩:=cG hr hl hn
 have:=hr.blk _ _ l' hk hl'
 rw[←e1]
 rcases hb with⟨t,xs,o,rfl⟩|⟨cs,rfl⟩
 ·cases o with
  |true=>exact this.lt rfl hn'
  |false=>exact Nat.lt_of_lt_of_le (this.2 hn').1 hr.below.size
 ·exact this.lt rfl hn'
theorem yx (hX:bd X) {el:X.El} {hp:List (Blk (X:=X))} {l r:List AV} {xs:List (X.den el)} (h:Al el hp l=some (true,xs,r)):∃l1,l=l1++r∧Reads hp [.sl el xs] l1:=by
 unfold Al at h
 split at h
 ·rename_i v r'
  split at h
  ·rename_i ok xs' hls
   simp only[B0,Prod.mk.injEq,B1]at h
   obtain⟨⟨rfl,hroom⟩,rfl,rfl⟩:=h
   refine⟨[v],rfl,fun w0 w ρ vs hr hcv=>?_⟩
   obtain⟨x,vs',hv,hn,rfl⟩:=aa.1 hcv
   simp only[ab,B0]at hn
   subst hn
   refine .cons ?_ .nil
   have hlies:=cf hX hr hv hls rfl
   obtain⟨base,cap,ys,e1,e2,e3,e4⟩:=hlies
   cases v with
   |sl k i wd n m=>
    obtain⟨lc,hl,hx⟩:=aK.1 hv
    rcases hx with⟨h1,h2,h3⟩|⟨h1,h3⟩
    ·rw[h3]at e1
     simp only[Value.slice.injEq]at e1
     exact .inl ⟨_,_,h3,List.length_eq_zero_iff.1 e1.2.1.symm⟩
    ·have hle:=room_le hr hl h1 hroom
     rw[h3]at e1
     simp only[Value.slice.injEq]at e1
     obtain⟨rfl,hxl,rfl⟩:=e1
     refine .inr ⟨⟨lc.b,lc.off+i*wd,none⟩,m.getD lc.cap-i,by rw[h3,hxl],by omega,?_,ys,e2,fun j u hj=>?_⟩
     ·have:∃b,hp[deref hp k]?=some b∧((∃t xs o,b= .vec t xs o)∨∃cs,b= .raw cs):=by
       have sub:∀{j:Nat} {xs:List (X.den el)} {ok:Bool},ga el i wd n hp[j]?=some (ok,xs)→∃b,hp[j]?=some b∧((∃t xs o,b=Blk.vec t xs o)∨∃cs,b= .raw cs):=by
        intro j xs ok h
        unfold ga at h
        split at h
        ·rename_i t ys0 o hk;exact⟨_,hk, .inl ⟨_,_,_,rfl⟩⟩
        ·rename_i cs hk;exact⟨_,hk, .inr ⟨_,rfl⟩⟩
        ·cases h
       unfold gW at hls
       simp only[ak]at hls
       unfold deref
       rw[ak]
       split at hls
       ·rename_i t ys0 o hk;rw[hk];exact⟨_,hk, .inl ⟨_,_,_,rfl⟩⟩
       ·rename_i j f p hk;rw[hk];exact sub hls
       ·rename_i h1 h2
        split
        ·rename_i j f p hk;exact absurd hk (by simpa using h2 j f p)
        ·exact sub hls
      obtain⟨b,b1,b2⟩:=this
      exact xg hr hl h1 b1 b2
     ·have:=e3 _ rfl j u hj
      rw[Addr.add_lit]at this
      exact this
   |val u=>
    unfold gW at hls
    split at hls
    ·rename_i u' n c hu
     cases hu
     cases hb:Nat.beq n 0 with
     |false=>rw[hb]at hls;cases hls
     |true=>
      rw[hb]at hls
      simp only[B4,B0,Prod.mk.injEq,true_and]at hls
      subst hls
      have:=B2 hb
      subst this
      simp only[ah,Value.oneCell',if_true,B0]at hv
      exact .inl ⟨none,c,hv.symm,rfl⟩
    ·rename_i hu;cases hu
    ·rename_i hu;cases hu
    ·cases hls
   |cut k i w lo n=>simp[zH]at hroom
   |_=>simp[gW]at hls
  ·cases h
 ·cases h
def Dat.sl (hX:bd X) (el:X.El):Dat (List (X.den el)) where
 sh:=[.sl el]
 dv x:=[.sl el x]
 rd:=Al el
 wf x:=x.length≤maxLen∧∀y∈x,(X.enc el y).all dM=true
 read hp l x r h:=yx hX h
 total w ks ds vs h:=by
  cases h with
  |cons h t=>
   obtain⟨xs,rfl,_,h1,h2⟩:=h
   exact⟨xs,_,_,rfl,t,h1,h2⟩
structure Sig (A:Type) where
 kss:List (Bool×List (LS (X:=X)))
 args:A→List Arg
 rd:List (Blk (X:=X))→List AV→Option (Bool×A)
 wf:A→Prop
 read:∀hp l x,rd hp l=some (true,x)→∀(w0:aN) (w:World) (ρ:List Loc) (vs:List Value),HR w0 ρ hp w→ab ρ l=some vs→ka w (args x) vs
 total:∀w as vs,km w kss as vs→∃x,as=args x∧wf x
def Sig.nil:Sig Unit where
 kss:=[]
 args _:=[]
 rd _ l:=match l with
  | []=>some (true,())
  |_=>none
 wf _:=True
 read hp l x h w0 w ρ vs _ hc:=by
  split at h
  ·simp only[ab,B0]at hc;subst hc;exact .nil
  ·cases h
 total w as vs h:=by cases h;exact⟨(),rfl,trivial⟩
def zP (g:Bool):AV→Option (List AV)
 | .agg cs=>cond g (some cs) none
 | .tup _=>none
 |v=>cond g none (some [v])
def wP {T:Type} (g:Bool) (d:Dat T) (hp:List (Blk (X:=X))) (v:AV):Option (Bool×T):=
 match zP g v with
 |some cs=>match d.rd hp cs with
  |some (k,x,[])=>some (k,x)
  |_=>none
 |none=>none
theorem uh {T:Type} {g:Bool} {d:Dat T} {hp:List (Blk (X:=X))} {v:AV} {x:T} (h:wP g d hp v=some (true,x)) {w0:aN} {w:World} {ρ:List Loc} {y:Value} (hr:HR w0 ρ hp w) (hc:ah ρ v=some y):xT w g (d.dv x) y:=by
 unfold wP at h
 split at h
 ·rename_i cs hcs
  split at h
  ·rename_i k x' hrd
   simp only[B0,Prod.mk.injEq]at h
   obtain⟨rfl,rfl⟩:=h
   obtain⟨l1,hl,hread⟩:=d.read _ _ _ _ hrd
   rw[List.append_nil]at hl
   subst hl
   unfold zP at hcs
   split at hcs
   ·cases g with
    |false=>cases hcs
    |true=>
     simp only[B4,B0]at hcs
     subst hcs
     obtain⟨ys,h1,_,rfl⟩:=bx.1 hc
     exact⟨ys,rfl,hread w0 w ρ ys hr h1⟩
   ·cases hcs
   ·cases g with
    |true=>cases hcs
    |false=>
     simp only[B5,B0]at hcs
     subst hcs
     have:=hread w0 w ρ [y] hr (aa.2 ⟨_,_,hc,rfl,rfl⟩)
     cases hds:d.dv x' with
     |nil=>rw[hds]at this;cases this
     |cons e es=>
      rw[hds]at this
      cases this with
      |cons h t=>cases t;exact⟨e,rfl,h⟩
  ·cases h
 ·cases h
def Sig.cons {T A:Type} (g:Bool) (d:Dat T) (s:Sig A):Sig (T×A) where
 kss:=(g,d.sh)::s.kss
 args x:=(g,d.dv x.1)::s.args x.2
 rd hp l:=match l with
  |v::l=>match wP g d hp v with
   |some (k,x)=>match s.rd hp l with
    |some (k',y)=>some (and k k',(x,y))
    |none=>none
   |none=>none
  | []=>none
 wf x:=d.wf x.1∧s.wf x.2
 read hp l x h w0 w ρ vs hr hc:=by
  split at h
  ·rename_i v l'
   split at h
   ·rename_i k x1 h1
    split at h
    ·rename_i k' y1 h2
     simp only[B0,Prod.mk.injEq,B1]at h
     obtain⟨⟨rfl,rfl⟩,rfl⟩:=h
     obtain⟨y,ys,e1,e2,rfl⟩:=aa.1 hc
     exact .cons (uh h1 hr e1) (s.read hp _ _ h2 w0 w ρ ys hr e2)
    ·cases h
   ·cases h
  ·cases h
 total w as vs h:=by
  cases h with
  | @cons _ _ ds v _ as vs h t=>
   obtain⟨y,rfl,hw2⟩:=s.total w _ _ t
   have:∃x,ds=d.dv x∧d.wf x:=by
    cases g with
    |true=>
     obtain⟨cs,rfl,hl⟩:=h
     obtain⟨x,ds',vs',h1,h2,h3⟩:=d.total w [] ds cs (by rw[List.append_nil];exact hl)
     cases h2
     exact⟨x,by rw[h1,List.append_nil],h3⟩
    |false=>
     obtain⟨k,e,hk,rfl,hl⟩:=h
     obtain⟨x,ds',vs',h1,h2,h3⟩:=d.total w [] [e] [v] (by rw[List.append_nil,hk];exact .cons hl .nil)
     cases h2
     exact⟨x,by rw[h1,List.append_nil],h3⟩
   obtain⟨x,rfl,hw1⟩:=this
   exact⟨(x,y),rfl,hw1,hw2⟩
structure Res (R:Type) where
 enc:R→AV
 cl:∀x,∃y,ah [] (enc x)=some y
def Res.int (k:IntKind):Res Int:=⟨fun n=> .int k n,fun _=>⟨_,rfl⟩⟩
def Res.bool:Res Bool:=⟨fun b=> .bool b,fun _=>⟨_,rfl⟩⟩
def Res.agg {T:Type} (c:Cel T):Res T:=⟨fun x=> .agg (c.enc x),fun x=>by
 obtain⟨ys,h1,h2⟩:=gr (c.ok x)
 exact⟨_,bx.2 ⟨ys,h1,h2,rfl⟩⟩⟩
def Res.AD {A B:Type} (a:Res A) (b:Res B):Res (A×B):=⟨fun x=> .tup [a.enc x.1,b.enc x.2],fun x=>by
 obtain⟨y1,h1⟩:=a.cl x.1
 obtain⟨y2,h2⟩:=b.cl x.2
 exact⟨_,by simp[ah,ab,h1,h2];rfl⟩⟩
def Sig.con {A R:Type} (s:Sig A) (r:Res R) (f:A→R) (g:A→Bool):yR (X:=X):=fun args hp=>
 match s.rd hp args with
 |some (k,x)=>some (and k (g x),r.enc (f x))
 |none=>none
noncomputable def run (cfg:Cfg (X:=X)) (fuel d n:Nat) (fn:Func) {A:Type} (s:Sig A) (x:A):Option AV:=
 n5 cfg none (bA cfg none fuel d) fuel n fn (mkA 0 (s.args x)).1 (mkA 0 (s.args x)).2 (fun v _=>some v)
theorem Sig.A9 {A R:Type} {s:Sig A} {r:Res R} {f:A→R} {g:A→Bool} (hp:Prog P G cfg) {n:Nat} {fn:Func} (hk:iW P n fn)
  (h:∀x,g x=true→∃fuel d,run cfg fuel d n fn s x=some (r.enc (f x))):tK P G n (s.con r f g):=by
 refine⟨hk.1,fun args hb ok v hc hok w0 ρ w xs hG0 hr ha=>?_⟩
 unfold Sig.con at hc
 split at hc
 ·rename_i k x hx
  simp only[B0,Prod.mk.injEq]at hc
  obtain⟨h1,rfl⟩:=hc
  rw[hok]at h1
  simp only[B1]at h1
  obtain⟨rfl,h1⟩:=h1
  obtain⟨y,hy⟩:=r.cl (f x)
  obtain⟨fuel,d,hrun⟩:=h x h1
  exact⟨y,c5 List.nil_prefix _ _ hy,oY hp hk (hp.stay w0.w w hG0 hr.below) (s.read _ _ _ hx w0 w ρ xs hr ha) hrun hy⟩
 ·cases hc
theorem Prog.cW {A R:Type} {s:Sig A} {r:Res R} {f:A→R} {g:A→Bool} (hp:Prog P G cfg) {n:Nat} {fn:Func} (hk:iW P n fn)
  (h:∀x,g x=true→∃fuel d,run cfg fuel d n fn s x=some (r.enc (f x))):Prog P G {cfg with E:=(n,s.con r f g)::cfg.E}:=hp.add (s.A9 hp hk h)
omit X in
theorem FOk.nil:FOk P []:=fun f fn h=>by simp[look]at h
omit X in
theorem FOk.cons {F:List (Nat×Func)} {n:Nat} {fn:Func} (hk:iW P n fn) (h:FOk P F):FOk P ((n,fn)::F):=fun f fn' hf=>by
 simp only[look]at hf
 cases hb:Nat.beq n f with
 |true=>
  rw[hb,B4]at hf
  simp only[B0]at hf
  rw[←B2 hb,←hf]
  exact⟨hk.1,hk.2⟩
 |false=>
  rw[hb,B5]at hf
  exact h f fn' hf
theorem Prog.start (hX:bd X) {ti:List (Nat×TI (X:=X))} {F:List (Nat×Func)} (ht:eu P ti=true) (he:pI P 40 ti=true) (hm:P.follows .mixedOrders=true) (hF:FOk P F):
  Prog P (fun _=>True) {ti:=ti,E:=[],F:=F}:=
 {elts:=hX
  types:=ht
  eqs:=xx (by omega) ht he
  calls:=fun n c h=>by simp[look]at h
  wL:=fun g cs h=>by simp[look]at h
  uN:=fun t h=>by cases h
  uG:=fun t m n h=>by cases h
  makes:=fun n c h=>by simp[look]at h
  writes:=fun n c h=>by simp[look]at h
  mixed:=hm
  stay:=fun _ _ _ _=>trivial
  fns:=hF
  jN:=fun f p cx sp con h=>by simp[jM]at h
  ranges:=fun f p id keep h=>by simp[mu]at h
  plain:=rfl}
def YOk (P:Program) (Y:List (Nat×Nat×Nat×List Nat)):Prop:=
 ∀f p id keep,mu Y f p=some (id,keep)→∀fn body,P.funcs[f]?=some fn→fn.body=some body→∀g ps a c,Sub body p (.rangeFunc g ps a c)→X.src id=some (ps,a,c)
theorem YOk.nil:YOk P []:=fun f p id keep h=>by simp[mu]at h
def vn:Option Code→Option (Array Tmp×Code×Code)
 |some (.rangeFunc _ ps a c)=>some (ps,a,c)
 |_=>none
theorem YOk.cons {Y:List (Nat×Nat×Nat×List Nat)} (h:YOk P Y) {f p id:Nat} {keep:List Nat} {fn:Func} {body:Code} {ds:List Bool} (hfn:P.funcs[f]?=some fn) (hb:fn.body=some body)
  (hp:num ds=p) (hs:X.src id=vn (aG ds body)):YOk P ((f,p,id,keep)::Y):=by
 intro f' p' id' keep' hl fn' body' hfn' hbody' g' ps' a' c' hsub
 simp only[mu]at hl
 cases hbq:and (Nat.beq f f') (Nat.beq p p')with
 |false=>rw[hbq,B5]at hl;exact h f' p' id' keep' hl fn' body' hfn' hbody' g' ps' a' c' hsub
 |true=>
  rw[hbq,B4]at hl
  simp only[B0,Prod.mk.injEq]at hl
  obtain⟨rfl,rfl⟩:=hl
  simp only[B1]at hbq
  have e1:=B2 hbq.1
  have e2:=B2 hbq.2
  subst e1 e2
  rw[hfn]at hfn'
  simp only[B0]at hfn'
  subst hfn'
  rw[hb]at hbody'
  simp only[B0]at hbody'
  subst hbody'
  obtain⟨ds',d1,d2⟩:=hsub.path
  have:=mR _ _ (d1.trans hp.symm)
  subst this
  rw[hs,d2]
  rfl
theorem Prog.AE (hX:bd X) {ti:List (Nat×TI (X:=X))} {F:List (Nat×Func)} {Y:List (Nat×Nat×Nat×List Nat)} (ht:eu P ti=true) (he:pI P 40 ti=true) (hm:P.follows .mixedOrders=true) (hF:FOk P F) (hY:YOk P Y):
  Prog P (fun _=>True) {ti:=ti,E:=[],F:=F,Y:=Y}:=
 {elts:=hX
  types:=ht
  eqs:=xx (by omega) ht he
  calls:=fun n c h=>by simp[look]at h
  wL:=fun g cs h=>by simp[look]at h
  uN:=fun t h=>by cases h
  uG:=fun t m n h=>by cases h
  makes:=fun n c h=>by simp[look]at h
  writes:=fun n c h=>by simp[look]at h
  mixed:=hm
  stay:=fun _ _ _ _=>trivial
  fns:=hF
  jN:=fun f p cx sp con h=>by simp[jM]at h
  ranges:=hY
  plain:=rfl}
def xp (gl:List (Nat×List AV)) (w:World):Prop:=∀g cs,look gl g=some cs→wN w g cs
omit X in
theorem xp.stay {gl:List (Nat×List AV)} {w0 w:World} (h:xp gl w0) (hb:Below w0.heap.size w0 w):xp gl w:=by
 intro g cs hl
 obtain⟨h1,ys,h2,h3,h4⟩:=h g cs hl
 exact⟨Nat.lt_of_lt_of_le h1 hb.size,ys,h2,h3,fun j y hj=>by rw[←h4 j y hj];exact hb.cell (p:=⟨g,j,none⟩) h1⟩
theorem km.cl {w:World} {kss:List (Bool×List (LS (X:=X)))} {as:List Arg} {vs:List Value} (h:km w kss as vs):ka w as vs:=by
 induction h with
 |nil=>exact .nil
 |cons h _ ih=>exact .cons h.cl ih
theorem Sig.law {A:Type} {s:Sig A} (hp:Prog P G cfg) {n:Nat} {fn:Func} (hk:iW P n fn) {w:World} (hG:G w) {as:List Arg} {vs:List Value} (ha:km w s.kss as vs)
  (h:∀x,s.wf x→∃fuel d,run cfg fuel d n fn s x=some (.bool true)):Calls P n vs.toArray w (fun e w'=>e= .returned (.bool true)∧Below w.heap.size w w'):=by
 obtain⟨x,rfl,hx⟩:=s.total w as vs ha
 obtain⟨fuel,d,hrun⟩:=h x hx
 exact oY hp hk hG ha.cl hrun rfl
end
end Go.Proofs.Ytdadgkgkdgnihaa.Px
