/- Functions that hand back rows of their own: contracts by plain functions of data. -/
import Derived.Test.YtdadgkgkdgnihaaPxData
set_option linter.unusedVariables false
set_option linter.unusedSimpArgs false
namespace Go.Proofs.Ytdadgkgkdgnihaa.Px
open Go Go.RowKit Go.ChangeShapes Go.WideShapes Go.Deep
section
variable [X:aS]
def mkO:Nat→List (DV (X:=X))→List AV×List (Blk (X:=X))
 |_,[]=>([],[])
 |n, .int k v::l=>(.int k v::(mkO n l).1,(mkO n l).2)
 |n, .bool b::l=>(.bool b::(mkO n l).1,(mkO n l).2)
 |n, .sl el xs::l=>(.sl n 0 (X.width el) xs.length none::(mkO (n+1) l).1, .vec el xs true::(mkO (n+1) l).2)
def wT (bs:List (Blk (X:=X))):Prop:=∀b∈bs,∃t xs,b= .vec t xs true
theorem ik:∀(n:Nat) (ds:List (DV (X:=X))),wT (mkO n ds).2
 |_,[],b,h=>by simp[mkO]at h
 |n, .int k v::l,b,h=>ik n l b h
 |n, .bool v::l,b,h=>ik n l b h
 |n, .sl el xs::l,b,h=>by
  simp only[mkO,List.mem_cons]at h
  rcases h with rfl|h
  ·exact⟨el,xs,rfl⟩
  ·exact ik (n+1) l b h
def re (hp hp':List (Blk (X:=X))) (l1:List AV) (ds:List (DV (X:=X))):Prop:=
 hp'.length=hp.length∧∀(w0:aN) (w:World) (ρ ls0:List Loc) (bs0:List (Blk (X:=X))) (vs:List Value),ρ.length=hp.length→HR w0 (ρ++ls0) (hp++bs0) w→ab ρ l1=some vs→∀n,
  ∃ls,HR w0 (ρ++(ls0++ls)) (hp'++(bs0++(mkO n ds).2)) w∧ls.length=(mkO n ds).2.length∧∀ρc:List Loc,ρc.length=n→ab (ρc++ls) (mkO n ds).1=some vs
theorem dJ:∀(n:Nat) (ds es:List (DV (X:=X))),mkO n (ds++es)=((mkO n ds).1++(mkO (n+(mkO n ds).2.length) es).1,(mkO n ds).2++(mkO (n+(mkO n ds).2.length) es).2)
 |n,[],es=>by simp[mkO]
 |n, .int k v::l,es=>by simp only[List.cons_append,mkO,dJ n l es]
 |n, .bool v::l,es=>by simp only[List.cons_append,mkO,dJ n l es]
 |n, .sl el xs::l,es=>by
  simp only[List.cons_append,mkO,dJ (n+1) l es,List.length_cons]
  rw[show n+1+(mkO (n+1) l).2.length=n+((mkO (n+1) l).2.length+1) by omega]
theorem re.nil {hp:List (Blk (X:=X))}:re hp hp [] []:=⟨rfl,fun w0 w ρ ls0 bs0 vs _ hr hc n=>by
 simp only[ab,B0]at hc
 subst hc
 exact⟨[],by simpa[mkO]using hr,rfl,fun _ _=>rfl⟩⟩
theorem re.append {hp hp1 hp2:List (Blk (X:=X))} {l1 l2:List AV} {ds1 ds2:List (DV (X:=X))} (h1:re hp hp1 l1 ds1) (h2:re hp1 hp2 l2 ds2):re hp hp2 (l1++l2) (ds1++ds2):=by
 refine⟨h2.1.trans h1.1,fun w0 w ρ ls0 bs0 vs hρ hr hc n=>?_⟩
 obtain⟨ys,zs,e1,e2,rfl⟩:=aD.1 hc
 obtain⟨la,a1,a2,a3⟩:=h1.2 w0 w ρ ls0 bs0 ys hρ hr e1 n
 obtain⟨lb,b1,b2,b3⟩:=h2.2 w0 w ρ (ls0++la) (bs0++(mkO n ds1).2) zs (by rw[hρ,h1.1]) a1 e2 (n+(mkO n ds1).2.length)
 refine⟨la++lb,?_,by rw[dJ];simp[a2,b2],fun ρc hρc=>?_⟩
 ·rw[dJ]
  simpa[List.append_assoc]using b1
 ·rw[dJ]
  refine aD.2 ⟨ys,zs,?_,?_,rfl⟩
  ·rw[←List.append_assoc];exact aB (List.prefix_append _ _) _ _ (a3 ρc hρc)
  ·rw[←List.append_assoc];exact b3 (ρc++la) (by simp[hρc,a2])
structure Own (T:Type) where
 dv:T→List (DV (X:=X))
 rd:List (Blk (X:=X))→List AV→Option (Bool×T×List (Blk (X:=X))×List AV)
 ok:∀hp l x hp' r,rd hp l=some (true,x,hp',r)→∃l1,l=l1++r∧re hp hp' l1 (dv x)
theorem fZ:∀{ks:List (Option IntKind)} {cs:List AV},av ks cs=true→∀n,mkO n (pq (X:=X) cs)=(cs,[])
 | [],[],_,_=>rfl
 | [],_::_,h,_=>by simp[av]at h
 |some k::ks, .int k' m::cs,h,n=>by
  simp only[av,B1]at h
  simp only[pq,mkO,fZ h.2 n]
 |none::ks, .bool b::cs,h,n=>by
  simp only[av]at h
  simp only[pq,mkO,fZ h n]
theorem ui {ks:List (Option IntKind)} {cs:List AV} {hp:List (Blk (X:=X))} (h:av ks cs=true):re hp hp cs (pq cs):=by
 refine⟨rfl,fun w0 w ρ ls0 bs0 vs hρ hr hc n=>⟨[],?_,by rw[fZ h];rfl,fun ρc _=>?_⟩⟩
 ·rw[fZ h];simpa using hr
 ·rw[fZ h]
  obtain⟨ys,h1,_⟩:=gr h
  have h2:=aB (List.nil_prefix (l:=ρ)) _ _ h1
  rw[hc]at h2
  simp only[B0]at h2
  subst h2
  exact aB List.nil_prefix _ _ h1
def Own.dd {T:Type} (c:Cel T):Own T where
 dv x:=pq (c.enc x)
 rd hp l:=match c.dec l with
  |some (x,r)=>some (true,x,hp,r)
  |none=>none
 ok hp l x hp' r h:=by
  split at h
  ·rename_i y r' hd
   simp only[B0,Prod.mk.injEq,true_and]at h
   obtain⟨rfl,rfl,rfl⟩:=h
   exact⟨c.enc y,c.back _ _ _ hd,ui (c.ok y)⟩
  ·cases h
def Own.prod {A B:Type} (a:Own A) (b:Own B):Own (A×B) where
 dv x:=a.dv x.1++b.dv x.2
 rd hp l:=match a.rd hp l with
  |some (g,x,hp',r)=>match b.rd hp' r with
   |some (g',y,hp'',r')=>some (and g g',(x,y),hp'',r')
   |none=>none
  |none=>none
 ok hp l x hp' r h:=by
  split at h
  ·rename_i g x1 hp1 r1 h1
   split at h
   ·rename_i g' y1 hp2 r2 h2
    simp only[B0,Prod.mk.injEq,B1]at h
    obtain⟨⟨rfl,rfl⟩,rfl,rfl,rfl⟩:=h
    obtain⟨l1,rfl,t1⟩:=a.ok _ _ _ _ _ h1
    obtain⟨l2,rfl,t2⟩:=b.ok _ _ _ _ _ h2
    exact⟨l1++l2,by rw[List.append_assoc],t1.append t2⟩
   ·cases h
  ·cases h
def Own.iso {A B:Type} (a:Own A) (f:A→B) (g:B→A) (h:∀x,g (f x)=x):Own B where
 dv x:=a.dv (g x)
 rd hp l:=match a.rd hp l with
  |some (k,x,hp',r)=>some (k,f x,hp',r)
  |none=>none
 ok hp l x hp' r hd:=by
  split at hd
  ·rename_i k x1 hp1 r1 h1
   simp only[B0,Prod.mk.injEq]at hd
   obtain⟨rfl,rfl,rfl,rfl⟩:=hd
   rw[h]
   exact a.ok _ _ _ _ _ h1
  ·cases hd
def tE (el:X.El) (hp:List (Blk (X:=X))):List AV→Option (Bool×List (X.den el)×List (Blk (X:=X))×List AV)
 | .sl k 0 w n none::r=>match nth hp k with
  |some (.vec t xs true)=>match decEq t el with
   | .isTrue h=>cond (Nat.beq w (X.width el)) (some (Nat.beq n xs.length,h▸xs,cO hp k .dead,r)) none
   | .isFalse _=>none
  |_=>none
 | .val (.slice none 0 0)::r=>some (true,[],hp,r)
 |_=>none
theorem vP {el:X.El} {hp hp':List (Blk (X:=X))} {l r:List AV} {xs:List (X.den el)} (h:tE el hp l=some (true,xs,hp',r)):∃l1,l=l1++r∧re hp hp' l1 [.sl el xs]:=by
 unfold tE at h
 split at h
 ·rename_i k w n r'
  rw[ak]at h
  split at h
  ·rename_i t ys hk
   split at h
   ·rename_i e he
    subst e
    dsimp only at h
    cases hw:Nat.beq w (X.width t)with
    |false=>rw[hw]at h;cases h
    |true=>
     rw[hw]at h
     simp only[B4,B0,Prod.mk.injEq,au]at h
     obtain⟨h1,rfl,rfl,rfl⟩:=h
     have h1:=B2 h1
     subst h1
     have hw:=B2 hw
     subst hw
     have hkl:=(List.getElem?_eq_some_iff.1 hk).1
     refine⟨[.sl k 0 (X.width t) ys.length none],rfl,by simp,fun w0 w ρ ls0 bs0 vs hρ hr hc n=>?_⟩
     obtain⟨v,vs',hv,hn,rfl⟩:=aa.1 hc
     simp only[ab,B0]at hn
     subst hn
     obtain⟨lc,hl,hx⟩:=aK.1 hv
     have hk':(hp++bs0)[k]?=some (.vec t ys true):=by rw[List.getElem?_append_left hkl];exact hk
     have hl':(ρ++ls0)[k]?=some lc:=by rw[List.getElem?_append_left (by rw[hρ];exact hkl)];exact hl
     have hm:=hr.move hk' hl' rfl
     rw[List.set_append_left _ _ hkl]at hm
     refine⟨[lc],by simpa[mkO,List.append_assoc]using hm,rfl,fun ρc hρc=>?_⟩
     exact aa.2 ⟨_,_,aK.2 ⟨lc,by rw[List.getElem?_append_right (by omega),hρc,Nat.sub_self];rfl,hx⟩,rfl,rfl⟩
   ·cases h
  ·cases h
 ·rename_i r'
  simp only[B0,Prod.mk.injEq,true_and]at h
  obtain⟨rfl,rfl,rfl⟩:=h
  refine⟨[.val (.slice none 0 0)],rfl,rfl,fun w0 w ρ ls0 bs0 vs hρ hr hc n=>?_⟩
  obtain⟨v,vs',hv,hn,rfl⟩:=aa.1 hc
  simp only[ab,B0]at hn
  subst hn
  simp only[ah,Value.oneCell',if_true,B0]at hv
  subst hv
  have ha:HR w0 ((ρ++ls0)++[⟨0,0,0,true,none,false⟩]) ((hp++bs0)++[Blk.vec el [] true]) w:=hr.add (fun _=>rfl) ⟨fun _=>⟨rfl,rfl⟩,(fun h=>by cases h)⟩
  refine⟨[⟨0,0,0,true,none,false⟩],by simpa[mkO,List.append_assoc]using ha,rfl,fun ρc hρc=>?_⟩
  exact aa.2 ⟨_,_,aK.2 ⟨_,by rw[List.getElem?_append_right (by omega),hρc,Nat.sub_self];rfl, .inl ⟨rfl,rfl,rfl⟩⟩,rfl,rfl⟩
 ·cases h
def Own.sl (el:X.El):Own (List (X.den el)) where
 dv x:=[.sl el x]
 rd:=tE el
 ok hp l x hp' r h:=vP h
structure Out (T:Type) where
 rd:List (Blk (X:=X))→AV→Option (Bool×T×List (Blk (X:=X)))
 lay:Nat→T→AV×List (Blk (X:=X))
 vec:∀n x,wT (lay n x).2
 ok:∀hp v x hp',rd hp v=some (true,x,hp')→hp'.length=hp.length∧∀(w0:aN) (w:World) (ρ ls0:List Loc) (bs0:List (Blk (X:=X))) (y:Value),ρ.length=hp.length→HR w0 (ρ++ls0) (hp++bs0) w→ah ρ v=some y→∀n,
  ∃ls,HR w0 (ρ++(ls0++ls)) (hp'++(bs0++(lay n x).2)) w∧ls.length=(lay n x).2.length∧∀ρc:List Loc,ρc.length=n→ah (ρc++ls) (lay n x).1=some y
def Out.one {T:Type} (o:Own T):Out T where
 rd hp v:=match v with
  | .agg _=>none
  | .tup _=>none
  |v=>match o.rd hp [v]with
   |some (g,x,hp',[])=>some (g,x,hp')
   |_=>none
 lay n x:=(mkV false (mkO n (o.dv x)).1,(mkO n (o.dv x)).2)
 vec n x:=ik n _
 ok hp v x hp' h:=by
  split at h
  ·cases h
  ·cases h
  ·split at h
   ·rename_i g x1 hp1 h1
    simp only[B0,Prod.mk.injEq]at h
    obtain⟨rfl,rfl,rfl⟩:=h
    obtain⟨l1,e,t⟩:=o.ok _ _ _ _ _ h1
    rw[List.append_nil]at e
    subst e
    refine⟨t.1,fun w0 w ρ ls0 bs0 y hρ hr hc n=>?_⟩
    obtain⟨ls,a1,a2,a3⟩:=t.2 w0 w ρ ls0 bs0 [y] hρ hr (aa.2 ⟨_,_,hc,rfl,rfl⟩) n
    refine⟨ls,a1,a2,fun ρc hρc=>?_⟩
    have h3:=a3 ρc hρc
    have hlen:=ar h3
    match hm:(mkO n (o.dv x1)).1,hlen with
    | [c],_=>
     rw[hm]at h3
     obtain⟨z,zs,hz,_,e⟩:=aa.1 h3
     simp only[List.cons.injEq]at e
     simp only[mkV]
     rw[e.1];exact hz
    | [],hl=>simp at hl
    |_::_::_,hl=>simp at hl
   ·cases h
def Out.agg {T:Type} (o:Own T):Out T where
 rd hp v:=match v with
  | .agg cs=>match o.rd hp cs with
   |some (g,x,hp',[])=>some (g,x,hp')
   |_=>none
  |_=>none
 lay n x:=(.agg (mkO n (o.dv x)).1,(mkO n (o.dv x)).2)
 vec n x:=ik n _
 ok hp v x hp' h:=by
  split at h
  ·split at h
   ·rename_i cs _ g x1 hp1 h1
    simp only[B0,Prod.mk.injEq]at h
    obtain⟨rfl,rfl,rfl⟩:=h
    obtain⟨l1,e,t⟩:=o.ok _ _ _ _ _ h1
    rw[List.append_nil]at e
    subst e
    refine⟨t.1,fun w0 w ρ ls0 bs0 y hρ hr hc n=>?_⟩
    obtain⟨ys,h2,h3,rfl⟩:=bx.1 hc
    obtain⟨ls,a1,a2,a3⟩:=t.2 w0 w ρ ls0 bs0 ys hρ hr h2 n
    exact⟨ls,a1,a2,fun ρc hρc=>bx.2 ⟨ys,a3 ρc hρc,h3,rfl⟩⟩
   ·cases h
  ·cases h
structure rM (T:Type) where
 rd:List (Blk (X:=X))→List AV→Option (Bool×T×List (Blk (X:=X)))
 lay:Nat→T→List AV×List (Blk (X:=X))
 vec:∀n x,wT (lay n x).2
 ok:∀hp l x hp',rd hp l=some (true,x,hp')→hp'.length=hp.length∧∀(w0:aN) (w:World) (ρ ls0:List Loc) (bs0:List (Blk (X:=X))) (ys:List Value),ρ.length=hp.length→HR w0 (ρ++ls0) (hp++bs0) w→ab ρ l=some ys→∀n,
  ∃ls,HR w0 (ρ++(ls0++ls)) (hp'++(bs0++(lay n x).2)) w∧ls.length=(lay n x).2.length∧∀ρc:List Loc,ρc.length=n→ab (ρc++ls) (lay n x).1=some ys
def rM.last {T:Type} (o:Out T):rM T where
 rd hp l:=match l with
  | [v]=>o.rd hp v
  |_=>none
 lay n x:=([(o.lay n x).1],(o.lay n x).2)
 vec n x:=o.vec n x
 ok hp l x hp' h:=by
  split at h
  ·rename_i v
   obtain⟨h1,h2⟩:=o.ok _ _ _ _ h
   refine⟨h1,fun w0 w ρ ls0 bs0 ys hρ hr hc n=>?_⟩
   obtain⟨y,zs,e1,e2,rfl⟩:=aa.1 hc
   simp only[ab,B0]at e2
   subst e2
   obtain⟨ls,a1,a2,a3⟩:=h2 w0 w ρ ls0 bs0 y hρ hr e1 n
   exact⟨ls,a1,a2,fun ρc hρc=>aa.2 ⟨_,_,a3 ρc hρc,rfl,rfl⟩⟩
  ·cases h
def rM.cons {A B:Type} (o:Out A) (p:rM B):rM (A×B) where
 rd hp l:=match l with
  |v::l=>match o.rd hp v with
   |some (g,x,hp')=>match p.rd hp' l with
    |some (g',y,hp'')=>some (and g g',(x,y),hp'')
    |none=>none
   |none=>none
  | []=>none
 lay n x:=((o.lay n x.1).1::(p.lay (n+(o.lay n x.1).2.length) x.2).1,(o.lay n x.1).2++(p.lay (n+(o.lay n x.1).2.length) x.2).2)
 vec n x b h:=by
  rcases List.mem_append.1 h with h|h
  ·exact o.vec _ _ b h
  ·exact p.vec _ _ b h
 ok hp l x hp' h:=by
  split at h
  ·rename_i v l'
   split at h
   ·rename_i g x1 hp1 h1
    split at h
    ·rename_i g' y1 hp2 h2
     simp only[B0,Prod.mk.injEq,B1]at h
     obtain⟨⟨rfl,rfl⟩,rfl,rfl⟩:=h
     obtain⟨a1,a2⟩:=o.ok _ _ _ _ h1
     obtain⟨b1,b2⟩:=p.ok _ _ _ _ h2
     refine⟨b1.trans a1,fun w0 w ρ ls0 bs0 ys hρ hr hc n=>?_⟩
     obtain⟨y,zs,e1,e2,rfl⟩:=aa.1 hc
     obtain⟨la,c1,c2,c3⟩:=a2 w0 w ρ ls0 bs0 y hρ hr e1 n
     obtain⟨lb,d1,d2,d3⟩:=b2 w0 w ρ (ls0++la) (bs0++(o.lay n x1).2) zs (by rw[hρ,a1]) c1 e2 (n+(o.lay n x1).2.length)
     refine⟨la++lb,by simpa[List.append_assoc]using d1,by simp[c2,d2],fun ρc hρc=>aa.2 ⟨y,zs,?_,?_,rfl⟩⟩
     ·rw[←List.append_assoc];exact c5 (List.prefix_append _ _) _ _ (c3 ρc hρc)
     ·rw[←List.append_assoc];exact d3 (ρc++la) (by simp[hρc,c2])
    ·cases h
   ·cases h
  ·cases h
def Out.tup {T:Type} (o:rM T):Out T where
 rd hp v:=match v with
  | .tup l=>o.rd hp l
  |_=>none
 lay n x:=(.tup (o.lay n x).1,(o.lay n x).2)
 vec n x:=o.vec n x
 ok hp v x hp' h:=by
  split at h
  ·obtain⟨h1,h2⟩:=o.ok _ _ _ _ h
   refine⟨h1,fun w0 w ρ ls0 bs0 y hρ hr hc n=>?_⟩
   simp only[ah,Option.bind_eq_some_iff,B0]at hc
   obtain⟨ys,e1,rfl⟩:=hc
   obtain⟨ls,a1,a2,a3⟩:=h2 w0 w ρ ls0 bs0 ys hρ hr e1 n
   exact⟨ls,a1,a2,fun ρc hρc=>by simp only[ah,a3 ρc hρc,Option.bind_some]⟩
  ·cases h
def Out.get {T:Type} (o:Out T) (v:AV) (hp:List (Blk (X:=X))):Option T:=match o.rd hp v with
 |some (g,x,_)=>cond g (some x) none
 |none=>none
theorem lD {m L:Nat}:∀{bs:List (Blk (X:=X))},wT bs→fJ m L bs=some bs
 | [],_=>rfl
 |b::bs,h=>by
  obtain⟨t,xs,rfl⟩:=h b (by simp)
  have:=lD (m:=m) (L:=L) (bs:=bs) (fun b hb=>h b (List.mem_cons_of_mem _ hb))
  simp only[fJ,dO,this]
theorem HR.join {w0:aN} {w w':World} {ρ ls:List Loc} {hp bs:List (Blk (X:=X))} (h:HR w0 ρ hp w) (hb:HR (bare w) ls bs w') (hv:wT bs):HR w0 (ρ++ls) (hp++bs) w':=by
 have hbel:Below w.heap.size w w':=hb.below
 have h':=h.grow hbel
 have look:∀(k:Nat) (b:Blk (X:=X)) (l:Loc),(hp++bs)[k]?=some b→(ρ++ls)[k]?=some l→(k<hp.length∧hp[k]?=some b∧ρ[k]?=some l)∨(hp.length≤k∧bs[k-hp.length]?=some b∧ls[k-hp.length]?=some l):=by
  intro k b l hk hl
  by_cases e:k<hp.length
  ·rw[List.getElem?_append_left e]at hk
   rw[List.getElem?_append_left (by rw[h.len];exact e)]at hl
   exact .inl ⟨e,hk,hl⟩
  ·rw[List.getElem?_append_right (by omega)]at hk
   rw[List.getElem?_append_right (by rw[h.len];omega),h.len]at hl
   exact .inr ⟨by omega,hk,hl⟩
 have fresh:∀(k:Nat) (b:Blk (X:=X)) (l:Loc),bs[k]?=some b→ls[k]?=some l→b.own=true→l.nil=false→w.heap.size≤l.b:=by
  intro k b l hk hl ho hn
  obtain⟨t,xs,rfl⟩:=hv b (List.mem_of_getElem? hk)
  exact((hb.blk k _ l hk hl).2 hn).2.1
 refine⟨by simp[h.len,hb.len],h'.below,fun k b l hk hl=>?_,fun k b l hk hl hm=>?_,fun k k' b b' l l' hk hk' hl hl' hne o1 o2 n1 n2=>?_,fun p hp=>⟨(h'.bz p hp).1,fun k b l hk hl ho hn=>?_⟩⟩
 rotate_left 3
 ·rcases look k b l hk hl with⟨_,a1,a2⟩|⟨_,a1,a2⟩
  ·exact(h.bz p hp).2 k b l a1 a2 ho hn
  ·have:=(Array.getElem?_eq_some_iff.1 (h.bz p hp).1).1
   have:=fresh _ _ _ a1 a2 ho hn
   omega
 ·rcases look k b l hk hl with⟨_,a1,a2⟩|⟨_,a1,a2⟩
  ·exact(h'.blk k b l a1 a2).ext (List.prefix_append _ _) fun _ _=>rfl
  ·obtain⟨t,xs,rfl⟩:=hv b (List.mem_of_getElem? a1)
   have:=hb.blk _ _ l a1 a2
   refine⟨this.1,fun hn=>?_⟩
   obtain⟨c1,c2,c3⟩:=this.2 hn
   exact⟨c1,Nat.le_trans h.below.size c2,c3⟩
 ·rcases look k b l hk hl with⟨_,a1,a2⟩|⟨_,a1,a2⟩
  ·exact h.marks k b l a1 a2 hm
  ·exact hb.marks _ b l a1 a2 hm
 ·rcases look k b l hk hl with⟨e0,a1,a2⟩|⟨e0,a1,a2⟩
  ·rcases look k' b' l' hk' hl' with⟨e1,c1,c2⟩|⟨e1,c1,c2⟩
   ·exact h.sep k k' b b' l l' a1 c1 a2 c2 hne o1 o2 n1 n2
   ·have:=(h.blk k b l a1 a2).lt o1 n1
    have:=fresh _ _ _ c1 c2 o2 n2
    omega
  ·rcases look k' b' l' hk' hl' with⟨e1,c1,c2⟩|⟨e1,c1,c2⟩
   ·have:=(h.blk k' b' l' c1 c2).lt o2 n2
    have:=fresh _ _ _ a1 a2 o1 n1
    omega
   ·exact hb.sep _ _ b b' l l' a1 c1 a2 c2 (by omega) o1 o2 n1 n2
theorem Out.fresh {T:Type} {o:Out T} {v:AV} {hp:List (Blk (X:=X))} {x:T} (h:o.get v hp=some x) {w0:aN} {w:World} {ρ:List Loc} {y:Value} (hr:HR w0 ρ hp w) (hc:ah ρ v=some y) (n:Nat):
  ∃ls,HR w0 ls (o.lay n x).2 w∧∀ρc:List Loc,ρc.length=n→ah (ρc++ls) (o.lay n x).1=some y:=by
 unfold Out.get at h
 split at h
 ·rename_i g x1 hp1 h1
  cases g with
  |false=>cases h
  |true=>
   simp only[B4,B0]at h
   subst h
   obtain⟨h2,h3⟩:=o.ok _ _ _ _ h1
   obtain⟨ls,a1,a2,a3⟩:=h3 w0 w ρ [] [] y hr.len (by simpa using hr) hc n
   refine⟨ls,?_,a3⟩
   simp only[List.nil_append]at a1
   have hL:hp1.length≤(ρ++ls).length:=by rw[List.length_append,hr.len,h2];omega
   have hsel:=a1.sel (m:=0) (L:=hp1.length) (Nat.zero_le _) hL (hp':=(o.lay n x1).2) (by
    rw[cT,cN,List.take_zero,List.nil_append,List.drop_left]
    exact lD (o.vec n x1))
   have:Go.Proofs.Ytdadgkgkdgnihaa.Px.sel 0 hp1.length (ρ++ls)=ls:=by
    unfold Go.Proofs.Ytdadgkgkdgnihaa.Px.sel
    rw[List.take_zero,List.nil_append,h2,←hr.len,List.drop_left]
   rwa[this]at hsel
 ·cases h
noncomputable def mQ (cfg:Cfg (X:=X)) (fuel d n:Nat) (fn:Func) {A T:Type} (s:Sig A) (o:Out T) (x:A):Option T:=
 n5 cfg none (bA cfg none fuel d) fuel n fn (mkA 0 (s.args x)).1 (mkA 0 (s.args x)).2 o.get
def Sig.eo {A T:Type} (s:Sig A) (o:Out T) (f:A→T) (g:A→Bool):rK (X:=X):=fun args hp=>
 match s.rd hp args with
 |some (k,x)=>some ⟨and k (g x),(o.lay hp.length (f x)).1,hp++(o.lay hp.length (f x)).2⟩
 |none=>none
variable {P:Program} {G:World→Prop} {cfg:Cfg (X:=X)}
theorem Sig.Ap {A T:Type} {s:Sig A} {o:Out T} {f:A→T} {g:A→Bool} (hp:Prog P G cfg) {n:Nat} {fn:Func} (hk:iW P n fn)
  (h:∀x,g x=true→∃fuel d,mQ cfg fuel d n fn s o x=some (f x)):xC P G n (s.eo o f g):=by
 refine⟨hk.1,fun args hb r hc hok w0 ρ w xs hG0 hr ha=>?_,fun args hb r hc=>?_⟩
 rotate_left
 ·unfold Sig.eo at hc
  split at hc
  ·simp only[B0]at hc
   subst hc
   exact List.prefix_append _ _
  ·cases hc
 unfold Sig.eo at hc
 split at hc
 ·rename_i k x hx
  simp only[B0]at hc
  subst hc
  simp only[B1]at hok
  obtain⟨rfl,hok⟩:=hok
  obtain⟨fuel,d,hrun⟩:=h x hok
  have hcl:=s.read _ _ _ hx w0 w ρ xs hr ha
  obtain⟨ls,h1,h2⟩:=yn hcl 0
  have h3:=h2 [] rfl
  rw[List.nil_append]at h3
  let φ:Option T→Prop:=fun r=>r=some (f x)
  have hf0:¬φ none:=fun e=>by cases e
  have hGw:=hp.stay w0.w w hG0 hr.below
  have hd:cC P (bare w) cfg (none:Option T) φ:=dT (w0:=bare w) hp.mixed hf0 hp.toEOk hGw
  have hci:=ft (w0:=bare w) hf0 hp.toEOk hp.jN hp.ranges hp.plain hGw hp.fns (fun w1 e c hc=>dT (w0:=w1) hp.mixed hf0 hc (by rw[e];exact hGw)) (fuel:=fuel) d
  refine(iM (w0:=bare w) (φ:=φ) hf0 hp.toEOk hp.jN hp.ranges hp.plain hGw hci hd hk.2 hrun h1.hr h3).mono ?_
  rintro e w' ⟨v',hp',ρ',x',rfl,hφ,_,hx',hr'⟩
  obtain⟨ls',a1,a2⟩:=Out.fresh hφ hr' hx' hb.length
  exact⟨x',ρ++ls',rfl,List.prefix_append _ _,a2 ρ hr.len,hr.join a1 (o.vec _ _)⟩
 ·cases hc
theorem Prog.xV {A T:Type} {s:Sig A} {o:Out T} {f:A→T} {g:A→Bool} (hp:Prog P G cfg) {n:Nat} {fn:Func} (hk:iW P n fn)
  (h:∀x,g x=true→∃fuel d,mQ cfg fuel d n fn s o x=some (f x)):Prog P G {cfg with H:=(n,s.eo o f g)::cfg.H}:=
 {hp with
  makes:=fun m c hc=>by
   simp only[look]at hc
   cases hb:Nat.beq n m with
   |true=>
    rw[hb,B4]at hc
    simp only[B0]at hc
    rw[←B2 hb,←hc]
    exact s.Ap hp hk h
   |false=>
    rw[hb,B5]at hc
    exact hp.makes m c hc}
theorem Prog.AS (hp:Prog P G cfg) {n:Nat} {con:rK (X:=X)} (h:oA P G n con):Prog P G {cfg with W:=(n,con)::cfg.W}:=
 {hp with
  writes:=fun m c hc=>by
   simp only[look]at hc
   cases hb:Nat.beq n m with
   |true=>
    rw[hb,B4]at hc
    simp only[B0]at hc
    rw[←B2 hb,←hc]
    exact h
   |false=>
    rw[hb,B5]at hc
    exact hp.writes m c hc}
end
end Go.Proofs.Ytdadgkgkdgnihaa.Px
