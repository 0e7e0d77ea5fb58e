/- The evaluator's blocks, as memory turns. -/
import Derived.Test.YtdadgkgkdgnihaaPxQuiet
set_option linter.unusedVariables false
set_option linter.unusedSimpArgs false
namespace Go.Proofs.Ytdadgkgkdgnihaa.Px
open Go Go.RowKit
section
variable [X:aS]
theorem BOk.ext {w0:aN} {w w':World} {ρ ρ':List Loc} {l:Loc} {b:Blk (X:=X)} (h:BOk w0 w ρ l b) (hρ:ρ<+:ρ') (hb:b.own=true→l.nil=false→w'.heap[l.b]?=w.heap[l.b]?):BOk w0 w' ρ' l b:=by
 cases b with
 |dead=>trivial
 |alias k f p=>
  obtain⟨t,rfl⟩:=hρ
  cases p with
  |true=>
   have h1:ρ[k]?=some l:=h
   show(ρ++t)[k]?=some l
   rw[List.getElem?_append_left (List.getElem?_eq_some_iff.1 h1).1]
   exact h1
  |false=>
   rcases h with h|⟨h0,l',h1,h2⟩
   ·exact .inl h
   ·refine .inr ⟨h0,l',?_,h2⟩
    rw[List.getElem?_append_left (List.getElem?_eq_some_iff.1 h1).1]
    exact h1
 |raw cs=>
  obtain⟨h1,h2,h3,ys,t,h4,h5,h6⟩:=h
  exact⟨h1,h2,h3,ys,t,aB hρ _ _ h4,h5,by rw[hb rfl h1];exact h6⟩
 |vec t xs own=>
  cases own with
  |true=>
   refine⟨h.1,fun hn=>?_⟩
   obtain⟨h1,h2,h3,ys,sp,ty,h4,h5,h6⟩:=h.2 hn
   exact⟨h1,h2,h3,ys,sp,ty,h4,by rw[hb rfl hn];exact h5,h6⟩
  |false=>exact h
 |dfr=>exact⟨h.1,h.2.1,by rw[hb rfl h.1];exact h.2.2⟩
 |iJ es=>exact⟨h.1,h.2.1,by rw[hb rfl h.1];exact h.2.2⟩
 |mark=>exact⟨h.1,h.2.1,by rw[hb rfl h.1];exact h.2.2⟩
 |rcd st id tm=>
  obtain⟨h1,h2,r,h3,h4,h5,h6,h7⟩:=h
  exact⟨h1,h2,r,by rw[hb rfl h1];exact h3,h4,h5,h6.mono hρ,h7⟩
theorem BOk.lt {w0:aN} {w:World} {ρ:List Loc} {l:Loc} {b:Blk (X:=X)} (h:BOk w0 w ρ l b) (ho:b.own=true) (hn:l.nil=false):l.b<w.heap.size:=by
 cases b with
 |dead=>simp[Blk.own]at ho
 |alias k f p=>simp[Blk.own]at ho
 |raw cs=>
  obtain⟨h1,h2,h3,ys,t,h4,h5,h6⟩:=h
  exact(Array.getElem?_eq_some_iff.1 h6).1
 |vec t xs own=>
  cases own with
  |true=>
   obtain⟨h1,h2,h3,ys,sp,ty,h4,h5,h6⟩:=h.2 hn
   exact(Array.getElem?_eq_some_iff.1 h5).1
  |false=>simp[Blk.own]at ho
 |dfr=>exact(Array.getElem?_eq_some_iff.1 h.2.2).1
 |iJ es=>exact(Array.getElem?_eq_some_iff.1 h.2.2).1
 |mark=>exact(Array.getElem?_eq_some_iff.1 h.2.2).1
 |rcd st id tm=>
  obtain⟨h1,h2,r,h3,h4,h5⟩:=h
  exact(Array.getElem?_eq_some_iff.1 h3).1
theorem HR.grow {w0:aN} {w w':World} {ρ:List Loc} {hp:List (Blk (X:=X))} (h:HR w0 ρ hp w) (hb:Below w.heap.size w w'):HR w0 ρ hp w':=by
 refine⟨h.len,h.below.trans (hb.mono h.below.size),fun k b l hk hl=>(h.blk k b l hk hl).ext (List.prefix_refl _) fun ho hn=>hb.block _ ((h.blk k b l hk hl).lt ho hn),h.marks,h.sep,fun p hp=>⟨(hb.block _ (Array.getElem?_eq_some_iff.1 (h.bz p hp).1).1).trans (h.bz p hp).1,(h.bz p hp).2⟩⟩
theorem HR.new {w0:aN} {w w':World} {ρ:List Loc} {hp:List (Blk (X:=X))} {b:Blk (X:=X)} {l:Loc} (h:HR w0 ρ hp w) (hb:Below w.heap.size w w') (hl:b.own=true→l.nil=false→w.heap.size≤l.b) (hok:BOk w0 w' (ρ++[l]) l b) (hmk:l.mark=true→b.eA=true:=by intro h;cases h):HR w0 (ρ++[l]) (hp++[b]) w':=by
 have h':=h.grow hb
 have hlen:=h.len
 have pre:ρ<+:ρ++[l]:=List.prefix_append _ _
 have look:∀(k:Nat) (b':Blk (X:=X)) (l':Loc),(hp++[b])[k]?=some b'→(ρ++[l])[k]?=some l'→(hp[k]?=some b'∧ρ[k]?=some l')∨(k=hp.length∧b'=b∧l'=l):=by
  intro k b' l' hk hl'
  by_cases e:k<hp.length
  ·rw[List.getElem?_append_left e]at hk
   rw[List.getElem?_append_left (by rw[hlen];exact e)]at hl'
   exact .inl ⟨hk,hl'⟩
  ·have e2:k=hp.length:=by
    have:=(List.getElem?_eq_some_iff.1 hk).1
    rw[List.length_append,List.length_singleton]at this
    omega
   subst e2
   rw[List.getElem?_append_right (Nat.le_refl _),Nat.sub_self]at hk
   rw[List.getElem?_append_right (by rw[hlen];exact Nat.le_refl _),hlen,Nat.sub_self]at hl'
   simp only[List.getElem?_cons_zero,B0]at hk hl'
   exact .inr ⟨rfl,hk.symm,hl'.symm⟩
 refine⟨by simp[hlen],h'.below,fun k b' l' hk hl'=>?_,fun k b' l' hk hl'=>?_,fun k k' b1 b2 l1 l2 h1 h2 h3 h4 hne o1 o2 n1 n2=>?_,fun p hp=>⟨(h'.bz p hp).1,fun k b1 l1 h1 h3 o1 n1=>?_⟩⟩
 rotate_left 3
 ·rcases look k b1 l1 h1 h3 with⟨a1,a2⟩|⟨_,rfl,rfl⟩
  ·exact(h.bz p hp).2 k b1 l1 a1 a2 o1 n1
  ·have:=(Array.getElem?_eq_some_iff.1 (h.bz p hp).1).1
   have:=hl o1 n1
   omega
 ·rcases look k b' l' hk hl' with⟨a1,a2⟩|⟨_,rfl,rfl⟩
  ·exact(h'.blk k b' l' a1 a2).ext pre fun _ _=>rfl
  ·exact hok
 ·rcases look k b' l' hk hl' with⟨a1,a2⟩|⟨_,rfl,rfl⟩
  ·exact h.marks k b' l' a1 a2
  ·exact hmk
 ·rcases look k b1 l1 h1 h3 with⟨a1,a2⟩|⟨e1,rfl,rfl⟩
  ·rcases look k' b2 l2 h2 h4 with⟨c1,c2⟩|⟨e2,rfl,rfl⟩
   ·exact h.sep k k' b1 b2 l1 l2 a1 c1 a2 c2 hne o1 o2 n1 n2
   ·have:=(h.blk k b1 l1 a1 a2).lt o1 n1
    have:=hl o2 n2
    omega
  ·rcases look k' b2 l2 h2 h4 with⟨c1,c2⟩|⟨e2,rfl,rfl⟩
   ·have:=(h.blk k' b2 l2 c1 c2).lt o2 n2
    have:=hl o1 n1
    omega
   ·omega
theorem HR.write {w0:aN} {w w':World} {ρ:List Loc} {hp:List (Blk (X:=X))} {b b':Blk (X:=X)} {k:Nat} {l:Loc} (h:HR w0 ρ hp w) (hk:hp[k]?=some b) (hl:ρ[k]?=some l) (ho:b.own=true) (ho':b'.own=true) (hn:l.nil=false) (hge:w0.w.heap.size≤l.b)
  (hos:w'.os=w.os) (hta:w'.tape=w.tape) (hout:w'.output=w.output) (hsz:w'.heap.size=w.heap.size) (hoth:∀j,j≠l.b→w'.heap[j]?=w.heap[j]?) (hok:BOk w0 w' ρ l b') (hm:b.eA=false:=by rfl):HR w0 ρ (hp.set k b') w':=by
 have hlt:k<hp.length:=(List.getElem?_eq_some_iff.1 hk).1
 have look:∀(j:Nat) (c:Blk (X:=X)),(hp.set k b')[j]?=some c→(j≠k∧hp[j]?=some c)∨(j=k∧c=b'):=by
  intro j c hj
  by_cases e:k=j
  ·subst e
   rw[List.getElem?_set_self hlt]at hj
   simp only[B0]at hj
   exact .inr ⟨rfl,hj.symm⟩
  ·rw[List.getElem?_set_ne e]at hj
   exact .inl ⟨fun h=>e h.symm,hj⟩
 refine⟨by simp[h.len],⟨hos.trans h.below.os,hta.trans h.below.tape,hout.trans h.below.output,by rw[hsz];exact h.below.size,fun j hj=>(hoth j (by omega)).trans (h.below.block j hj)⟩,fun j c lj hj hlj=>?_,fun j c lj hj hlj hmj=>?_,fun j j' c c' lj lj' h1 h2 h3 h4 hne o1 o2 n1 n2=>?_,fun p hp=>⟨(hoth _ (fun e=>(h.bz p hp).2 k b l hk hl ho hn e.symm)).trans (h.bz p hp).1,fun j c lj hj hlj oc nc=>?_⟩⟩
 rotate_left 3
 ·rcases look j c hj with⟨hne,hj'⟩|⟨rfl,rfl⟩
  ·exact(h.bz p hp).2 j c lj hj' hlj oc nc
  ·rw[hl]at hlj
   simp only[B0]at hlj
   exact hlj▸(h.bz p hp).2 _ b l hk hl ho hn
 ·rcases look j c hj with⟨hne,hj'⟩|⟨rfl,rfl⟩
  ·refine(h.blk j c lj hj' hlj).ext (List.prefix_refl _) fun oc nc=>hoth _ ?_
   exact h.sep j k c b lj l hj' hk hlj hl hne oc ho nc hn
  ·rw[hl]at hlj
   simp only[B0]at hlj
   exact hlj▸hok
 ·rcases look j c hj with⟨hne,hj'⟩|⟨rfl,rfl⟩
  ·exact h.marks j c lj hj' hlj hmj
  ·have:=h.marks j b lj hk hlj hmj
   rw[hm]at this
   cases this
 ·rcases look j c h1 with⟨d1,e1⟩|⟨rfl,rfl⟩
  ·rcases look j' c' h2 with⟨d2,e2⟩|⟨rfl,rfl⟩
   ·exact h.sep j j' c c' lj lj' e1 e2 h3 h4 hne o1 o2 n1 n2
   ·rw[hl]at h4
    simp only[B0]at h4
    subst h4
    exact h.sep j j' c b lj l e1 hk h3 hl hne o1 ho n1 hn
  ·rcases look j' c' h2 with⟨d2,e2⟩|⟨e3,rfl⟩
   ·rw[hl]at h3
    simp only[B0]at h3
    subst h3
    exact h.sep j j' b c' l lj' hk e2 hl h4 hne ho o2 hn n2
   ·exact absurd e3.symm hne
theorem HR.kill {w0:aN} {w:World} {ρ:List Loc} {hp:List (Blk (X:=X))} {k:Nat} {b:Blk (X:=X)} (h:HR w0 ρ hp w) (hkb:hp[k]?=some b) (hm:b.eA=false):HR w0 ρ (hp.set k .dead) w:=by
 have look:∀(j:Nat) (c:Blk (X:=X)),(hp.set k .dead)[j]?=some c→c.own=true→hp[j]?=some c:=by
  intro j c hj ho
  by_cases e:k=j
  ·subst e
   have:=(List.getElem?_eq_some_iff.1 hj).1
   rw[List.length_set]at this
   rw[List.getElem?_set_self this]at hj
   simp only[B0]at hj
   subst hj
   simp[Blk.own]at ho
  ·rwa[List.getElem?_set_ne e]at hj
 refine⟨by rw[List.length_set];exact h.len,h.below,fun j c lj hj hlj=>?_,fun j c lj hj hlj hmj=>?_,fun j j' c c' lj lj' h1 h2 h3 h4 hne o1 o2 n1 n2=>h.sep j j' c c' lj lj' (look j c h1 o1) (look j' c' h2 o2) h3 h4 hne o1 o2 n1 n2,fun p hp=>⟨(h.bz p hp).1,fun j c lj hj hlj oc nc=>(h.bz p hp).2 j c lj (look j c hj oc) hlj oc nc⟩⟩
 ·by_cases e:k=j
  ·subst e
   have:=(List.getElem?_eq_some_iff.1 hj).1
   rw[List.length_set]at this
   rw[List.getElem?_set_self this]at hj
   simp only[B0]at hj
   subst hj
   trivial
  ·rw[List.getElem?_set_ne e]at hj
   exact h.blk j c lj hj hlj
 ·by_cases e:k=j
  ·subst e
   have:=h.marks k b lj hkb hlj hmj
   rw[hm]at this
   cases this
  ·rw[List.getElem?_set_ne e]at hj
   exact h.marks j c lj hj hlj hmj
theorem HR.move {w0:aN} {w:World} {ρ:List Loc} {hp:List (Blk (X:=X))} {k:Nat} {b:Blk (X:=X)} {l:Loc} (h:HR w0 ρ hp w) (hk:hp[k]?=some b) (hl:ρ[k]?=some l) (hm:b.eA=false):HR w0 (ρ++[l]) (hp.set k .dead++[b]) w:=by
 have hlen:=h.len
 have hkl:k<hp.length:=(List.getElem?_eq_some_iff.1 hk).1
 have pre:ρ<+:ρ++[l]:=List.prefix_append _ _
 have h':=h.kill hk hm
 have look:∀(j:Nat) (b':Blk (X:=X)) (l':Loc),(hp.set k .dead++[b])[j]?=some b'→(ρ++[l])[j]?=some l'→((hp.set k .dead)[j]?=some b'∧ρ[j]?=some l'∧j<hp.length)∨(j=hp.length∧b'=b∧l'=l):=by
  intro j b' l' hj hl'
  by_cases e:j<hp.length
  ·rw[List.getElem?_append_left (by simpa using e)]at hj
   rw[List.getElem?_append_left (by rw[hlen];exact e)]at hl'
   exact .inl ⟨hj,hl',e⟩
  ·have e2:j=hp.length:=by
    have:=(List.getElem?_eq_some_iff.1 hj).1
    rw[List.length_append,List.length_set,List.length_singleton]at this
    omega
   subst e2
   rw[List.getElem?_append_right (by simp),List.length_set,Nat.sub_self]at hj
   rw[List.getElem?_append_right (by rw[hlen];exact Nat.le_refl _),hlen,Nat.sub_self]at hl'
   simp only[List.getElem?_cons_zero,B0]at hj hl'
   exact .inr ⟨rfl,hj.symm,hl'.symm⟩
 have alive:∀(j:Nat) (c:Blk (X:=X)),(hp.set k .dead)[j]?=some c→c.own=true→j≠k∧hp[j]?=some c:=by
  intro j c hj ho
  by_cases e:k=j
  ·subst e
   rw[List.getElem?_set_self hkl]at hj
   simp only[B0]at hj
   subst hj
   simp[Blk.own]at ho
  ·rw[List.getElem?_set_ne e]at hj
   exact⟨fun h=>e h.symm,hj⟩
 refine⟨by simp[hlen],h.below,fun j b' l' hj hl'=>?_,fun j b' l' hj hl'=>?_,fun j j' b1 b2 l1 l2 h1 h2 h3 h4 hne o1 o2 n1 n2=>?_,fun p hp=>⟨(h.bz p hp).1,fun j b1 l1 h1 h3 o1 n1=>?_⟩⟩
 rotate_left 3
 ·rcases look j b1 l1 h1 h3 with⟨a1,a2,_⟩|⟨e1,rfl,rfl⟩
  ·exact(h.bz p hp).2 j b1 l1 (alive j b1 a1 o1).2 a2 o1 n1
  ·exact(h.bz p hp).2 k _ _ hk hl o1 n1
 ·rcases look j b' l' hj hl' with⟨a1,a2,_⟩|⟨_,rfl,rfl⟩
  ·exact(h'.blk j b' l' a1 a2).ext pre fun _ _=>rfl
  ·exact(h.blk k _ _ hk hl).ext pre fun _ _=>rfl
 ·rcases look j b' l' hj hl' with⟨a1,a2,_⟩|⟨_,rfl,rfl⟩
  ·exact h'.marks j b' l' a1 a2
  ·exact h.marks k _ _ hk hl
 ·rcases look j b1 l1 h1 h3 with⟨a1,a2,_⟩|⟨e1,rfl,rfl⟩
  ·obtain⟨x1,x2⟩:=alive j b1 a1 o1
   rcases look j' b2 l2 h2 h4 with⟨c1,c2,_⟩|⟨e2,rfl,rfl⟩
   ·obtain⟨y1,y2⟩:=alive j' b2 c1 o2
    exact h.sep j j' b1 b2 l1 l2 x2 y2 a2 c2 hne o1 o2 n1 n2
   ·exact h.sep j k b1 _ l1 _ x2 hk a2 hl x1 o1 o2 n1 n2
  ·rcases look j' b2 l2 h2 h4 with⟨c1,c2,_⟩|⟨e2,rfl,rfl⟩
   ·obtain⟨y1,y2⟩:=alive j' b2 c1 o2
    exact h.sep k j' _ b2 _ l2 hk y2 hl c2 (fun h=>y1 h.symm) o1 o2 n1 n2
   ·omega
theorem HR.add {w0:aN} {w:World} {ρ:List Loc} {hp:List (Blk (X:=X))} {b:Blk (X:=X)} {l:Loc} (h:HR w0 ρ hp w) (ho:b.own=true→l.nil=true) (hok:BOk w0 w (ρ++[l]) l b) (hmk:l.mark=true→b.eA=true:=by intro h;cases h):HR w0 (ρ++[l]) (hp++[b]) w:=
 h.new (Below.refl _ _) (fun h1 h2=>by rw[ho h1]at h2;cases h2) hok hmk
omit X in
theorem eV {P:Program} {b:Nat} {t:TypeId}:∀(xs:List Value) (w:World) (ys:List Value) (o i:Nat),xs.all Value.oneCell'=true→w.heap[b]?=some (.cells ys.toArray t (0,0))→o+i+xs.length≤ys.length→
  ∃(w':World),(storeCells ⟨b,o,none⟩ xs i).run P w= .ok () w'∧w'.heap[b]?=some (.cells (aC ys (o+i) xs).toArray t (0,0))∧
   w'.os=w.os∧w'.tape=w.tape∧w'.output=w.output∧w'.heap.size=w.heap.size∧∀j,j≠b→w'.heap[j]?=w.heap[j]?
 | [],w,ys,o,i,_,hh,_=>⟨w,by simp[storeCells],hh,rfl,rfl,rfl,rfl,fun _ _=>rfl⟩
 |x::xs,w,ys,o,i,ha,hh,hl=>by
  simp only[List.all_cons,B1]at ha
  simp only[List.length_cons]at hl
  have hcell:w.cell? ⟨b,o+i,none⟩=some (ys[o+i]'(by omega)):=by
   rw[bQ hh]
   simp only[List.getElem?_toArray]
   exact List.getElem?_eq_getElem _
  have hlt:b<w.heap.size:=(Array.getElem?_eq_some_iff.1 hh).1
  have hh1:(w.setCell ⟨b,o+i,none⟩ x).heap[b]?=some (.cells (ys.set (o+i) x).toArray t (0,0)):=by
   simp only[World.setCell,Array.getElem?_modify,if_true,hh,Option.map_some]
   simp
  obtain⟨w',g1,g2,g5,g6,g7,g8,g9⟩:=eV xs (w.setCell ⟨b,o+i,none⟩ x) (ys.set (o+i) x) o (i+1) ha.2 hh1 (by simp;omega)
  refine⟨w',?_,by simpa only[aC,au,Nat.add_assoc]using g2,g5,g6,g7,by rw[g8];simp,fun j hj=>by rw[g9 j hj];exact Below.heap_setCell _ _ _ _ hj⟩
  simp only[storeCells,Sem.run_bind,Addr.add_lit,run_store P w ⟨b,o+i,none⟩ x .plain ha.1,hcell,nL hh,Bool.false_eq_true,if_false,Result.andThen_ok]
  exact g1
def tO (w0:aN) (ρ:List Loc) (hp:List (Blk (X:=X))) (B:Nat):Prop:=(∀(j:Nat) (c:Blk (X:=X)) (lj:Loc),hp[j]?=some c→ρ[j]?=some lj→c.own=true→lj.nil=false→lj.b≠B)∧∀p∈w0.q,p.1≠B
theorem HR.eQ {w0:aN} {w:World} {ρ:List Loc} {hp:List (Blk (X:=X))} {k:Nat} {b:Blk (X:=X)} {l:Loc} (h:HR w0 ρ hp w) (hk:hp[k]?=some b) (hl:ρ[k]?=some l) (ho:b.own=true) (hn:l.nil=false):tO w0 ρ (hp.set k .dead) l.b:=by
 refine⟨fun j c lj hj hlj oc nc=>?_,fun p hp e=>(h.bz p hp).2 k b l hk hl ho hn e.symm⟩
 by_cases e:k=j
 ·subst e
  have:=(List.getElem?_eq_some_iff.1 hj).1
  rw[List.length_set]at this
  rw[List.getElem?_set_self this]at hj
  simp only[B0]at hj
  subst hj
  simp[Blk.own]at oc
 ·rw[List.getElem?_set_ne e]at hj
  exact h.sep j k c b lj l hj hk hlj hl (fun h=>e h.symm) oc ho nc hn
theorem HR.yy {w0:aN} {w w':World} {ρ:List Loc} {hp:List (Blk (X:=X))} {B:Nat} (h:HR w0 ρ hp w) (hB:tO w0 ρ hp B) (hge:w0.w.heap.size≤B)
  (hos:w'.os=w.os) (hta:w'.tape=w.tape) (hout:w'.output=w.output) (hsz:w'.heap.size=w.heap.size) (hoth:∀j,j≠B→w'.heap[j]?=w.heap[j]?):HR w0 ρ hp w':=
 ⟨h.len,⟨hos.trans h.below.os,hta.trans h.below.tape,hout.trans h.below.output,by rw[hsz];exact h.below.size,fun j hj=>(hoth j (by omega)).trans (h.below.block j hj)⟩,
  fun j c lj hj hlj=>(h.blk j c lj hj hlj).ext (List.prefix_refl _) fun oc nc=>hoth _ (hB.1 j c lj hj hlj oc nc),h.marks,h.sep,fun p hp=>⟨(hoth _ (hB.2 p hp)).trans (h.bz p hp).1,(h.bz p hp).2⟩⟩
theorem HR.put {w0:aN} {w:World} {ρ:List Loc} {hp:List (Blk (X:=X))} {b:Blk (X:=X)} {l:Loc} (h:HR w0 ρ hp w) (hl:b.own=true→l.nil=false→tO w0 ρ hp l.b) (hok:BOk w0 w (ρ++[l]) l b) (hmk:l.mark=true→b.eA=true:=by intro h;cases h):HR w0 (ρ++[l]) (hp++[b]) w:=by
 have hlen:=h.len
 have pre:ρ<+:ρ++[l]:=List.prefix_append _ _
 have look:∀(k:Nat) (b':Blk (X:=X)) (l':Loc),(hp++[b])[k]?=some b'→(ρ++[l])[k]?=some l'→(hp[k]?=some b'∧ρ[k]?=some l')∨(k=hp.length∧b'=b∧l'=l):=by
  intro k b' l' hk hl'
  by_cases e:k<hp.length
  ·rw[List.getElem?_append_left e]at hk
   rw[List.getElem?_append_left (by rw[hlen];exact e)]at hl'
   exact .inl ⟨hk,hl'⟩
  ·have e2:k=hp.length:=by
    have:=(List.getElem?_eq_some_iff.1 hk).1
    rw[List.length_append,List.length_singleton]at this
    omega
   subst e2
   rw[List.getElem?_append_right (Nat.le_refl _),Nat.sub_self]at hk
   rw[List.getElem?_append_right (by rw[hlen];exact Nat.le_refl _),hlen,Nat.sub_self]at hl'
   simp only[List.getElem?_cons_zero,B0]at hk hl'
   exact .inr ⟨rfl,hk.symm,hl'.symm⟩
 refine⟨by simp[hlen],h.below,fun k b' l' hk hl'=>?_,fun k b' l' hk hl'=>?_,fun k k' b1 b2 l1 l2 h1 h2 h3 h4 hne o1 o2 n1 n2=>?_,fun p hp=>⟨(h.bz p hp).1,fun k b1 l1 h1 h3 o1 n1=>?_⟩⟩
 rotate_left 3
 ·rcases look k b1 l1 h1 h3 with⟨a1,a2⟩|⟨_,rfl,rfl⟩
  ·exact(h.bz p hp).2 k b1 l1 a1 a2 o1 n1
  ·exact fun e=>(hl o1 n1).2 p hp e.symm
 ·rcases look k b' l' hk hl' with⟨a1,a2⟩|⟨_,rfl,rfl⟩
  ·exact(h.blk k b' l' a1 a2).ext pre fun _ _=>rfl
  ·exact hok
 ·rcases look k b' l' hk hl' with⟨a1,a2⟩|⟨_,rfl,rfl⟩
  ·exact h.marks k b' l' a1 a2
  ·exact hmk
 ·rcases look k b1 l1 h1 h3 with⟨a1,a2⟩|⟨e1,rfl,rfl⟩
  ·rcases look k' b2 l2 h2 h4 with⟨c1,c2⟩|⟨e2,rfl,rfl⟩
   ·exact h.sep k k' b1 b2 l1 l2 a1 c1 a2 c2 hne o1 o2 n1 n2
   ·exact(hl o2 n2).1 k b1 l1 a1 a2 o1 n1
  ·rcases look k' b2 l2 h2 h4 with⟨c1,c2⟩|⟨e2,rfl,rfl⟩
   ·exact fun e=>(hl o1 n1).1 k' b2 l2 c1 c2 o2 n2 e.symm
   ·omega
end
end Go.Proofs.Ytdadgkgkdgnihaa.Px
