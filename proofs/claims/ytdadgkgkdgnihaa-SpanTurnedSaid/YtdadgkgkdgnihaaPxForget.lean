/- At a loop's head: rows that grow get blocks of their own, and what is not kept is forgotten. -/
import Derived.Test.YtdadgkgkdgnihaaPxRegion
set_option linter.unusedVariables false
set_option linter.unusedSimpArgs false
namespace Go.Proofs.Ytdadgkgkdgnihaa.Px
open Go Go.RowKit
def sel {α:Type} (m L:Nat) (l:List α):List α:=l.take m++l.drop L
theorem nh {α:Type} {m L:Nat} {l:List α} (hm:m≤L) (hL:L≤l.length) {k:Nat} (h:k<m):(sel m L l)[k]?=l[k]?:=by
 unfold sel
 rw[List.getElem?_append_left (by rw[List.length_take];omega),List.getElem?_take,if_pos h]
theorem nO {α:Type} {m L:Nat} {l:List α} (hm:m≤L) (hL:L≤l.length) {k:Nat} (h:L≤k):(sel m L l)[m+(k-L)]?=l[k]?:=by
 unfold sel
 have:(l.take m).length=m:=by rw[List.length_take];omega
 rw[List.getElem?_append_right (by omega),this,List.getElem?_drop]
 congr 1
 omega
theorem wx {m L k j:Nat} (h:pc m L k=some j):(k<m∧j=k)∨(m≤k∧L≤k∧j=m+(k-L)):=by
 unfold pc at h
 cases h1:Nat.blt k m with
 |true=>rw[h1]at h;simp only[B4,B0]at h;rw[Nat.blt_eq]at h1;exact .inl ⟨h1,h.symm⟩
 |false=>
  rw[h1,B5]at h
  have h1':¬k<m:=by rw[←Nat.blt_eq,h1];simp
  cases h2:Nat.ble L k with
  |true=>rw[h2]at h;simp only[B4,B0]at h;exact .inr ⟨by omega,Nat.le_of_ble_eq_true h2,h.symm⟩
  |false=>rw[h2]at h;cases h
theorem ei {α:Type} {m L:Nat} {l:List α} (hm:m≤L) (hL:L≤l.length) {k j:Nat} (h:pc m L k=some j):(sel m L l)[j]?=l[k]?:=by
 rcases wx h with⟨h1,rfl⟩|⟨_,h2,rfl⟩
 ·exact nh hm hL h1
 ·exact nO hm hL h2
mutual
theorem od {m L:Nat} {ρ:List Loc} (hm:m≤L) (hL:L≤ρ.length):∀(v v':AV) (x:Value),ren m L v=some v'→ah ρ v=some x→ah (sel m L ρ) v'=some x
 | .int k n,v',x,h,e=>by simp only[ren,B0]at h;subst h;exact e
 | .bool b,v',x,h,e=>by simp only[ren,B0]at h;subst h;exact e
 | .str s,v',x,h,e=>by simp only[ren,B0]at h;subst h;exact e
 | .val v,v',x,h,e=>by simp only[ren,B0]at h;subst h;exact e
 | .ptr k o,v',x,h,e=>by
  simp only[ren,Option.map_eq_some_iff]at h
  obtain⟨j,hj,rfl⟩:=h
  simp only[ah]at e⊢
  rw[ei hm hL hj]
  exact e
 | .pel k i w o,v',x,h,e=>by
  simp only[ren,Option.map_eq_some_iff]at h
  obtain⟨j,hj,rfl⟩:=h
  simp only[ah]at e⊢
  rw[ei hm hL hj]
  exact e
 | .sl k i w n c,v',x,h,e=>by
  simp only[ren,Option.map_eq_some_iff]at h
  obtain⟨j,hj,rfl⟩:=h
  simp only[ah]at e⊢
  rw[ei hm hL hj]
  exact e
 | .fn f a c,v',x,h,e=>by
  simp only[ren]at h
  split at h
  ·rename_i a' c' ha hc
   simp only[B0]at h
   subst h
   simp only[ah,Option.bind_eq_some_iff]at e⊢
   obtain⟨y,hy,z,hz,e⟩:=e
   exact⟨y,eP hm hL a a' y ha hy,z,eP hm hL c c' z hc hz,e⟩
  ·cases h
 | .agg cs,v',x,h,e=>by
  simp only[ren,Option.map_eq_some_iff]at h
  obtain⟨cs',hc,rfl⟩:=h
  simp only[ah,Option.bind_eq_some_iff]at e⊢
  obtain⟨y,hy,e⟩:=e
  exact⟨y,eP hm hL cs cs' y hc hy,e⟩
 | .tup cs,v',x,h,e=>by
  simp only[ren,Option.map_eq_some_iff]at h
  obtain⟨cs',hc,rfl⟩:=h
  simp only[ah,Option.bind_eq_some_iff]at e⊢
  obtain⟨y,hy,e⟩:=e
  exact⟨y,eP hm hL cs cs' y hc hy,e⟩
 | .ifc t v,v',x,h,e=>by
  simp only[ren,Option.map_eq_some_iff]at h
  obtain⟨u,hu,rfl⟩:=h
  simp only[ah,Option.bind_eq_some_iff]at e⊢
  obtain⟨y,hy,e⟩:=e
  exact⟨y,od hm hL v u y hu hy,e⟩
 | .yld k,v',x,h,e=>by
  simp only[ren,Option.map_eq_some_iff]at h
  obtain⟨j,hj,rfl⟩:=h
  simp only[ah]at e⊢
  rw[ei hm hL hj]
  exact e
 | .mp k,v',x,h,e=>by
  simp only[ren,Option.map_eq_some_iff]at h
  obtain⟨j,hj,rfl⟩:=h
  simp only[ah]at e⊢
  rw[ei hm hL hj]
  exact e
 | .cut k i w lo n,v',x,h,e=>by
  simp only[ren,Option.map_eq_some_iff]at h
  obtain⟨j,hj,rfl⟩:=h
  simp only[ah]at e⊢
  rw[ei hm hL hj]
  exact e
theorem eP {m L:Nat} {ρ:List Loc} (hm:m≤L) (hL:L≤ρ.length):∀(l l':List AV) (xs:List Value),qA m L l=some l'→ab ρ l=some xs→ab (sel m L ρ) l'=some xs
 | [],l',xs,h,e=>by simp only[qA,B0]at h;subst h;exact e
 |v::l,l',xs,h,e=>by
  simp only[qA]at h
  split at h
  ·rename_i v' m' hv hl
   simp only[B0]at h
   subst h
   simp only[ab,Option.bind_eq_some_iff]at e⊢
   obtain⟨y,hy,z,hz,e⟩:=e
   exact⟨y,od hm hL v v' y hv hy,z,eP hm hL l m' z hl hz,e⟩
  ·cases h
end
theorem jO {m L:Nat}:∀{l l':List Slot},ff m L l=some l'→l'.length=l.length∧∀(i:Nat) (s':Slot),l'[i]?=some s'→∃s,l[i]?=some s∧jh m L s=some s'
 | [],l',h=>by simp only[ff,B0]at h;subst h;exact⟨rfl,fun i s' hi=>by simp at hi⟩
 |x::l,l',h=>by
  simp only[ff]at h
  split at h
  ·rename_i x' m' hx hl
   simp only[B0]at h
   subst h
   obtain⟨h1,h2⟩:=jO hl
   refine⟨by simp[h1],fun i s' hi=>?_⟩
   cases i with
   |zero=>simp only[List.getElem?_cons_zero,B0]at hi;subst hi;exact⟨x,rfl,hx⟩
   |succ i=>simp only[List.getElem?_cons_succ]at hi⊢;exact h2 i s' hi
  ·cases h
theorem FR.ren {m L:Nat} {ρ:List Loc} {tm tm':List Slot} {a:Act} (hm:m≤L) (hL:L≤ρ.length) (hf:FR ρ tm a) (h:ff m L tm=some tm') (hd:Put (sel m L ρ) a.defers):FR (sel m L ρ) tm' a∧ae tm':=by
 obtain⟨t1,t2⟩:=jO h
 refine⟨⟨by rw[t1];exact hf.size,fun i sl hi=>?_,hd⟩,fun i sl hi=>?_⟩
 ·obtain⟨s0,u1,u2⟩:=t2 i sl hi
  have:=hf.at_ i s0 u1
  cases s0 with
  |any=>simp only[jh,B0]at u2;subst u2;trivial
  |is v=>
   simp only[jh,Option.map_eq_some_iff]at u2
   obtain⟨v',hv,rfl⟩:=u2
   exact od hm hL v v' _ hv this
  |opt ds v=>cases u2
 ·obtain⟨s0,u1,u2⟩:=t2 i sl hi
  cases s0 with
  |any=>simp only[jh,B0]at u2;subst u2;rfl
  |is v=>
   simp only[jh,Option.map_eq_some_iff]at u2
   obtain⟨v',hv,rfl⟩:=u2
   rfl
  |opt ds v=>cases u2
section
variable [X:aS] {w0:aN} {w:World} {ρ:List Loc} {hp:List (Blk (X:=X))} {a:Act}
theorem eK:∀{l:List (Blk (X:=X))},ba l=true→∀(k:Nat) (b:Blk (X:=X)),l[k]?=some b→b.eA=false
 | [],_,k,b,h=>by simp at h
 |x::l,hn,k,b,h=>by
  have h1:x.eA=false∧ba l=true:=by
   cases x<;>simp only[ba,reduceCtorEq]at hn<;>exact⟨rfl,hn⟩
  cases k with
  |zero=>simp only[List.getElem?_cons_zero,B0]at h;subst h;exact h1.1
  |succ k=>exact eK h1.2 k b (by simpa using h)
theorem kT {m L:Nat}:∀{l l':List (Blk (X:=X))},fJ m L l=some l'→l'.length=l.length∧∀(i:Nat) (s':Blk (X:=X)),l'[i]?=some s'→∃s,l[i]?=some s∧dO m L s=some s'
 | [],l',h=>by simp only[fJ,B0]at h;subst h;exact⟨rfl,fun i s' hi=>by simp at hi⟩
 |x::l,l',h=>by
  simp only[fJ]at h
  split at h
  ·rename_i x' m' hx hl
   simp only[B0]at h
   subst h
   obtain⟨h1,h2⟩:=kT hl
   refine⟨by simp[h1],fun i s' hi=>?_⟩
   cases i with
   |zero=>simp only[List.getElem?_cons_zero,B0]at hi;subst hi;exact⟨x,rfl,hx⟩
   |succ i=>simp only[List.getElem?_cons_succ]at hi⊢;exact h2 i s' hi
  ·cases h
theorem BOk.ren {m L:Nat} (hm:m≤L) (hL:L≤ρ.length) {l:Loc} {b b':Blk (X:=X)} (h:BOk w0 w ρ l b) (hb:dO m L b=some b'):BOk w0 w (sel m L ρ) l b'∧b'.own=b.own∧b'.eA=b.eA:=by
 cases b with
 |dead=>simp only[dO,B0]at hb;subst hb;exact⟨trivial,rfl,rfl⟩
 |dfr=>simp only[dO,B0]at hb;subst hb;exact⟨h,rfl,rfl⟩
 |mark=>simp only[dO,B0]at hb;subst hb;exact⟨h,rfl,rfl⟩
 |iJ es=>simp only[dO,B0]at hb;subst hb;exact⟨h,rfl,rfl⟩
 |rcd st id tm=>
  simp only[dO,Option.map_eq_some_iff]at hb
  obtain⟨tm',ht,rfl⟩:=hb
  obtain⟨h1,h2,r,h3,h4,h5,h6,h7⟩:=h
  obtain⟨g1,g2⟩:=FR.ren hm hL h6 ht (.inl rfl)
  exact⟨⟨h1,h2,r,h3,h4,h5,g1,g2⟩,rfl,rfl⟩
 |raw cs=>
  simp only[dO,Option.map_eq_some_iff]at hb
  obtain⟨cs',hc,rfl⟩:=hb
  obtain⟨h1,h2,h3,ys,t,h4,h5,h6⟩:=h
  exact⟨⟨h1,h2,h3,ys,t,eP hm hL cs cs' ys hc h4,h5,h6⟩,rfl,rfl⟩
 |vec t xs o=>
  simp only[dO,B0]at hb
  subst hb
  cases o<;>exact⟨h,rfl,rfl⟩
 |alias k f p=>
  simp only[dO,Option.map_eq_some_iff]at hb
  obtain⟨j,hj,rfl⟩:=hb
  refine⟨?_,rfl,rfl⟩
  cases p with
  |true=>
   have h1:ρ[k]?=some l:=h
   show(Go.Proofs.Ytdadgkgkdgnihaa.Px.sel m L ρ)[j]?=some l
   rw[ei hm hL hj]
   exact h1
  |false=>
   rcases h with h|⟨h0,l',h1,h2⟩
   ·exact .inl h
   ·exact .inr ⟨h0,l',by rw[ei hm hL hj];exact h1,h2⟩
theorem HR.sel {m L:Nat} (h:HR w0 ρ hp w) (hm:m≤L) (hL:L≤ρ.length) {hp':List (Blk (X:=X))} (hb:fJ m L (takeN m hp++fH L hp)=some hp'):HR w0 (sel m L ρ) hp' w:=by
 obtain⟨h1,h2⟩:=kT hb
 rw[cT,cN]at h1 h2
 have hlen:=h.len
 have back:∀(j:Nat) (b:Blk (X:=X)) (l:Loc),hp'[j]?=some b→(Go.Proofs.Ytdadgkgkdgnihaa.Px.sel m L ρ)[j]?=some l→∃k b0,hp[k]?=some b0∧ρ[k]?=some l∧dO m L b0=some b∧((k<m∧j=k)∨(L≤k∧j=m+(k-L))):=by
  intro j b l hj hl
  obtain⟨b0,e1,e2⟩:=h2 j b hj
  have e1:(Go.Proofs.Ytdadgkgkdgnihaa.Px.sel m L hp)[j]?=some b0:=e1
  by_cases hjm:j<m
  ·rw[nh hm (by omega) hjm]at e1
   rw[nh hm hL hjm]at hl
   exact⟨j,b0,e1,hl,e2, .inl ⟨hjm,rfl⟩⟩
  ·have hk:j=m+((L+(j-m))-L):=by omega
   rw[hk]at e1 hl
   rw[nO hm (by omega) (by omega)]at e1
   rw[nO hm hL (by omega)]at hl
   exact⟨L+(j-m),b0,e1,hl,e2, .inr ⟨by omega,hk⟩⟩
 refine⟨?_,h.below,fun j b l hj hl=>?_,fun j b l hj hl hmj=>?_,fun j j' b b' l l' hj hj' hl hl' hne o1 o2 n1 n2=>?_,fun p hp=>⟨(h.bz p hp).1,fun j b l hj hl ho hn=>?_⟩⟩
 rotate_left 4
 ·obtain⟨k,b0,e1,e2,e3,_⟩:=back j b l hj hl
  exact(h.bz p hp).2 k b0 l e1 e2 (by rw[←((h.blk k b0 l e1 e2).ren hm hL e3).2.1];exact ho) hn
 ·rw[h1]
  simp only[Go.Proofs.Ytdadgkgkdgnihaa.Px.sel,List.length_append,List.length_take,List.length_drop,hlen]
 ·obtain⟨k,b0,e1,e2,e3,_⟩:=back j b l hj hl
  exact((h.blk k b0 l e1 e2).ren hm hL e3).1
 ·obtain⟨k,b0,e1,e2,e3,_⟩:=back j b l hj hl
  rw[((h.blk k b0 l e1 e2).ren hm hL e3).2.2]
  exact h.marks k b0 l e1 e2 hmj
 ·obtain⟨k,b0,e1,e2,e3,e4⟩:=back j b l hj hl
  obtain⟨k',b0',e1',e2',e3',e4'⟩:=back j' b' l' hj' hl'
  have p1:=((h.blk k b0 l e1 e2).ren hm hL e3).2.1
  have p2:=((h.blk k' b0' l' e1' e2').ren hm hL e3').2.1
  exact h.sep k k' b0 b0' l l' e1 e1' e2 e2' (by omega) (by rw[←p1];exact o1) (by rw[←p2];exact o2) n1 n2
theorem oG {s:St (X:=X)} {pl:Place} {v v':AV} (hg:ph s pl=some v) (hv:∀x,ah ρ v=some x→ah ρ v'=some x) (hf:FR ρ s.tm a) (hr:HR w0 ρ s.hp w) (hn:ae s.tm):
  FR ρ (pn s v' pl).tm a∧HR w0 ρ (pn s v' pl).hp w∧ae (pn s v' pl).tm:=by
 cases pl with
 |slot t=>
  simp only[ph,ak]at hg
  split at hg
  ·rename_i u hu
   simp only[B0]at hg
   subst hg
   simp only[pn,au]
   refine⟨⟨by rw[List.length_set];exact hf.size,fun i sl hi=>?_,hf.defers⟩,hr,eS hn rfl⟩
   by_cases e:t=i
   ·subst e
    rw[List.getElem?_set_self (by have:=(List.getElem?_eq_some_iff.1 hi).1;simpa using this)]at hi
    simp only[B0]at hi
    subst hi
    exact hv _ (hf.at_ t _ hu)
   ·rw[List.getElem?_set_ne e]at hi
    have:=hf.at_ i sl hi
    cases sl with
    |any=>trivial
    |is u=>exact this
    |opt cs u=>have:=hn i _ hi;simp[Slot.gh]at this
  ·cases hg
 |cell k o=>
  simp only[ph,ak]at hg
  split at hg
  ·rename_i cs hk
   simp only[pn,ak,hk,au]
   refine⟨hf,?_,hn⟩
   have hkl:=(List.getElem?_eq_some_iff.1 hk).1
   have look:∀(j:Nat) (c:Blk (X:=X)),(s.hp.set k (.raw (cs.set o v')))[j]?=some c→(j≠k∧s.hp[j]?=some c)∨(j=k∧c= .raw (cs.set o v')):=by
    intro j c hj
    by_cases e:k=j
    ·subst e
     rw[List.getElem?_set_self hkl]at hj
     simp only[B0]at hj
     exact .inr ⟨rfl,hj.symm⟩
    ·rw[List.getElem?_set_ne e]at hj
     exact .inl ⟨fun h=>e h.symm,hj⟩
   refine⟨by rw[List.length_set];exact hr.len,hr.below,fun j c l hj hl=>?_,fun j c l hj hl hmj=>?_,fun j j' c c' l l' hj hj' hl hl' hne o1 o2 n1 n2=>?_,fun p hp=>⟨(hr.bz p hp).1,fun j c l hj hl ho hn=>?_⟩⟩
   rotate_left 3
   ·rcases look j c hj with⟨_,e⟩|⟨rfl,rfl⟩
    ·exact(hr.bz p hp).2 j c l e hl ho hn
    ·exact(hr.bz p hp).2 j _ l hk hl rfl hn
   ·rcases look j c hj with⟨_,e⟩|⟨rfl,rfl⟩
    ·exact hr.blk j c l e hl
    ·obtain⟨h1,h2,h3,ys,t,h4,h5,h6⟩:=hr.blk j _ l hk hl
     obtain⟨y,hy1,hy2⟩:=eR h4 hg
     have:=pD o h4 (hv y hy2)
     refine⟨h1,h2,h3,ys,t,?_,h5,h6⟩
     rw[this]
     congr 1
     apply List.ext_getElem?
     intro i
     by_cases e:o=i
     ·subst e
      rw[List.getElem?_set_self (List.getElem?_eq_some_iff.1 hy1).1,hy1]
     ·rw[List.getElem?_set_ne e]
   ·rcases look j c hj with⟨_,e⟩|⟨rfl,rfl⟩
    ·exact hr.marks j c l e hl hmj
    ·have:=hr.marks j _ l hk hl hmj
     cases this
   ·have un:∀(j:Nat) (c:Blk (X:=X)),(s.hp.set k (.raw (cs.set o v')))[j]?=some c→∃c0,s.hp[j]?=some c0∧(c.own=true→c0.own=true):=by
     intro j c hj
     rcases look j c hj with⟨_,e⟩|⟨rfl,rfl⟩
     ·exact⟨c,e,id⟩
     ·exact⟨_,hk,fun _=>rfl⟩
    obtain⟨c0,e1,e2⟩:=un j c hj
    obtain⟨c0',e1',e2'⟩:=un j' c' hj'
    exact hr.sep j j' c0 c0' l l' e1 e1' hl hl' hne (e2 o1) (e2' o2) n1 n2
  ·cases hg
theorem pP {s:St (X:=X)} {pl:Place} {v v':AV} {b:Blk (X:=X)} (hg:ph s pl=some v):sD (pn s v' pl) b=pn (sD s b) v' pl∧ph (sD s b) pl=some v:=by
 cases pl with
 |slot t=>exact⟨rfl,hg⟩
 |cell k o=>
  simp only[ph,ak]at hg
  split at hg
  ·rename_i cs hk
   have hkl:=(List.getElem?_eq_some_iff.1 hk).1
   have e:(s.hp++[b])[k]?=some (.raw cs):=by rw[List.getElem?_append_left hkl];exact hk
   refine⟨?_,?_⟩
   ·simp only[sD,pn,ak,hk,e,au,List.set_append_left _ _ hkl]
   ·simp only[sD,ph,ak,e];exact hg
  ·cases hg
theorem sw {s s':St (X:=X)} {pl:Place} {el:X.El} (h:xD pl el s=some (true,s')) (hf:FR ρ s.tm a) (hr:HR w0 ρ s.hp w) (hn:ae s.tm):∃l,FR (ρ++[l]) s'.tm a∧HR w0 (ρ++[l]) s'.hp w∧ae s'.tm:=by
 have hlast:∀l:Loc,(ρ++[l])[s.hp.length]?=some l:=fun l=>by rw[List.getElem?_append_right (by rw[hr.len];exact Nat.le_refl _),hr.len,Nat.sub_self];rfl
 unfold xD at h
 split at h
 ·rename_i hg
  simp only[B0,Prod.mk.injEq,true_and]at h
  subst h
  obtain⟨e1,e2⟩:=pP (b:= .vec el [] true) (v':= .sl s.hp.length 0 (X.width el) 0 none) hg
  rw[e1]
  have hr':HR w0 (ρ++[⟨0,0,0,true,none,false⟩]) (sD s (.vec el [] true)).hp w:=hr.add (fun _=>rfl) ⟨fun _=>⟨rfl,rfl⟩,(fun h=>by cases h)⟩
  refine⟨⟨0,0,0,true,none,false⟩,oG e2 (fun x hx=>?_) (hf.mono (List.prefix_append _ _)) hr' hn⟩
  simp only[ah,Value.oneCell',if_true,B0]at hx
  subst hx
  exact aK.2 ⟨_,hlast _, .inl ⟨rfl,rfl,rfl⟩⟩
 ·rename_i k wd n hg
  rw[ak]at h
  split at h
  ·rename_i t xs hk
   split at h
   ·rename_i e he
    subst e
    dsimp only at h
    cases hw:Nat.beq wd (X.width t)with
    |false=>rw[hw]at h;cases h
    |true=>
     rw[hw]at h
     simp only[B4,B0,Prod.mk.injEq,au]at h
     obtain⟨h1,rfl⟩:=h
     have h1:=B2 h1
     subst h1
     have hkl:=(List.getElem?_eq_some_iff.1 hk).1
     obtain⟨l,hl⟩:∃l,ρ[k]?=some l:=⟨ρ[k]'(by rw[hr.len];exact hkl),List.getElem?_eq_getElem _⟩
     have hg':ph {s with hp:=s.hp.set k .dead} pl=some (.sl k 0 wd xs.length none):=by
      cases pl with
      |slot t=>exact hg
      |cell kc o=>
       simp only[ph,ak]at hg⊢
       split at hg
       ·rename_i cs hkc
        have:k≠kc:=fun e=>by subst e;rw[hk]at hkc;cases hkc
        rw[List.getElem?_set_ne this,hkc]
        exact hg
       ·cases hg
     obtain⟨e1,e2⟩:=pP (b:= .vec t xs true) (v':= .sl s.hp.length 0 wd xs.length none) hg'
     rw[e1]
     refine⟨l,oG e2 (fun x hx=>?_) (hf.mono (List.prefix_append _ _)) (hr.move hk hl rfl) hn⟩
     obtain⟨l',hl',hx⟩:=aK.1 hx
     rw[List.getElem?_append_left (by rw[hr.len];exact hkl),hl]at hl'
     simp only[B0]at hl'
     subst hl'
     exact aK.2 ⟨_,hlast _,hx⟩
   ·cases h
  ·cases h
 ·cases h
theorem mF:∀{l:List (Place×X.El)} {s s':St (X:=X)} {ρ:List Loc},sz l s=some (true,s')→FR ρ s.tm a→HR w0 ρ s.hp w→ae s.tm→∃ls,FR (ρ++ls) s'.tm a∧HR w0 (ρ++ls) s'.hp w∧ae s'.tm
 | [],s,s',ρ,h,hf,hr,hn=>by
  simp only[sz,B0,Prod.mk.injEq,true_and]at h
  subst h
  exact⟨[],by rw[List.append_nil];exact hf,by rw[List.append_nil];exact hr,hn⟩
 |(pl,el)::l,s,s',ρ,h,hf,hr,hn=>by
  simp only[sz]at h
  split at h
  ·rename_i ok s1 h1
   split at h
   ·rename_i ok' s2 h2
    simp only[B0,Prod.mk.injEq,B1]at h
    obtain⟨⟨rfl,rfl⟩,rfl⟩:=h
    obtain⟨l1,a1,a2,a3⟩:=sw h1 hf hr hn
    obtain⟨ls,b1,b2,b3⟩:=mF h2 a1 a2 a3
    exact⟨l1::ls,by rw[List.append_assoc]at b1;exact b1,by rw[List.append_assoc]at b2;exact b2,b3⟩
   ·cases h
  ·cases h
omit X in
theorem dY (keep:List Nat):∀(i:Nat) (l:List Slot),(cK keep i l).length=l.length
 |_,[]=>rfl
 |i,x::l=>by simp[cK,dY keep (i+1) l]
omit X in
theorem cY (keep:List Nat):∀(i:Nat) (l:List Slot) (j:Nat) (s:Slot),(cK keep i l)[j]?=some s→s= .any∨l[j]?=some s
 |_,[],j,s,h=>by simp[cK]at h
 |i,x::l,0,s,h=>by
  simp only[cK,List.getElem?_cons_zero,B0]at h
  cases hb:Ac i keep with
  |true=>rw[hb,B4]at h;exact .inr (by simp[h])
  |false=>rw[hb,B5]at h;exact .inl h.symm
 |i,x::l,j+1,s,h=>by
  simp only[cK,List.getElem?_cons_succ]at h⊢
  exact cY keep (i+1) l j s h
theorem gA {sp:bj (X:=X)} {s s':St (X:=X)} (h:forget sp s=some (true,s')) (hf:FR ρ s.tm a) (hr:HR w0 ρ s.hp w) (hn:ae s.tm):
  sp.m≤ρ.length∧∃ρ',ρ.take sp.m<+:ρ'∧FR ρ' s'.tm a∧HR w0 ρ' s'.hp w∧ae s'.tm:=by
 unfold forget at h
 cases hmb:and (Nat.ble sp.m s.hp.length) (ba (fH sp.m s.hp))with
 |false=>rw[hmb]at h;cases h
 |true=>
  rw[hmb,B4]at h
  simp only[B1]at hmb
  obtain⟨hm,hnm⟩:=hmb
  have hm:=Nat.le_of_ble_eq_true hm
  rw[←hr.len]at hm h
  refine⟨hm,?_⟩
  have hf0:FR ρ (cK sp.keep 0 s.tm) a:=by
   refine⟨by rw[dY];exact hf.size,fun i sl hi=>?_,hf.defers⟩
   rcases cY sp.keep 0 s.tm i sl hi with rfl|hs
   ·trivial
   ·have:=hf.at_ i sl hs
    cases sl with
    |any=>trivial
    |is v=>exact this
    |opt ds v=>have:=hn i _ hs;simp[Slot.gh]at this
  have hn0:ae (cK sp.keep 0 s.tm):=by
   intro i sl hi
   rcases cY sp.keep 0 s.tm i sl hi with rfl|hs
   ·rfl
   ·exact hn i sl hs
  split at h
  ·rename_i ok s1 h1
   split at h
   ·rename_i tm hp htm hhp
    simp only[B0,Prod.mk.injEq]at h
    obtain⟨rfl,rfl⟩:=h
    obtain⟨ls,a1,a2,a3⟩:=mF h1 hf0 hr hn0
    have hL:ρ.length≤(ρ++ls).length:=by simp
    have hput:Put (sel sp.m ρ.length (ρ++ls)) a.defers:=by
     rcases hf.defers with h0|⟨k,l,k1,k2,k3⟩
     ·exact .inl h0
     ·refine .inr ⟨k,l,?_,k2,k3⟩
      have hk:k<ρ.length:=(List.getElem?_eq_some_iff.1 k1).1
      have hkl:k<s.hp.length:=by rw[←hr.len];exact hk
      have hkm:k<sp.m:=by
       refine Nat.lt_of_not_le fun hle=>?_
       have hb:=List.getElem?_eq_getElem hkl
       have:=hr.marks k _ l hb k1 k2
       have h2:=eK hnm (k-sp.m) s.hp[k] (by rw[cN,List.getElem?_drop,show sp.m+(k-sp.m)=k by omega];exact hb)
       rw[this]at h2
       cases h2
      rw[nh hm hL hkm,List.getElem?_append_left hk]
      exact k1
    refine⟨sel sp.m ρ.length (ρ++ls),?_,?_,a2.sel hm hL hhp,?_⟩
    ·unfold sel
     rw[List.take_append_of_le_length hm]
     exact List.prefix_append _ _
    ·exact(FR.ren hm hL a1 htm hput).1
    ·exact(FR.ren hm hL a1 htm hput).2
   ·cases h
  ·cases h
end
end Go.Proofs.Ytdadgkgkdgnihaa.Px
