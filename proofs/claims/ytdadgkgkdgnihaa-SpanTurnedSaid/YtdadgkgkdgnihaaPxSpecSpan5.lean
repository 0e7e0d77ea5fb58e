/- One span that is weightier than all, as plain functions. -/
import Derived.Test.YtdadgkgkdgnihaaPxSpecSpan4
import Derived.Test.YtdadgkgkdgnihaaPxSpecGreg
set_option linter.unusedVariables false
set_option linter.unusedSimpArgs false
namespace Go.Proofs.Ytdadgkgkdgnihaa.Px
open Go
def dc (l:List Span) (m:Span):Span:=⟨m.from_,m.to_,m.mode,IntKind.wrap .i64 (ig l 0+1)⟩
def fm (l:List Span):List Span×Int:=aM l
def aP (l:List Span) (m:Span):List Span×Int:=aM (l++[dc l m])
def cc (l:List Span) (m:Span):List Span×Int:=aM ([dc l m]++l)
def cb (l:List Span) (m:Span):List Span:=bP (aP l m).1 m.from_ m.to_
def gZ (l:List Span) (m:Span):List Span:=bP (aP l m).1 (-9223372036854775808) m.from_
def lG (l:List Span) (m:Span):List Span:=bP (fm l).1 (-9223372036854775808) m.from_
theorem uP:∀(l:List Span) (n:Int),n≤ig l n∧∀s∈l,s.prio≤ig l n
 | [],n=>⟨Int.le_refl _,fun s h=>by cases h⟩
 |x::l,n=>by
  unfold ig
  obtain⟨h1,h2⟩:=uP l (cond (decide (x.prio>n)) x.prio n)
  have h3:n≤cond (decide (x.prio>n)) x.prio n∧x.prio≤cond (decide (x.prio>n)) x.prio n:=by
   by_cases h:x.prio>n
   ·rw[decide_eq_true h,B4];omega
   ·rw[decide_eq_false h,B5];omega
  refine⟨by omega,fun s hs=>?_⟩
  rcases List.mem_cons.1 hs with rfl|hs
  ·omega
  ·exact h2 s hs
theorem r9 {b:Int}:∀(l:List Span) (n:Int),n≤b→(∀s∈l,s.prio≤b)→ig l n≤b
 | [],n,h,_=>h
 |x::l,n,h,hl=>by
  unfold ig
  refine r9 l _ ?_ (fun s hs=>hl s (List.mem_cons_of_mem _ hs))
  by_cases h2:x.prio>n
  ·rw[decide_eq_true h2,B4];exact hl x List.mem_cons_self
  ·rw[decide_eq_false h2,B5];exact h
theorem pe (l:List Span):(aO l).length=l.length:=by unfold aO;rw[List.length_map]
theorem sW {l:List Span} {m:Span} (hl:l.length≤60) (hp:∀s∈l,s.prio≤9223372036854775807) (h0:(fm l).2=0) (ht:ig l 0≠9223372036854775807) (hm:m.from_<m.to_):
  aP l m=(aU (l++[dc l m]),0)∧cc l m=(aU (l++[dc l m]),0)∧cb l m=[⟨m.from_,m.to_,m.mode,0⟩]∧gZ l m=lG l m∧(aP l m).1.length≤1000∧(fm l).1.length≤1000∧(gZ l m).length≤1000:=by
 obtain⟨hmay,hown⟩:=ya (l:=l) h0
 have ho:fm l=(aU l,0):=hown
 have h1:=uP l 0
 have h2:=r9 (b:=9223372036854775807) l 0 (by omega) hp
 have hpr:(dc l m).prio=ig l 0+1:=wrI (by omega)
 have bc:∀s∈l,s.prio<(dc l m).prio:=fun s hs=>by have:=h1.2 s hs;omega
 have hmm:(dc l m).from_<(dc l m).to_:=hm
 have hma:∀k:List Span,(∀s,s∈k↔s∈l∨s=dc l m)→k.length≤61→kK k=true:=by
  intro k hk hlen
  simp only[kK,B1,List.all_eq_true,B3]at hmay⊢
  refine⟨fun s hs=>?_,by omega⟩
  rcases(hk s).1 hs with h|rfl
  ·exact hmay.1 s h
  ·simp only[dF,Bool.not_eq_true',decide_eq_false_iff_not];omega
 have e1:aP l m=(aU (l++[dc l m]),0):=by
  unfold aP aM
  rw[hma (l++[dc l m]) (fun s=>by simp) (by rw[List.length_append,List.length_singleton];omega)]
  rfl
 have e2:cc l m=(aU (l++[dc l m]),0):=by
  unfold cc aM
  rw[hma ([dc l m]++l) (fun s=>by simp[or_comm]) (by rw[List.length_append,List.length_singleton];omega),se bc]
  rfl
 have r1:=gV (l++[dc l m])
 have r2:=gV l
 rw[List.length_append,List.length_singleton]at r1
 have e3:gZ l m=lG l m:=by
  unfold gZ lG
  rw[e1,ho]
  exact qe (m:=dc l m) bc _
 refine⟨e1,e2,?_,e3,by rw[e1];show(aU _).length≤_;omega,by rw[ho];show(aU _).length≤_;omega,?_⟩
 ·unfold cb
  rw[e1]
  exact tD (m:=dc l m) bc hmm
 ·have:=ml (aP l m).1 (-9223372036854775808) m.from_
  rw[e1]at this
  unfold gZ
  rw[e1]
  show(bP (aU _) _ _).length≤_
  simp only at this
  omega
end Go.Proofs.Ytdadgkgkdgnihaa.Px
