/- From what the evaluator says of a law to what the law's row asks. -/
import Derived.Test.YtdadgkgkdgnihaaPxArgs
set_option linter.unusedVariables false
set_option linter.unusedSimpArgs false
namespace Go.Proofs.Ytdadgkgkdgnihaa.Px
open Go Go.RowKit Go.ChangeShapes Go.WideShapes Go.Deep
section
variable [X:aS]
def mkC:Nat→List (DV (X:=X))→List AV×List (Blk (X:=X))
 |_,[]=>([],[])
 |n, .int k v::l=>(.int k v::(mkC n l).1,(mkC n l).2)
 |n, .bool b::l=>(.bool b::(mkC n l).1,(mkC n l).2)
 |n, .sl el xs::l=>(.sl n 0 (X.width el) xs.length none::(mkC (n+1) l).1, .vec el xs false::(mkC (n+1) l).2)
abbrev Arg [X:aS]:=Bool×List (DV (X:=X))
def mkV (agg:Bool) (cs:List AV):AV:=match agg,cs with
 |true,cs=> .agg cs
 |false,[c]=>c
 |false,cs=> .agg cs
def mkA:Nat→List Arg→List AV×List (Blk (X:=X))
 |_,[]=>([],[])
 |n,(g,ds)::l=>(mkV g (mkC n ds).1::(mkA (n+(mkC n ds).2.length) l).1,(mkC n ds).2++(mkA (n+(mkC n ds).2.length) l).2)
def uL (w:World) (g:Bool) (ks:List (LS (X:=X))) (ds:List (DV (X:=X))) (v:Value):Prop:=
 match g with
 |true=>∃cs:List Value,v= .agg cs.toArray∧Leaves w ks ds cs
 |false=>∃k d,ks=[k]∧ds=[d]∧vr w k d v
inductive km (w:World):List (Bool×List (LS (X:=X)))→List Arg→List Value→Prop where
 |nil:km w [] [] []
 |cons {g:Bool} {ks:List (LS (X:=X))} {ds:List (DV (X:=X))} {v:Value} {kss:List (Bool×List (LS (X:=X)))} {as:List Arg} {vs:List Value} (h:uL w g ks ds v) (t:km w kss as vs):km w ((g,ks)::kss) ((g,ds)::as) (v::vs)
def Seen (w:World) (bs:List (Blk (X:=X))) (ls:List Loc):Prop:=ls.length=bs.length∧∀(i:Nat) (b:Blk (X:=X)) (l:Loc),bs[i]?=some b→ls[i]?=some l→(b.own=false∧l.mark=false)∧∀ρ,BOk (bare w) w ρ l b
theorem Seen.nil {w:World}:Seen w ([]:List (Blk (X:=X))) []:=⟨rfl,fun i b l h=>by simp at h⟩
theorem Seen.append {w:World} {bs bs':List (Blk (X:=X))} {ls ls':List Loc} (h:Seen w bs ls) (h':Seen w bs' ls'):Seen w (bs++bs') (ls++ls'):=by
 refine⟨by simp[h.1,h'.1],fun i b l hb hl=>?_⟩
 by_cases hi:i<bs.length
 ·rw[List.getElem?_append_left hi]at hb
  rw[List.getElem?_append_left (by rw[h.1];exact hi)]at hl
  exact h.2 i b l hb hl
 ·rw[List.getElem?_append_right (by omega)]at hb
  rw[List.getElem?_append_right (by rw[h.1];omega),h.1]at hl
  exact h'.2 _ b l hb hl
theorem vr.one {w:World} {k:LS (X:=X)} {d:DV (X:=X)} {v:Value} (h:vr w k d v):v.oneCell'=true:=by
 cases k with
 |int k=>obtain⟨n,_,rfl,_⟩:=h;rfl
 |bool=>obtain⟨b,_,rfl⟩:=h;rfl
 |sl el=>
  obtain⟨xs,_,h,_⟩:=h
  rcases h with⟨_,_,rfl,_⟩|⟨_,_,rfl,_⟩<;>rfl
theorem Seen.hr {w:World} {bs:List (Blk (X:=X))} {ls:List Loc} (h:Seen w bs ls):HR (bare w) ls bs w:=
 ⟨h.1,Below.refl _ _,fun k b l hb hl=>(h.2 k b l hb hl).2 ls,(fun k b l hb hl hm=>by rw[(h.2 k b l hb hl).1.2]at hm;cases hm),(fun k k' b b' l l' h1 _ h3 _ _ o1 _ _ _=>by rw[(h.2 k b l h1 h3).1.1]at o1;cases o1),(fun p hp=>by cases hp)⟩
structure Prog (P:Program) (G:World→Prop) (cfg:Cfg (X:=X)):Prop extends EOk P G cfg where
 mixed:P.follows .mixedOrders=true
 stay:∀w0 w,G w0→Below w0.heap.size w0 w→G w
 fns:FOk P cfg.F
 jN:nv P G cfg
 ranges:kY P cfg
 plain:cfg.rnd=false
variable {P:Program} {G:World→Prop} {cfg:Cfg (X:=X)}
def iW (P:Program) (n:Nat) (fn:Func):Prop:=qT P n∧P.funcs[n]?=some fn
omit X in
theorem iW.of {n:Nat} {fn:Func} (h:P.funcs[n]?=some fn) (h1:(fn.name== "runtime.NumGoroutine")=false) (h2:fn.body.isNone=false):iW P n fn:=⟨⟨fn,h,h1,h2⟩,h⟩
theorem Prog.add (hp:Prog P G cfg) {n:Nat} {con:yR (X:=X)} (hc:tK P G n con):Prog P G {cfg with E:=(n,con)::cfg.E}:=
 {hp with
  calls:=fun m c hm=>by
   simp only[look]at hm
   cases hb:Nat.beq n m with
   |true=>
    rw[hb,B4]at hm
    simp only[B0]at hm
    rw[←B2 hb,←hm]
    exact hc
   |false=>
    rw[hb,B5]at hm
    exact hp.calls m c hm}
variable {H:Type} {enc:TypeId×Value→H} {w:World} {spare:Nat→Bool} {held:Bool}
theorem xJ (hX:bd X) {sl:List (Nat×X.El)} {d t:Nat} {ks:List (LS (X:=X))} {g:Bool} {dsc:TypeDesc} {v:Value} {dat:DataW H} {ps:List MemPlace} {b0:Nat} {base:Nat} (hu:P.underlying t=some dsc) (hg:bE dsc=g) (hks:cZ P sl d t=some ks) (hok:Value.okWide P w .any b0 t v) (h:DataW.Trod enc P w base spare held t v dat ps):
  ∃ds,uL w g ks ds v:=by
 obtain⟨fuel,hf⟩:=h
 obtain⟨ds,hl⟩:=gD hX d t ks fuel _ _ hks hf
 subst hg
 cases dsc with
 |struct fs=>
  obtain⟨cs,rfl,_⟩:=okWide_struct hu hok
  exact⟨ds,cs.toList,by simp,hl⟩
 |array n e=>
  have:∃cs,v= .agg cs:=by
   simp only[Value.okWide,hu]at hok
   obtain⟨cs,h1,_⟩:=hok
   exact⟨cs,h1⟩
  obtain⟨cs,rfl⟩:=this
  exact⟨ds,cs.toList,by simp,hl⟩
 |int k=>
  obtain⟨m,rfl⟩:=okWide_int hu hok
  cases d with
  |zero=>simp[cZ]at hks
  |succ d=>
   simp only[cZ,hu,B0]at hks
   subst hks
   cases hl with
   |cons h t=>cases t;exact⟨_,_,_,rfl,rfl,h⟩
 |bool=>
  obtain⟨m,rfl⟩:=okWide_bool hu hok
  cases d with
  |zero=>simp[cZ]at hks
  |succ d=>
   simp only[cZ,hu,B0]at hks
   subst hks
   cases hl with
   |cons h t=>cases t;exact⟨_,_,_,rfl,rfl,h⟩
 |slice e=>
  obtain⟨a,len,cap,rfl⟩:=okWide_slice hu hok
  cases d with
  |zero=>simp[cZ]at hks
  |succ d=>
   simp only[cZ,hu]at hks
   split at hks
   ·split at hks
    ·rename_i el _ _ ks' _
     cases hc:(and (fl ks' (LS.kinds (X.kinds el))) (and (Nat.beq (P.cellsOf e) ks'.length) (and (Nat.beq (X.width el) ks'.length) (Nat.ble 1 ks'.length))))with
     |false=>rw[hc]at hks;cases hks
     |true=>
      rw[hc,B4]at hks
      simp only[B0]at hks
      subst hks
      cases hl with
      |cons h t=>cases t;exact⟨_,_,_,rfl,rfl,h⟩
    ·cases hks
   ·cases hks
 |_=>
  cases d with
  |zero=>simp[cZ]at hks
  |succ d=>simp[cZ,hu]at hks
end
end Go.Proofs.Ytdadgkgkdgnihaa.Px
