/- Lists by their places: what a loop over an index sees. -/
import Derived.Test.YtdadgkgkdgnihaaPxApi0
import Derived.Test.YtdadgkgkdgnihaaPxSpecConfig
import Derived.IntWalk
set_option linter.unusedVariables false
set_option linter.unusedSimpArgs false
namespace Go.Proofs.Ytdadgkgkdgnihaa.Px
open Go
theorem bT {α:Type} (pre suf:List α) (x d:α):List.getD (pre++x::suf) (0+Int.toNat (pre.length:Int)) d=x:=by simp
theorem bU {α:Type} (pre suf:List α) (x:α):decide (((pre.length:Nat):Int)<(((pre++x::suf).length:Nat):Int))=true:=by simp;omega
theorem bX (n:Nat):decide ((0:Int)≤((n:Nat):Int))=true:=by simp
theorem br {α:Type} (pre suf:List α) (x:α):decide (0+Int.toNat (pre.length:Int)<(pre++x::suf).length)=true:=by simp
theorem bu {α:Type} (pre:List α):decide (((pre.length:Nat):Int)<(((pre++[]).length:Nat):Int))=false:=by simp
theorem bb {α:Type} {pre suf:List α} {x:α} (h:(pre++x::suf).length≤1048576):IntKind.wrap IntKind.i64 (((pre.length:Nat):Int)+1)=(((pre++[x]).length:Nat):Int):=by
 rw[IntWalk.i64_in _ (by simp at h;omega)];simp
theorem bq {α:Type} (pre suf:List α) (x:α):pre++x::suf=(pre++[x])++suf:=by simp
theorem ee {α:Type} (l:List α):l=[]∨∃q p,l=q++[p]:=by
 rcases List.eq_nil_or_concat l with h|⟨q,p,h⟩
 ·exact .inl h
 ·exact .inr ⟨q,p,by rw[h,List.concat_eq_append]⟩
theorem sx (n:Nat):Nat.ble (0+n) n=true:=by rw[Nat.zero_add];simp
theorem eU (n:Nat):Nat.beq n n=true:=Nat.beq_refl n
theorem cu (a b:Bool):(bif a then b else false)=(a&&b):=by cases a<;>rfl
theorem iO (a b:Bool):(bif a then true else b)=(a||b):=by cases a<;>rfl
end Go.Proofs.Ytdadgkgkdgnihaa.Px
