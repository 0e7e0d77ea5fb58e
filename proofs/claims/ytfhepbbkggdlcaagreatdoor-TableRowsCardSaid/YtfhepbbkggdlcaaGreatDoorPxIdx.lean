/- Lists by their places: what a loop over an index sees. -/
import Derived.Test.YtfhepbbkggdlcaaGreatDoorPxApi0
import Derived.Test.YtfhepbbkggdlcaaGreatDoorPxSpecConfig
import Derived.IntWalk
set_option linter.unusedVariables false
set_option linter.unusedSimpArgs false
namespace Go.Proofs.YtfhepbbkggdlcaaGreatDoor.Px
open Go
theorem dX {α:Type} (pre suf:List α) (x d:α):List.getD (pre++x::suf) (0+Int.toNat (pre.length:Int)) d=x:=by simp
theorem dZ {α:Type} (pre suf:List α) (x:α):decide (((pre.length:Nat):Int)<(((pre++x::suf).length:Nat):Int))=true:=by simp;omega
theorem UZ {α:Type} (pre suf:List α) (x:α):(decide ((0:Int)≤((pre.length:Nat):Int))&&decide (((pre.length:Nat):Int)<(((pre++x::suf).length:Nat):Int)))=true:=by simp;omega
theorem eW (n:Nat):decide ((0:Int)≤((n:Nat):Int))=true:=by simp
theorem di {α:Type} (pre suf:List α) (x:α):decide (0+Int.toNat (pre.length:Int)<(pre++x::suf).length)=true:=by simp
theorem dP {α:Type} (pre:List α):decide (((pre.length:Nat):Int)<(((pre++[]).length:Nat):Int))=false:=by simp
theorem cE {α:Type} {pre suf:List α} {x:α} (h:(pre++x::suf).length≤1048576):IntKind.wrap IntKind.i64 (((pre.length:Nat):Int)+1)=(((pre++[x]).length:Nat):Int):=by
 rw[IntWalk.i64_in _ (by simp at h;omega)];simp
theorem cD {α:Type} (pre suf:List α) (x:α):pre++x::suf=(pre++[x])++suf:=by simp
theorem cU {α:Type} (l:List α):l=[]∨∃q p,l=q++[p]:=by
 rcases List.eq_nil_or_concat l with h|⟨q,p,h⟩
 ·exact .inl h
 ·exact .inr ⟨q,p,by rw[h,List.concat_eq_append]⟩
theorem Iv {α:Type} (q suf:List α) (p x d:α):List.getD (q++[p]++x::suf) (0+Int.toNat ((((q++[p]).length:Nat):Int)-1)) d=p:=by
 have:0+Int.toNat ((((q++[p]).length:Nat):Int)-1)=q.length:=by simp
 rw[this]
 simp
theorem T2 {α:Type} (q:List α) (p:α):((((q++[p]).length:Nat):Int)==0)=false:=by simp;omega
theorem dlt (a b:Int):decide (a<b)= !decide (b≤a):=by rw[Bool.eq_iff_iff];simp
theorem dgt (a b:Int):decide (a>b)= !decide (a≤b):=by rw[Bool.eq_iff_iff];simp
theorem dge (a b:Int):decide (a≥b)=decide (b≤a):=rfl
theorem vC (x y:Bool):(bif x then some (AV.bool false)else some (AV.bool y))=some (AV.bool (!x&&y)):=by cases x<;>rfl
theorem Xv (x:Bool) (e:Int):(bif !x then some (AV.int .i64 e)else some (AV.int .i64 0))=some (AV.int .i64 (dF x e)):=by cases x<;>rfl
theorem qh (n:Nat):Nat.ble (0+n) n=true:=by rw[Nat.zero_add];simp
theorem eH (n:Nat):Nat.beq n n=true:=Nat.beq_refl n
theorem bn (a b:Bool):(bif a then b else false)=(a&&b):=by cases a<;>rfl
theorem cC (a b:Bool):(bif a then true else b)=(a||b):=by cases a<;>rfl
end Go.Proofs.YtfhepbbkggdlcaaGreatDoor.Px
