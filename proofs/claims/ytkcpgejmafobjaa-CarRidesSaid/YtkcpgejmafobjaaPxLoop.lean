/- Loops whose number of rounds hangs on the input: the code at a path, what goes on behind it, and rounds by induction. -/
import Derived.Test.YtkcpgejmafobjaaPxData
namespace Go.Proofs.Ytkcpgejmafobjaa.Px
open Go

/-- The code at a path. -/
def codeAt : List Bool → Code → Code
  | [], c => c
  | b :: ds, .seq x y => codeAt ds (cond b y x)
  | b :: ds, .cond _ x y => codeAt ds (cond b y x)
  | _ :: ds, .block _ c => codeAt ds c
  | _ :: ds, .loop c => codeAt ds c
  | _ :: ds, .scope c => codeAt ds c
  | _ :: _, c => c

/-- The code with an exit in place of what stands at a path. -/
def cutAt : List Bool → Code → Code
  | [], _ => .exit 999999
  | true :: ds, .seq x y => .seq x (cutAt ds y)
  | false :: ds, .seq x y => .seq (cutAt ds x) y
  | true :: ds, .cond c x y => .cond c x (cutAt ds y)
  | false :: ds, .cond c x y => .cond c (cutAt ds x) y
  | _ :: ds, .block i c => .block i (cutAt ds c)
  | _ :: ds, .scope c => .scope (cutAt ds c)
  | _ :: _, c => c

section
variable [X : Elts] (cfg : Cfg (X := X)) {R : Type} (fail : R) (ci : CallIn (X := X) (R := R))

/-- What goes on behind the code at a path. -/
def contAt (fuel f : Nat) : List Bool → Nat → Code → (Ex → St (X := X) → R) → Ex → St (X := X) → R
  | [], _, _, K => K
  | false :: ds, p, .seq x y, K => contAt fuel f ds (2 * p) x fun e s' => match e with
    | .normal => exec cfg fail ci fuel f (2 * p + 1) y s' K
    | e => K e s'
  | true :: ds, p, .seq _ y, K => contAt fuel f ds (2 * p + 1) y K
  | false :: ds, p, .cond _ x _, K => contAt fuel f ds (2 * p) x K
  | true :: ds, p, .cond _ _ y, K => contAt fuel f ds (2 * p + 1) y K
  | _ :: ds, p, .block id c, K => contAt fuel f ds (2 * p) c fun e s' => match e with
    | .exit id' => cond (Nat.beq id' id) (K .normal s') (K (.exit id') s')
    | e => K e s'
  | _ :: ds, p, .scope c, K => contAt fuel f ds (2 * p) c fun e s' => match e with
    | .goto _ => fail
    | e => K e s'
  | _ :: _, _, _, K => K

/-- What stands behind a function's code. -/
def endK (fn : Func) (K : AV → List (Blk (X := X)) → R) (e : Ex) (s : St (X := X)) : R :=
  match e with
  | .normal | .ret => match resultsOf cfg s.hp s.tm fn.results.toList with
    | some vs => K (single vs) s.hp
    | none => fail
  | _ => fail

/-- What a round comes to: on with other data, or out. -/
inductive Step (α : Type) where
  | on (x : α)
  | out (e : Ex) (s : St (X := X))

/-- So many rounds. -/
def rounds {α : Type} (step : α → Step (X := X) α) : Nat → α → Option (Ex × St (X := X))
  | 0, _ => none
  | n + 1, x => match step x with
    | .on y => rounds step n y
    | .out e s => some (e, s)

variable {fail}
theorem iter_rounds {α : Type} {S : α → St (X := X)} {inv : α → Prop} {body : St (X := X) → (Ex → St (X := X) → R) → R} {step : α → Step (X := X) α} {K : Ex → St (X := X) → R}
    (hs : ∀ x K', inv x → body (S x) K' = match step x with
      | .on y => K' .normal (S y)
      | .out e s => K' e s)
    (ho : ∀ x e s, inv x → step x = .out e s → e ≠ .normal) (hi : ∀ x y, inv x → step x = .on y → inv y) :
    ∀ (n : Nat) (x : α) (e : Ex) (s : St (X := X)), inv x → rounds step n x = some (e, s) → ∀ m, n ≤ m → iter fail body m (S x) K = K e s
  | 0, x, e, s, _, h, m, _ => by simp [rounds] at h
  | n + 1, x, e, s, hx, h, m, hm => by
    obtain ⟨m, rfl⟩ : ∃ k, m = k + 1 := ⟨m - 1, by omega⟩
    simp only [rounds] at h
    rw [iter, hs x _ hx]
    split at h
    · rename_i y hy
      exact iter_rounds hs ho hi n y e s (hi x y hx hy) h m (by omega)
    · rename_i e' s' hy
      simp only [Option.some.injEq, Prod.mk.injEq] at h
      obtain ⟨rfl, rfl⟩ := h
      have := ho x e' s' hx hy
      cases e' with
      | normal => exact absurd rfl this
      | exit id => rfl
      | goto l => rfl
      | ret => rfl
end
end Go.Proofs.Ytkcpgejmafobjaa.Px
