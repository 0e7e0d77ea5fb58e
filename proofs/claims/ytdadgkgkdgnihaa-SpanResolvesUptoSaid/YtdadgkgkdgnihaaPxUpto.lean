/- What a bound on what is read gives of a slice's length. -/
import Derived.Test.YtdadgkgkdgnihaaPxData
set_option linter.unusedVariables false
set_option linter.unusedSimpArgs false
namespace Go.Proofs.Ytdadgkgkdgnihaa.Px
open Go Go.RowKit Go.ChangeShapes Go.WideShapes Go.Deep

theorem mapM_len {α β : Type} (f : α → Option β) : ∀ (l : List α) (r : List β), l.mapM f = some r → r.length = l.length := by
  intro l
  induction l with
  | nil => intro r h; simp only [List.mapM_nil] at h; cases h; rfl
  | cons x l ih =>
    intro r h
    rw [List.mapM_cons] at h
    cases hx : f x with
    | none => rw [hx] at h; cases h
    | some y =>
      rw [hx] at h
      cases hl : l.mapM f with
      | none => rw [hl] at h; cases h
      | some ys => rw [hl] at h; cases h; simp [ih ys hl]

/-- How many places a slice has, as it is read. -/
theorem trod_row {H : Type} {enc : TypeId × Value → H} {P : Program} {w : World} {base t n cap : Nat} {spare : Nat → Bool} {held : Bool} {e : TypeId} {s : Option Addr} {dat : DataW H} {ps : List MemPlace}
    (hu : P.underlying t = some (.slice e)) (h : DataW.Trod enc P w base spare held t (.slice s n cap) dat ps) : n = 0 ∨ ∃ el sp, dat = .slice el sp ∧ el.length = n := by
  obtain ⟨fuel, hf⟩ := h
  cases fuel with
  | zero => simp [DataW.trod] at hf
  | succ d =>
    cases s with
    | none =>
      cases n with
      | zero => exact .inl rfl
      | succ n => simp [DataW.trod, hu, Value.cells] at hf
    | some a =>
      right
      simp only [DataW.trod, hu, Value.cells] at hf
      split at hf
      · obtain ⟨elems, h1, h2⟩ := Option.bind_eq_some_iff.1 hf
        obtain ⟨rest, _, h3⟩ := Option.map_eq_some_iff.1 h2
        have := mapM_len _ _ _ h1
        simp only [Prod.mk.injEq] at h3
        exact ⟨_, _, h3.1.symm, by rw [List.length_map, this, List.length_range]⟩
      · cases hf

section
variable [X : Elts] {P : Program} {G : World → Prop} {cfg : Cfg (X := X)}

theorem ArgOk.row {w : World} {el : X.El} {ds : List (DV (X := X))} {v : Value} (h : ArgOk w false [.sl el] ds v) : ∃ xs b cap, ds = [.sl el xs] ∧ v = .slice b xs.length cap := by
  obtain ⟨k, d, hk, rfl, h1⟩ := h
  simp only [List.cons.injEq, and_true] at hk
  subst hk
  obtain ⟨xs, rfl, hr, _⟩ := h1
  rcases hr with ⟨b, cap, rfl, rfl⟩ | ⟨a, cap, rfl, _⟩
  · exact ⟨[], b, cap, rfl, rfl⟩
  · exact ⟨xs, _, cap, rfl, rfl⟩

/-- A law of data that holds where Q does. -/
theorem Sig.lawQ {A : Type} {s : Sig A} {Q : A → Prop} (hp : Prog P G cfg) {n : Nat} {fn : Func} (hk : Known P n fn) {w : World} (hG : G w) {as : List Arg} {vs : List Value} (ha : ArgsOk w s.kss as vs) (hQ : ∀ x, as = s.args x → Q x)
    (h : ∀ x, s.wf x → Q x → ∃ fuel d, run cfg fuel d n fn s x = some (.bool true)) : Calls P n vs.toArray w (fun e w' => e = .returned (.bool true) ∧ Below w.heap.size w w') := by
  obtain ⟨x, rfl, hx⟩ := s.total w as vs ha
  obtain ⟨fuel, d, hrun⟩ := h x hx (hQ x rfl)
  exact call_of_cl hp hk hG ha.cl hrun rfl
end
end Go.Proofs.Ytdadgkgkdgnihaa.Px
