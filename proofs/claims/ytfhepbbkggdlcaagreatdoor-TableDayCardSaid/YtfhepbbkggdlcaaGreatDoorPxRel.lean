/- The relation between the evaluator's abstract states and the model's frames and worlds. -/
import Derived.Test.YtfhepbbkggdlcaaGreatDoorPxDef
set_option linter.unusedVariables false
set_option linter.unusedSimpArgs false
namespace Go.Proofs.YtfhepbbkggdlcaaGreatDoor.Px
open Go Go.RowKit
structure Base where
 w : World
 q : List (Nat × Obj) := []
def bare (w : World) : Base := ⟨w, []⟩
structure Loc where
 b : Nat
 off : Nat
 cap : Nat
 nil : Bool
 base : Option Addr := none
 mark : Bool := false
mutual
def conc (ρ : List Loc) : AV → Option Value
 | .int k n => some (.int k n)
 | .bool b => some (.bool b)
 | .str s => some (.string s)
 | .ptr k o => (ρ[k]?).bind fun l => if l.nil then none else some (.pointer (some ⟨l.b, l.off + o, none⟩))
 | .pel k i w o => (ρ[k]?).bind fun l => if l.nil then none else some (.pointer (some ⟨l.b, l.off + (i * w + o), none⟩))
 | .sl k i w n m => (ρ[k]?).bind fun l => if l.nil then (if n = 0 then some (.slice l.base 0 l.cap) else none) else some (.slice (some ⟨l.b, l.off + i * w, none⟩) n (m.getD l.cap - i))
 | .val v => if v.oneCell' then some v else none
 | .fn f a c => (concL ρ a).bind fun x => (concL ρ c).bind fun y => some (.func (.func f) x.toArray y.toArray)
 | .agg cs => (concL ρ cs).bind fun x => if x.all Value.oneCell' then some (.agg x.toArray) else none
 | .tup vs => (concL ρ vs).bind fun x => some (.tuple x.toArray)
 | .ifc t v => (conc ρ v).bind fun x => some (.iface t x)
 | .yld k => (ρ[k]?).bind fun l => if l.nil then none else some (.func (.yield l.b) #[] #[])
 | .mp k => (ρ[k]?).bind fun l => if l.nil then none else some (.map (some l.b))
 | .cut k i w lo n => (ρ[k]?).bind fun l => some (.slice (if (if l.nil then l.cap else l.cap - i) = lo then (if l.nil then l.base else some ⟨l.b, l.off + i * w, none⟩) else (if l.nil then l.base else some ⟨l.b, l.off + i * w, none⟩).map (·.add (lo * w))) n ((if l.nil then l.cap else l.cap - i) - lo))
def concL (ρ : List Loc) : List AV → Option (List Value)
 | [] => some []
 | v :: l => (conc ρ v).bind fun x => (concL ρ l).bind fun y => some (x :: y)
end
theorem nth_eq {α : Type} (l : List α) (n : Nat) : nth l n = l[n]? := by
 induction l generalizing n with
 | nil => simp [nth]
 | cons x l ih => cases n <;> simp [nth, ih]
theorem setN_eq {α : Type} (l : List α) (n : Nat) (y : α) : setN l n y = l.set n y := by
 induction l generalizing n with
 | nil => simp [setN]
 | cons x l ih => cases n <;> simp [setN, ih]
theorem dropN_eq {α : Type} (n : Nat) (l : List α) : dropN n l = l.drop n := by
 induction n generalizing l with
 | zero => rfl
 | succ n ih => cases l <;> simp [dropN, ih]
theorem takeN_eq {α : Type} (n : Nat) (l : List α) : takeN n l = l.take n := by
 induction n generalizing l with
 | zero => rfl
 | succ n ih => cases l <;> simp [takeN, ih]
mutual
theorem conc_mono {ρ ρ' : List Loc} (h : ρ <+: ρ') : ∀ (v : AV) (x : Value), conc ρ v = some x → conc ρ' v = some x
 | .int k n, x, e => e
 | .bool b, x, e => e
 | .str s, x, e => e
 | .val v, x, e => e
 | .ptr k o, x, e => by
  simp only [conc, Option.bind_eq_some_iff] at e ⊢
  obtain ⟨l, hl, e⟩ := e
  exact ⟨l, by obtain ⟨t, rfl⟩ := h; rw [List.getElem?_append_left (List.getElem?_eq_some_iff.1 hl).1]; exact hl, e⟩
 | .pel k i w o, x, e => by
  simp only [conc, Option.bind_eq_some_iff] at e ⊢
  obtain ⟨l, hl, e⟩ := e
  exact ⟨l, by obtain ⟨t, rfl⟩ := h; rw [List.getElem?_append_left (List.getElem?_eq_some_iff.1 hl).1]; exact hl, e⟩
 | .sl k i w n m, x, e => by
  simp only [conc, Option.bind_eq_some_iff] at e ⊢
  obtain ⟨l, hl, e⟩ := e
  exact ⟨l, by obtain ⟨t, rfl⟩ := h; rw [List.getElem?_append_left (List.getElem?_eq_some_iff.1 hl).1]; exact hl, e⟩
 | .fn f a c, x, e => by
  simp only [conc, Option.bind_eq_some_iff] at e ⊢
  obtain ⟨y, hy, z, hz, e⟩ := e
  exact ⟨y, concL_mono h a y hy, z, concL_mono h c z hz, e⟩
 | .agg cs, x, e => by
  simp only [conc, Option.bind_eq_some_iff] at e ⊢
  obtain ⟨y, hy, e⟩ := e
  exact ⟨y, concL_mono h cs y hy, e⟩
 | .tup cs, x, e => by
  simp only [conc, Option.bind_eq_some_iff] at e ⊢
  obtain ⟨y, hy, e⟩ := e
  exact ⟨y, concL_mono h cs y hy, e⟩
 | .ifc t v, x, e => by
  simp only [conc, Option.bind_eq_some_iff] at e ⊢
  obtain ⟨y, hy, e⟩ := e
  exact ⟨y, conc_mono h v y hy, e⟩
 | .yld k, x, e => by
  simp only [conc, Option.bind_eq_some_iff] at e ⊢
  obtain ⟨l, hl, e⟩ := e
  exact ⟨l, by obtain ⟨t, rfl⟩ := h; rw [List.getElem?_append_left (List.getElem?_eq_some_iff.1 hl).1]; exact hl, e⟩
 | .mp k, x, e => by
  simp only [conc, Option.bind_eq_some_iff] at e ⊢
  obtain ⟨l, hl, e⟩ := e
  exact ⟨l, by obtain ⟨t, rfl⟩ := h; rw [List.getElem?_append_left (List.getElem?_eq_some_iff.1 hl).1]; exact hl, e⟩
 | .cut k i w lo n, x, e => by
  simp only [conc, Option.bind_eq_some_iff] at e ⊢
  obtain ⟨l, hl, e⟩ := e
  exact ⟨l, by obtain ⟨t, rfl⟩ := h; rw [List.getElem?_append_left (List.getElem?_eq_some_iff.1 hl).1]; exact hl, e⟩
theorem concL_mono {ρ ρ' : List Loc} (h : ρ <+: ρ') : ∀ (l : List AV) (xs : List Value), concL ρ l = some xs → concL ρ' l = some xs
 | [], xs, e => e
 | v :: l, xs, e => by
  simp only [concL, Option.bind_eq_some_iff] at e ⊢
  obtain ⟨y, hy, z, hz, e⟩ := e
  exact ⟨y, conc_mono h v y hy, z, concL_mono h l z hz, e⟩
end
theorem concL_cons {ρ : List Loc} {v : AV} {l : List AV} {xs : List Value} : concL ρ (v :: l) = some xs ↔ ∃ y ys, conc ρ v = some y ∧ concL ρ l = some ys ∧ xs = y :: ys := by
 simp only [concL, Option.bind_eq_some_iff, Option.some.injEq]
 constructor
 ·rintro ⟨y, hy, z, hz, rfl⟩; exact ⟨y, z, hy, hz, rfl⟩
 ·rintro ⟨y, z, hy, hz, rfl⟩; exact ⟨y, hy, z, hz, rfl⟩
theorem concL_append {ρ : List Loc} : ∀ {l m : List AV} {xs : List Value}, concL ρ (l ++ m) = some xs ↔ ∃ ys zs, concL ρ l = some ys ∧ concL ρ m = some zs ∧ xs = ys ++ zs
 | [], m, xs => by simp [concL]
 | v :: l, m, xs => by
  simp only [List.cons_append, concL_cons, concL_append (l := l)]
  constructor
  ·rintro ⟨y, ys, hy, ⟨a, b, ha, hb, rfl⟩, rfl⟩; exact ⟨y :: a, b, ⟨y, a, hy, ha, rfl⟩, hb, rfl⟩
  ·rintro ⟨_, b, ⟨y, a, hy, ha, rfl⟩, hb, rfl⟩; exact ⟨y, a ++ b, hy, ⟨a, b, ha, hb, rfl⟩, rfl⟩
theorem concL_length {ρ : List Loc} : ∀ {l : List AV} {xs : List Value}, concL ρ l = some xs → xs.length = l.length
 | [], xs, e => by simp [concL] at e; subst e; rfl
 | v :: l, xs, e => by
  obtain ⟨y, ys, _, h, rfl⟩ := concL_cons.1 e
  simp [concL_length h]
theorem concL_get {ρ : List Loc} : ∀ {l : List AV} {xs : List Value} {i : Nat} {v : AV}, concL ρ l = some xs → l[i]? = some v → ∃ x, xs[i]? = some x ∧ conc ρ v = some x
 | [], xs, i, v, e, h => by simp at h
 | u :: l, xs, i, v, e, h => by
  obtain ⟨y, ys, hy, hl, rfl⟩ := concL_cons.1 e
  cases i with
  | zero => simp at h; subst h; exact ⟨y, by simp, hy⟩
  | succ i => simp at h; obtain ⟨x, hx, hc⟩ := concL_get hl h; exact ⟨x, by simpa using hx, hc⟩
theorem concL_take {ρ : List Loc} {l : List AV} {xs : List Value} (n : Nat) (e : concL ρ l = some xs) : concL ρ (l.take n) = some (xs.take n) := by
 induction n generalizing l xs with
 | zero => simp [concL]
 | succ n ih =>
  cases l with
  | nil => simp [concL] at e; subst e; simp [concL]
  | cons v l => obtain ⟨y, ys, hy, hl, rfl⟩ := concL_cons.1 e; simp only [List.take_succ_cons]; exact concL_cons.2 ⟨y, _, hy, ih hl, rfl⟩
theorem concL_drop {ρ : List Loc} {l : List AV} {xs : List Value} (n : Nat) (e : concL ρ l = some xs) : concL ρ (l.drop n) = some (xs.drop n) := by
 induction n generalizing l xs with
 | zero => simpa using e
 | succ n ih =>
  cases l with
  | nil => simp [concL] at e; subst e; simp [concL]
  | cons v l => obtain ⟨y, ys, hy, hl, rfl⟩ := concL_cons.1 e; simpa using ih hl
theorem concL_set {ρ : List Loc} {l : List AV} {xs : List Value} (n : Nat) {v : AV} {x : Value} (e : concL ρ l = some xs) (hv : conc ρ v = some x) : concL ρ (l.set n v) = some (xs.set n x) := by
 induction n generalizing l xs with
 | zero =>
  cases l with
  | nil => simp [concL] at e; subst e; simp [concL]
  | cons u l => obtain ⟨y, ys, hy, hl, rfl⟩ := concL_cons.1 e; simp only [List.set_cons_zero]; exact concL_cons.2 ⟨x, _, hv, hl, rfl⟩
 | succ n ih =>
  cases l with
  | nil => simp [concL] at e; subst e; simp [concL]
  | cons u l => obtain ⟨y, ys, hy, hl, rfl⟩ := concL_cons.1 e; simp only [List.set_cons_succ]; exact concL_cons.2 ⟨y, _, hy, ih hl, rfl⟩
theorem all_take {α : Type} {p : α → Bool} {l : List α} (n : Nat) (h : l.all p = true) : (l.take n).all p = true := by
 rw [List.all_eq_true] at h ⊢; exact fun x hx => h x (List.mem_of_mem_take hx)
theorem all_drop {α : Type} {p : α → Bool} {l : List α} (n : Nat) (h : l.all p = true) : (l.drop n).all p = true := by
 rw [List.all_eq_true] at h ⊢; exact fun x hx => h x (List.mem_of_mem_drop hx)
theorem conc_agg {ρ : List Loc} {cs : List AV} {x : Value} : conc ρ (.agg cs) = some x ↔ ∃ ys, concL ρ cs = some ys ∧ ys.all Value.oneCell' = true ∧ x = .agg ys.toArray := by
 simp only [conc, Option.bind_eq_some_iff]
 constructor
 ·rintro ⟨ys, h, e⟩
  split at e
  ·rename_i hc; exact ⟨ys, h, hc, by simpa using e.symm⟩
  ·cases e
 ·rintro ⟨ys, h, hc, rfl⟩; exact ⟨ys, h, by rw [if_pos hc]⟩
theorem conc_cells {ρ : List Loc} {v : AV} {x : Value} (h : conc ρ v = some x) (ht : ∀ vs, v ≠ .tup vs) :
  ∃ ys, concL ρ (cellsOf v) = some ys ∧ ys.all Value.oneCell' = true ∧ x.cells = ys.toArray := by
 cases v with
 | agg cs => obtain ⟨ys, h1, h2, rfl⟩ := conc_agg.1 h; exact ⟨ys, h1, h2, rfl⟩
 | tup vs => exact absurd rfl (ht vs)
 | int k n => simp only [conc, Option.some.injEq] at h; subst h; exact ⟨[_], rfl, rfl, rfl⟩
 | bool b => simp only [conc, Option.some.injEq] at h; subst h; exact ⟨[_], rfl, rfl, rfl⟩
 | str s => simp only [conc, Option.some.injEq] at h; subst h; exact ⟨[_], rfl, rfl, rfl⟩
 | val u =>
  have h' := h
  simp only [conc] at h'
  split at h'
  ·rename_i hu
   simp only [Option.some.injEq] at h'
   subst h'
   refine ⟨[u], concL_cons.2 ⟨u, [], h, rfl, rfl⟩, by simp [hu], ?_⟩
   cases u <;> simp [Value.oneCell'] at hu <;> rfl
  ·cases h'
 | ptr k o =>
  have h' := h
  simp only [conc, Option.bind_eq_some_iff] at h'
  obtain ⟨l, _, e⟩ := h'
  split at e
  ·cases e
  ·simp only [Option.some.injEq] at e; subst e; exact ⟨[_], concL_cons.2 ⟨_, [], h, rfl, rfl⟩, rfl, rfl⟩
 | pel k i w o =>
  have h' := h
  simp only [conc, Option.bind_eq_some_iff] at h'
  obtain ⟨l, _, e⟩ := h'
  split at e
  ·cases e
  ·simp only [Option.some.injEq] at e; subst e; exact ⟨[_], concL_cons.2 ⟨_, [], h, rfl, rfl⟩, rfl, rfl⟩
 | sl k i w n m =>
  have h' := h
  simp only [conc, Option.bind_eq_some_iff] at h'
  obtain ⟨l, _, e⟩ := h'
  split at e
  ·split at e
   ·simp only [Option.some.injEq] at e; subst e; exact ⟨[_], concL_cons.2 ⟨_, [], h, rfl, rfl⟩, rfl, rfl⟩
   ·cases e
  ·simp only [Option.some.injEq] at e; subst e; exact ⟨[_], concL_cons.2 ⟨_, [], h, rfl, rfl⟩, rfl, rfl⟩
 | fn f a c =>
  have h' := h
  simp only [conc, Option.bind_eq_some_iff, Option.some.injEq] at h'
  obtain ⟨_, _, _, _, e⟩ := h'
  subst e; exact ⟨[_], concL_cons.2 ⟨_, [], h, rfl, rfl⟩, rfl, rfl⟩
 | ifc t u =>
  have h' := h
  simp only [conc, Option.bind_eq_some_iff, Option.some.injEq] at h'
  obtain ⟨_, _, e⟩ := h'
  subst e; exact ⟨[_], concL_cons.2 ⟨_, [], h, rfl, rfl⟩, rfl, rfl⟩
 | yld k =>
  have h' := h
  simp only [conc, Option.bind_eq_some_iff] at h'
  obtain ⟨l, _, e⟩ := h'
  split at e
  ·cases e
  ·simp only [Option.some.injEq] at e; subst e; exact ⟨[_], concL_cons.2 ⟨_, [], h, rfl, rfl⟩, rfl, rfl⟩
 | mp k =>
  have h' := h
  simp only [conc, Option.bind_eq_some_iff] at h'
  obtain ⟨l, _, e⟩ := h'
  split at e
  ·cases e
  ·simp only [Option.some.injEq] at e; subst e; exact ⟨[_], concL_cons.2 ⟨_, [], h, rfl, rfl⟩, rfl, rfl⟩
 | cut k i w lo n =>
  have h' := h
  simp only [conc, Option.bind_eq_some_iff] at h'
  obtain ⟨l, _, e⟩ := h'
  simp only [Option.some.injEq] at e
  subst e
  exact ⟨[_], concL_cons.2 ⟨_, [], h, rfl, rfl⟩, rfl, rfl⟩
def SlotOk (ρ : List Loc) (tm : List Slot) : Slot → Value → Prop
 | .any, _ => True
 | .is v, x => conc ρ v = some x
 | .opt cs v, x => (holdB tm cs = true → conc ρ v = some x) ∧ (holdB tm cs = false → x = undef)
def Put (ρ : List Loc) (ds : List Deferred) : Prop := ds = [] ∨ ∃ (k : Nat) (l : Loc), ρ[k]? = some l ∧ l.mark = true ∧ ds = [{ target := .collected l.b, args := #[] }]
theorem Put.mono {ρ ρ' : List Loc} {ds : List Deferred} (h : ρ <+: ρ') (hp : Put ρ ds) : Put ρ' ds := by
 rcases hp with h0 | ⟨k, l, h1, h2⟩
 ·exact .inl h0
 ·exact .inr ⟨k, l, by obtain ⟨t, rfl⟩ := h; rw [List.getElem?_append_left (List.getElem?_eq_some_iff.1 h1).1]; exact h1, h2⟩
structure FR (ρ : List Loc) (tm : List Slot) (a : Act) : Prop where
 size : a.tmps.size = tm.length
 at_ : ∀ (i : Nat) (s : Slot), tm[i]? = some s → SlotOk ρ tm s (a.tmps.getD i undef)
 defers : Put ρ a.defers
def Slot.isOpt : Slot → Bool
 | .opt _ _ => true
 | _ => false
def noOpts (tm : List Slot) : Prop := ∀ (i : Nat) (s : Slot), tm[i]? = some s → s.isOpt = false
theorem SlotOk.mono {ρ ρ' : List Loc} {tm : List Slot} {s : Slot} {x : Value} (h : ρ <+: ρ') (hs : SlotOk ρ tm s x) : SlotOk ρ' tm s x := by
 cases s with
 | any => trivial
 | is v => exact conc_mono h v x hs
 | opt cs v => exact ⟨fun hc => conc_mono h v x (hs.1 hc), hs.2⟩
theorem FR.mono {ρ ρ' : List Loc} {tm : List Slot} {a : Act} (h : ρ <+: ρ') (hf : FR ρ tm a) : FR ρ' tm a :=
 ⟨hf.size, fun i s hi => (hf.at_ i s hi).mono h, hf.defers.mono h⟩
def toCode : Ex → Code
 | .normal => .skip
 | .exit id => .exit id
 | .goto l => .goto l
 | .ret => .ret
def RSOk : RS → LoopState → Option Code → Prop
 | .ready, s, p => s = .ready ∧ p = none
 | .busy, s, p => s = .busy ∧ p = none
 | .done e, s, p => s = .done ∧ p = some (toCode e)
section
variable [X : Elts]
class EltsOk (X : Elts) : Prop where
 len : ∀ (t : X.El) (x : X.den t), (X.enc t x).length = X.width t
 cells : ∀ (t : X.El) (x : X.den t), ∃ ys, concL [] (X.enc t x) = some ys ∧ ys.all Value.oneCell' = true
 back : ∀ (t : X.El) (cs : List AV) (x : X.den t), X.dec t cs = some x → X.enc t x = cs
 total : ∀ (t : X.El) (cs : List AV), kindsOk (X.kinds t) cs = true → ∃ x, X.dec t cs = some x
def rows (t : X.El) (xs : List (X.den t)) : List AV := xs.flatMap (X.enc t)
def mapEnts : Nat → List (Int × Int) → List MapEntry
 | _, [] => []
 | n, (k, v) :: l => { key := .int .i64 k, val := .int .i64 v, born := n } :: mapEnts (n + 1) l
def BOk (w0 : Base) (w : World) (ρ : List Loc) (l : Loc) : Blk (X := X) → Prop
 | .dead => True
 | .alias k _ true => ρ[k]? = some l
 | .alias k f false => (l.nil = true ∧ (f = true → l.cap = 0)) ∨ l.nil = false ∧ ∃ l', ρ[k]? = some l' ∧ l'.nil = false ∧ l'.b = l.b ∧ l'.off = l.off ∧ l'.cap = l.cap
 | .raw cs => l.nil = false ∧ l.off = 0 ∧ w0.w.heap.size ≤ l.b ∧ ∃ ys t, concL ρ cs = some ys ∧ ys.all Value.oneCell' = true ∧ w.heap[l.b]? = some (.cells ys.toArray t (0, 0))
 | .vec t xs true => (l.nil = true → xs = [] ∧ l.cap = 0) ∧ (l.nil = false → l.off = 0 ∧ w0.w.heap.size ≤ l.b ∧ xs.length ≤ l.cap ∧
   ∃ ys spare ty, concL [] (rows t xs) = some ys ∧ w.heap[l.b]? = some (.cells (ys ++ spare).toArray ty (0, 0)) ∧ spare.length = (l.cap - xs.length) * X.width t)
 | .vec t xs false => (l.nil = true → xs = []) ∧ (l.nil = false → l.b < w0.w.heap.size ∧ xs.length ≤ l.cap ∧
   ∃ ys, concL [] (rows t xs) = some ys ∧ ∀ j y, ys[j]? = some y → w0.w.cell? ⟨l.b, l.off + j, none⟩ = some y)
 | .dfr => l.nil = false ∧ w0.w.heap.size ≤ l.b ∧ w.heap[l.b]? = some (.deferred (some []))
 | .mark => l.nil = false ∧ w0.w.heap.size ≤ l.b ∧ w.heap[l.b]? = some (.deferred (some []))
 | .rcd st id tm => l.nil = false ∧ w0.w.heap.size ≤ l.b ∧ ∃ r : Loop, w.heap[l.b]? = some (.loop r) ∧ RSOk st r.state r.pending ∧ X.src id = some (r.params, r.assign, r.body) ∧ FR ρ tm { tmps := r.tmps, defers := [] } ∧ noOpts tm
 | .imap es => l.nil = false ∧ w0.w.heap.size ≤ l.b ∧ w.heap[l.b]? = some (.map (mapEnts 0 es).toArray es.length)
def Blk.isMark : Blk (X := X) → Bool
 | .mark => true
 | _ => false
def Blk.own : Blk (X := X) → Bool
 | .dead => false
 | .alias _ _ _ => false
 | .raw _ => true
 | .vec _ _ o => o
 | .dfr => true
 | .mark => true
 | .rcd _ _ _ => true
 | .imap _ => true
structure HR (w0 : Base) (ρ : List Loc) (hp : List (Blk (X := X))) (w : World) : Prop where
 len : ρ.length = hp.length
 below : Below w0.w.heap.size w0.w w
 blk : ∀ (k : Nat) (b : Blk (X := X)) (l : Loc), hp[k]? = some b → ρ[k]? = some l → BOk w0 w ρ l b
 marks : ∀ (k : Nat) (b : Blk (X := X)) (l : Loc), hp[k]? = some b → ρ[k]? = some l → l.mark = true → b.isMark = true
 sep : ∀ (k k' : Nat) (b b' : Blk (X := X)) (l l' : Loc), hp[k]? = some b → hp[k']? = some b' → ρ[k]? = some l → ρ[k']? = some l' → k ≠ k' → b.own = true → b'.own = true → l.nil = false → l'.nil = false → l.b ≠ l'.b
 pend : ∀ p ∈ w0.q, w.heap[p.1]? = some p.2 ∧ ∀ (k : Nat) (b : Blk (X := X)) (l : Loc), hp[k]? = some b → ρ[k]? = some l → b.own = true → l.nil = false → l.b ≠ p.1
structure Rl (w0 : Base) (ρ : List Loc) (s : St (X := X)) (a : Act) (w : World) : Prop where
 fr : FR ρ s.tm a
 hr : HR w0 ρ s.hp w
end
section
variable {R : Type}
mutual
theorem forceV_eq : ∀ (v : AV) (K : AV → R), forceV v K = K v
 | .int k n, K => rfl
 | .bool b, K => rfl
 | .str s, K => rfl
 | .ptr k o, K => rfl
 | .pel k i w o, K => rfl
 | .sl k i w n m, K => rfl
 | .val v, K => rfl
 | .fn f a c, K => by simp only [forceV, forceL_eq a, forceL_eq c]
 | .agg cs, K => by simp only [forceV, forceL_eq cs]
 | .tup vs, K => by simp only [forceV, forceL_eq vs]
 | .ifc t v, K => by simp only [forceV, forceV_eq v]
 | .yld k, K => rfl
 | .mp k, K => rfl
 | .cut k i w lo n, K => rfl
theorem forceL_eq : ∀ (l : List AV) (K : List AV → R), forceL l K = K l
 | [], K => rfl
 | v :: l, K => by simp only [forceL, forceV_eq v, forceL_eq l]
end
theorem forceS_eq (s : Slot) (K : Slot → R) : forceS s K = K s := by cases s <;> simp only [forceS, forceV_eq]
theorem forceT_eq : ∀ (l : List Slot) (K : List Slot → R), forceT l K = K l
 | [], K => rfl
 | v :: l, K => by simp only [forceT, forceS_eq, forceT_eq l]
theorem setK_eq {α : Type} : ∀ (l : List α) (n : Nat) (y : α) (K : List α → R), setK l n y K = K (setN l n y)
 | [], _, _, K => rfl
 | _ :: l, 0, y, K => rfl
 | x :: l, n + 1, y, K => by simp only [setK, setN, setK_eq l]
variable [X : Elts]
theorem forceB_eq (b : Blk (X := X)) (K : Blk (X := X) → R) : forceB b K = K b := by cases b <;> simp only [forceB, forceL_eq, forceT_eq]
theorem forceH_eq : ∀ (l : List (Blk (X := X))) (K : List (Blk (X := X)) → R), forceH l K = K l
 | [], K => rfl
 | v :: l, K => by simp only [forceH, forceB_eq, forceH_eq l]
variable (cfg : Cfg (X := X)) (fail : R) (ci : CallIn (X := X) (R := R))
theorem put1_eq (hasG : Bool) (o : Oper) (v : Slot) (s : St (X := X)) (K : St (X := X) → R) : put1 fail hasG o v s K = put0 fail hasG o v s K := by
 unfold put1 put0
 cases o.dst with
 | none => rfl
 | some d => cases hasG with
  | true => simp only [forceS_eq, setK_eq]
  | false => cases v <;> simp only [forceS_eq, setK_eq]
theorem runOp_eq (hasG : Bool) (cs : List (Nat × Bool)) (o : Oper) (s : St (X := X)) (K : St (X := X) → R) : runOp cfg fail ci hasG cs o s K = runOp0 cfg fail ci hasG cs o s K := by
 unfold runOp runOp0
 simp only [forceH_eq]
theorem regionGo_eq (ops : List Oper) (s : St (X := X)) (K : St (X := X) → R) : regionGo cfg fail ci ops s K = regionGo0 cfg fail ci ops s K := by
 unfold regionGo regionGo0
 simp only [forceT_eq]
theorem runFn_eq (fuel f : Nat) (fn : Func) (args : List AV) (hp : List (Blk (X := X))) (K : AV → List (Blk (X := X)) → R) : runFn cfg fail ci fuel f fn args hp K = runFn0 cfg fail ci fuel f fn args hp K := by
 unfold runFn runFn0
 simp only [forceT_eq, forceH_eq]
end
end Go.Proofs.YtfhepbbkggdlcaaGreatDoor.Px
