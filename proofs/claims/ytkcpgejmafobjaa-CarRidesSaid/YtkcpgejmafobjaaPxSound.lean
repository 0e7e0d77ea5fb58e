/- The evaluator's word on a piece of code, and on a call, is the model's. -/
import Derived.Test.YtkcpgejmafobjaaPxRegion
namespace Go.Proofs.Ytkcpgejmafobjaa.Px
open Go Go.RowKit

def toExit : Ex → Exit
  | .normal => .normal
  | .exit id => .exit id
  | .goto l => .goto l
  | .ret => .ret

section
variable [X : Elts] {P : Program} {G : World → Prop} {cfg : Cfg (X := X)} {w0 : World} {R : Type} {fail : R} {φ : R → Prop}

/-- However a piece of code ends, the evaluator has said so. -/
def Ends (w0 : World) (S : Ex → St (X := X) → Prop) (ρ : List Loc) : Exit → Act → World → Prop :=
  fun e a w => ∃ e' s ρ', e = toExit e' ∧ S e' s ∧ ρ <+: ρ' ∧ FR ρ' s.tm a ∧ HR w0 ρ' s.hp w ∧ noOpts s.tm

end

mutual
theorem conc_take {ρ : List Loc} {m : Nat} : ∀ (v : AV) (x : Value), avIn m v = true → conc ρ v = some x → conc (ρ.take m) v = some x
  | .int k n, x, _, e => e
  | .bool b, x, _, e => e
  | .str s, x, _, e => e
  | .val v, x, _, e => e
  | .ptr k o, x, h, e => by
    have : k < m := by rw [avIn, Nat.blt_eq] at h; exact h
    simp only [conc] at e ⊢
    rw [List.getElem?_take, if_pos this]
    exact e
  | .pel k i w o, x, h, e => by
    have : k < m := by rw [avIn, Nat.blt_eq] at h; exact h
    simp only [conc] at e ⊢
    rw [List.getElem?_take, if_pos this]
    exact e
  | .sl k i w n c, x, h, e => by
    have : k < m := by rw [avIn, Nat.blt_eq] at h; exact h
    simp only [conc] at e ⊢
    rw [List.getElem?_take, if_pos this]
    exact e
  | .fn f a c, x, h, e => by
    simp only [avIn, Bool.and_eq_true] at h
    simp only [conc, Option.bind_eq_some_iff] at e ⊢
    obtain ⟨y, hy, z, hz, e⟩ := e
    exact ⟨y, concL_takeRho a y h.1 hy, z, concL_takeRho c z h.2 hz, e⟩
  | .agg cs, x, h, e => by
    simp only [avIn] at h
    simp only [conc, Option.bind_eq_some_iff] at e ⊢
    obtain ⟨y, hy, e⟩ := e
    exact ⟨y, concL_takeRho cs y h hy, e⟩
  | .tup cs, x, h, e => by
    simp only [avIn] at h
    simp only [conc, Option.bind_eq_some_iff] at e ⊢
    obtain ⟨y, hy, e⟩ := e
    exact ⟨y, concL_takeRho cs y h hy, e⟩
  | .ifc t v, x, h, e => by
    simp only [avIn] at h
    simp only [conc, Option.bind_eq_some_iff] at e ⊢
    obtain ⟨y, hy, e⟩ := e
    exact ⟨y, conc_take v y h hy, e⟩
theorem concL_takeRho {ρ : List Loc} {m : Nat} : ∀ (l : List AV) (xs : List Value), avInL m l = true → concL ρ l = some xs → concL (ρ.take m) l = some xs
  | [], xs, _, e => e
  | v :: l, xs, h, e => by
    simp only [avInL, Bool.and_eq_true] at h
    simp only [concL, Option.bind_eq_some_iff] at e ⊢
    obtain ⟨y, hy, z, hz, e⟩ := e
    exact ⟨y, conc_take v y h.1 hy, z, concL_takeRho l z h.2 hz, e⟩
end

section
variable [X : Elts] {P : Program} {G : World → Prop} {cfg : Cfg (X := X)} {w0 : World} {R : Type} {fail : R} {φ : R → Prop}

omit X in
theorem keepGo_length (keep : List Nat) : ∀ (i : Nat) (l : List Slot), (keepGo keep i l).length = l.length
  | _, [] => rfl
  | i, x :: l => by simp [keepGo, keepGo_length keep (i + 1) l]

omit X in
theorem keepGo_get (keep : List Nat) : ∀ (i : Nat) (l : List Slot) (j : Nat) (s : Slot), (keepGo keep i l)[j]? = some s → s = .any ∨ l[j]? = some s
  | _, [], j, s, h => by simp [keepGo] at h
  | i, x :: l, 0, s, h => by
    simp only [keepGo, List.getElem?_cons_zero, Option.some.injEq] at h
    cases hb : hasN i keep with
    | true => rw [hb, cond_true] at h; exact .inr (by simp [h])
    | false => rw [hb, cond_false] at h; exact .inl h.symm
  | i, x :: l, j + 1, s, h => by
    simp only [keepGo, List.getElem?_cons_succ] at h ⊢
    exact keepGo_get keep (i + 1) l j s h

theorem forget_sound {keep : List Nat} {m : Nat} {s s' : St (X := X)} {ρ : List Loc} {a : Act} {w : World} (h : forget keep m s = some s') (hf : FR ρ s.tm a) (hr : HR w0 ρ s.hp w) : FR (ρ.take m) s'.tm a ∧ HR w0 (ρ.take m) s'.hp w ∧ noOpts s'.tm := by
  unfold forget at h
  cases hc : and ((keepGo keep 0 s.tm).all (slotIn m)) ((takeN m s.hp).all (blkIn m)) with
  | false => rw [hc] at h; cases h
  | true =>
    rw [hc, cond_true] at h
    simp only [Option.some.injEq] at h
    subst h
    simp only [Bool.and_eq_true, List.all_eq_true, takeN_eq] at hc
    obtain ⟨h1, h2⟩ := hc
    refine ⟨⟨by rw [keepGo_length]; exact hf.size, fun i sl hi => ?_, hf.defers⟩, ⟨by simp [takeN_eq, hr.len], hr.below, fun k b l hb hl => ?_, fun k k' b b' l l' hb hb' hl hl' hne => ?_⟩, fun i sl hi => ?_⟩
    · have hin := h1 sl (List.mem_of_getElem? hi)
      rcases keepGo_get keep 0 s.tm i sl hi with rfl | hs
      · trivial
      · have := hf.at_ i sl hs
        cases sl with
        | any => trivial
        | is v => exact conc_take v _ hin this
        | opt ds v => cases hin
    · simp only [takeN_eq] at hb
      have hin := h2 b (List.mem_of_getElem? hb)
      rw [List.getElem?_take] at hb hl
      split at hb
      · rename_i hk
        rw [if_pos hk] at hl
        have := hr.blk k b l hb hl
        cases b with
        | dead => trivial
        | raw cs =>
          obtain ⟨g1, g2, g3, ys, t, g4, g5⟩ := this
          exact ⟨g1, g2, g3, ys, t, concL_takeRho cs ys hin g4, g5⟩
        | vec t xs own => cases own <;> exact this
      · cases hb
    · simp only [takeN_eq] at hb hb'
      rw [List.getElem?_take] at hb hb' hl hl'
      split at hb
      · rename_i hk
        rw [if_pos hk] at hl
        split at hb'
        · rename_i hk'
          rw [if_pos hk'] at hl'
          exact hr.sep k k' b b' l l' hb hb' hl hl' hne
        · cases hb'
      · cases hb
    · have hin := h1 sl (List.mem_of_getElem? hi)
      cases sl with
      | opt ds v => cases hin
      | _ => rfl

def DrawSound (P : Program) (w0 : World) (cfg : Cfg (X := X)) (fail : R) (φ : R → Prop) : Prop :=
  ∀ (id : Nat) (ops : Array Oper) (s : St (X := X)) (K : St (X := X) → R) (ρ : List Loc) (a : Act) (w : World), drawOk ops.toList s = true → φ (regionGo { cfg with H := [] } fail (fun _ _ _ _ => fail) ops.toList s K) → FR ρ s.tm a → HR w0 ρ s.hp w → noOpts s.tm →
    (Code.region id ops true).wp P (Through (Next w0 φ ρ false K)) a w

theorem Ends.mono {S : Ex → St (X := X) → Prop} {ρ ρ' : List Loc} (h : ρ <+: ρ') {e : Exit} {a : Act} {w : World} (he : Ends w0 S ρ' e a w) : Ends w0 S ρ e a w := by
  obtain ⟨e', s, ρ2, h1, h2, h3, h4⟩ := he
  exact ⟨e', s, ρ2, h1, h2, h.trans h3, h4⟩

theorem exec_sound (hf0 : ¬ φ fail) (hq : EOk P G cfg) (hG : G w0) {ci : CallIn (X := X) (R := R)} (hci : CiOk P w0 φ ci) (hd : DrawSound P w0 cfg fail φ) {fuel f : Nat} :
    ∀ (c : Code) (p : Nat) (s : St (X := X)) (K : Ex → St (X := X) → R) (ρ : List Loc) (a : Act) (w : World), φ (exec cfg fail ci fuel f p c s K) → FR ρ s.tm a → HR w0 ρ s.hp w → noOpts s.tm →
    c.wp P (Ends w0 (fun e s => φ (K e s)) ρ) a w := by
  intro c
  induction c with
  | skip => intro p s K ρ a w h hf hr hn; exact wp_skip ⟨.normal, s, ρ, rfl, h, List.prefix_refl _, hf, hr, hn⟩
  | label l => intro p s K ρ a w h hf hr hn; exact wp_label ⟨.normal, s, ρ, rfl, h, List.prefix_refl _, hf, hr, hn⟩
  | ret => intro p s K ρ a w h hf hr hn; exact wp_ret ⟨.ret, s, ρ, rfl, h, List.prefix_refl _, hf, hr, hn⟩
  | exit id => intro p s K ρ a w h hf hr hn; exact wp_exit ⟨.exit id, s, ρ, rfl, h, List.prefix_refl _, hf, hr, hn⟩
  | goto l => intro p s K ρ a w h hf hr hn; exact wp_goto ⟨.goto l, s, ρ, rfl, h, List.prefix_refl _, hf, hr, hn⟩
  | refuse why => intro p s K ρ a w h hf hr hn; exact absurd h hf0
  | rangeFunc => intro p s K ρ a w h hf hr hn; exact absurd h hf0
  | region id ops draw =>
    intro p s K ρ a w h hf hr hn
    unfold exec at h
    have key : (Code.region id ops draw).wp P (Through (Next w0 φ ρ false (K .normal))) a w := by
      cases draw with
      | false => exact regionGo_sound hf0 hq hG hci h hf hr hn
      | true =>
        cases hdr : drawOk ops.toList s with
        | false => rw [hdr] at h; exact absurd h hf0
        | true => rw [hdr] at h; exact hd id ops s (K .normal) ρ a w hdr h hf hr hn
    refine Code.wp_mono ?_ key
    intro e a' w' hq'
    cases e <;> simp only [Through] at hq'
    obtain ⟨s', ρ', h1, h2, h3, h4, h5⟩ := hq'
    exact ⟨.normal, s', ρ', rfl, h1, h2, h3, h4, h5 rfl⟩
  | seq x y ihx ihy =>
    intro p s K ρ a w h hf hr hn
    unfold exec at h
    refine wp_seq (Code.wp_mono ?_ (ihx (2 * p) s _ ρ a w h hf hr hn))
    intro e a' w' ⟨e', s', ρ', he, h1, h2, h3, h4, h5⟩
    subst he
    cases e' with
    | normal =>
      exact Code.wp_mono (fun e a w he => Ends.mono h2 he) (ihy (2 * p + 1) s' K ρ' a' w' h1 h3 h4 h5)
    | exit id => exact ⟨.exit id, s', ρ', rfl, h1, h2, h3, h4, h5⟩
    | goto l => exact ⟨.goto l, s', ρ', rfl, h1, h2, h3, h4, h5⟩
    | ret => exact ⟨.ret, s', ρ', rfl, h1, h2, h3, h4, h5⟩
  | cond c x y ihx ihy =>
    intro p s K ρ a w h hf hr hn
    unfold exec at h
    split at h
    · rename_i b hb
      have hev := rd_sound hf (rfl : holdB s.tm [] = true) hb
      rw [conc_bool] at hev
      cases b with
      | true => exact wp_cond_true hev (ihx (2 * p) s K ρ a w h hf hr hn)
      | false => exact wp_cond_false hev (ihy (2 * p + 1) s K ρ a w h hf hr hn)
    · exact absurd h hf0
  | block id c ih =>
    intro p s K ρ a w h hf hr hn
    unfold exec at h
    refine wp_block (Code.wp_mono ?_ (ih (2 * p) s _ ρ a w h hf hr hn))
    intro e a' w' ⟨e', s', ρ', he, h1, h2, h3, h4, h5⟩
    subst he
    cases e' with
    | normal => exact ⟨.normal, s', ρ', rfl, h1, h2, h3, h4, h5⟩
    | exit id' =>
      simp only [toExit, Exit.inBlock]
      cases hi : Nat.beq id' id with
      | true =>
        simp only [hi, cond_true] at h1
        rw [if_pos (Nat.eq_of_beq_eq_true hi)]
        exact ⟨.normal, s', ρ', rfl, h1, h2, h3, h4, h5⟩
      | false =>
        simp only [hi, cond_false] at h1
        rw [if_neg (Nat.ne_of_beq_eq_false hi)]
        exact ⟨.exit id', s', ρ', rfl, h1, h2, h3, h4, h5⟩
    | goto l => exact ⟨.goto l, s', ρ', rfl, h1, h2, h3, h4, h5⟩
    | ret => exact ⟨.ret, s', ρ', rfl, h1, h2, h3, h4, h5⟩
  | scope c ih =>
    intro p s K ρ a w h hf hr hn
    unfold exec at h
    refine wp_scope_straight (Code.wp_mono ?_ (ih (2 * p) s _ ρ a w h hf hr hn))
    intro e a' w' ⟨e', s', ρ', he, h1, h2, h3, h4, h5⟩
    subst he
    cases e' with
    | normal => exact ⟨.normal, s', ρ', rfl, h1, h2, h3, h4, h5⟩
    | exit id => exact ⟨.exit id, s', ρ', rfl, h1, h2, h3, h4, h5⟩
    | goto l => exact absurd h1 hf0
    | ret => exact ⟨.ret, s', ρ', rfl, h1, h2, h3, h4, h5⟩
  | loop c ih =>
    intro p s K ρ a w h hf hr hn
    unfold exec at h
    split at h
    · rename_i keep m hg
      cases hble : Nat.ble s.hp.length m with
      | false => rw [hble] at h; exact absurd h hf0
      | true =>
        rw [hble, cond_true] at h
        have hlen := Nat.le_of_ble_eq_true hble
        have hlen : ρ.length ≤ m := by rw [hr.len]; exact hlen
        have key : ∀ (k : Nat) (s : St (X := X)) (ρ1 : List Loc) (a : Act) (w : World), φ (iter fail (fun s' K' => exec cfg fail ci fuel f (2 * p) c s' (forgetK fail keep m K')) k s K) → ρ <+: ρ1 → FR ρ1 s.tm a → HR w0 ρ1 s.hp w → noOpts s.tm → Code.rounds P c (Ends w0 (fun e s => φ (K e s)) ρ) k a w := by
          intro k
          induction k with
          | zero => intro s ρ1 a w h; exact absurd h hf0
          | succ k ihk =>
            intro s ρ1 a w h hρ hf hr hn
            rw [rounds_succ]
            refine Code.wp_mono ?_ (ih (2 * p) s _ ρ1 a w h hf hr hn)
            intro e a' w' ⟨e', s', ρ', he, h1, h2, h3, h4, h5⟩
            subst he
            dsimp only at h1
            rw [forgetK] at h1
            split at h1
            · rename_i s'' hs''
              obtain ⟨g1, g2, g3⟩ := forget_sound hs'' h3 h4
              have hpre : ρ <+: ρ'.take m := List.prefix_take_iff.2 ⟨hρ.trans h2, hlen⟩
              cases e' with
              | normal => exact ihk s'' _ a' w' h1 hpre g1 g2 g3
              | exit id => exact ⟨.exit id, s'', _, rfl, h1, hpre, g1, g2, g3⟩
              | goto l => exact ⟨.goto l, s'', _, rfl, h1, hpre, g1, g2, g3⟩
              | ret => exact ⟨.ret, s'', _, rfl, h1, hpre, g1, g2, g3⟩
            · exact absurd h1 hf0
        rw [forgetK] at h
        split at h
        · rename_i s0 hs0
          obtain ⟨g1, g2, g3⟩ := forget_sound hs0 hf hr
          exact wp_loop_rounds fuel (key fuel s0 _ a w h (List.prefix_take_iff.2 ⟨List.prefix_refl _, hlen⟩) g1 g2 g3)
        · exact absurd h hf0
    · have key : ∀ (k : Nat) (s : St (X := X)) (ρ1 : List Loc) (a : Act) (w : World), φ (iter fail (fun s' K' => exec cfg fail ci fuel f (2 * p) c s' K') k s K) → ρ <+: ρ1 → FR ρ1 s.tm a → HR w0 ρ1 s.hp w → noOpts s.tm → Code.rounds P c (Ends w0 (fun e s => φ (K e s)) ρ) k a w := by
        intro k
        induction k with
        | zero => intro s ρ1 a w h; exact absurd h hf0
        | succ k ihk =>
          intro s ρ1 a w h hρ hf hr hn
          rw [rounds_succ]
          refine Code.wp_mono ?_ (ih (2 * p) s _ ρ1 a w h hf hr hn)
          intro e a' w' ⟨e', s', ρ', he, h1, h2, h3, h4, h5⟩
          subst he
          cases e' with
          | normal => exact ihk s' ρ' a' w' h1 (hρ.trans h2) h3 h4 h5
          | exit id => exact ⟨.exit id, s', ρ', rfl, h1, hρ.trans h2, h3, h4, h5⟩
          | goto l => exact ⟨.goto l, s', ρ', rfl, h1, hρ.trans h2, h3, h4, h5⟩
          | ret => exact ⟨.ret, s', ρ', rfl, h1, hρ.trans h2, h3, h4, h5⟩
      exact wp_loop_rounds fuel (key fuel s ρ a w h (List.prefix_refl _) hf hr hn)

/-! ### A call -/
def resOne (tmps : Array Value) : ResultVar → Sem Value
  | .tmp t => pure (tmps.getD t undef)
  | .cell ad t => do loadVar t (← asAddr (tmps.getD ad undef))

omit X in
theorem results_eq (fn : Func) (tmps : Array Value) : results fn tmps = (do
    let vs ← fn.results.mapM (resOne tmps)
    pure (if h : vs.size = 1 then vs[0] else .tuple vs)) := by
  unfold results
  congr 1

theorem resultOf_sound (hq : QOk P G cfg) {ρ : List Loc} {hp : List (Blk (X := X))} {tm : List Slot} {a : Act} {w : World} {r : ResultVar} {v : AV} (hf : FR ρ tm a) (hr : HR w0 ρ hp w) (h : resultOf cfg hp tm r = some v) :
    ∃ x, conc ρ v = some x ∧ (resOne a.tmps r).run P w = .ok x w := by
  cases r with
  | tmp t => exact ⟨_, rd_sound (x := .tmp t) hf (rfl : holdB tm [] = true) h, rfl⟩
  | cell ad t =>
    simp only [resultOf] at h
    split at h
    · rename_i k o i hrd ht
      obtain ⟨inf, h1, h2⟩ := (chkAll_look hq.types t i ht).info
      obtain ⟨d, h3, h4⟩ := (chkAll_look hq.types t i ht).und
      simp only [Option.map_eq_some_iff] at h
      obtain ⟨⟨ok, u⟩, hl, e⟩ := h
      simp only at e
      subst e
      rw [← h2, ← h4] at hl
      have hok : ok = true := by
        simp only [loadAt] at hl
        split at hl
        · simp only [Option.map_eq_some_iff, Prod.mk.injEq] at hl
          obtain ⟨_, _, e, _⟩ := hl
          exact e.symm
        · cases hl
      obtain ⟨x, ad', e, hx, hrun⟩ := loadAt_sound (P := P) hq.elts hr h1 h3 (rd_sound hf (rfl : holdB tm [] = true) hrd) hl hok
      refine ⟨x, hx, ?_⟩
      have e' : a.tmps.getD ad undef = .pointer (some ad') := e
      simp only [resOne, e', asAddr, Sem.run_bind, Sem.run_pure, Result.andThen_ok, hrun]
    · cases h

theorem resultsOf_sound (hq : QOk P G cfg) {ρ : List Loc} {hp : List (Blk (X := X))} {tm : List Slot} {a : Act} {w : World} (hf : FR ρ tm a) (hr : HR w0 ρ hp w) : ∀ {rs : List ResultVar} {vs : List AV}, resultsOf cfg hp tm rs = some vs →
    ∃ xs, concL ρ vs = some xs ∧ (rs.mapM (resOne a.tmps)).run P w = .ok xs w
  | [], vs, h => by simp only [resultsOf, Option.some.injEq] at h; subst h; exact ⟨[], rfl, by simp⟩
  | r :: rs, vs, h => by
    simp only [resultsOf] at h
    split at h
    · rename_i v us hv hus
      simp only [Option.some.injEq] at h
      subst h
      obtain ⟨x, hx, hrun⟩ := resultOf_sound (P := P) hq hf hr hv
      obtain ⟨xs, hxs, hruns⟩ := resultsOf_sound hq hf hr hus
      refine ⟨x :: xs, concL_cons.2 ⟨_, _, hx, hxs, rfl⟩, ?_⟩
      simp only [List.mapM_cons, Sem.run_bind, hrun, Result.andThen_ok, hruns, Sem.run_pure]
    · cases h

theorem results_sound (hq : QOk P G cfg) {ρ : List Loc} {hp : List (Blk (X := X))} {tm : List Slot} {a : Act} {w : World} {fn : Func} {vs : List AV} (hf : FR ρ tm a) (hr : HR w0 ρ hp w) (h : resultsOf cfg hp tm fn.results.toList = some vs) :
    ∃ x, conc ρ (single vs) = some x ∧ (results fn a.tmps).run P w = .ok x w := by
  obtain ⟨xs, hxs, hrun⟩ := resultsOf_sound (P := P) hq hf hr h
  have hlen := concL_length hxs
  have hres : (results fn a.tmps).run P w = .ok (if h : xs.toArray.size = 1 then xs.toArray[0] else .tuple xs.toArray) w := by
    simp only [results_eq, Array.mapM_eq_mapM_toList, Sem.run_bind, Sem.run_map, hrun, Result.andThen_ok, Sem.run_pure]
  rw [hres]
  match vs, xs, hxs, hlen with
  | [v], [x], hxs, _ =>
    obtain ⟨y, ys, hy, _, e⟩ := concL_cons.1 hxs
    simp only [List.cons.injEq] at e
    exact ⟨x, by rw [e.1]; exact hy, by simp⟩
  | [], [], hxs, _ => exact ⟨_, by simp only [single, conc, hxs, Option.bind_some]; rfl, by simp⟩
  | u :: v :: l, x :: y :: m, hxs, _ => exact ⟨_, by simp only [single, conc, hxs, Option.bind_some]; rfl, by simp⟩
  | [v], x :: y :: l, _, hlen => simp at hlen
  | [v], [], _, hlen => simp at hlen
  | [], x :: l, _, hlen => simp at hlen
  | u :: v :: l, [x], _, hlen => simp at hlen
  | u :: v :: l, [], _, hlen => simp at hlen

omit X in
theorem padTo_length : ∀ (n : Nat) (l : List Slot), (padTo n l).length = max n l.length
  | 0, l => by simp [padTo]
  | n + 1, [] => by simp [padTo, padTo_length n []]
  | n + 1, x :: l => by simp only [padTo, List.length_cons, padTo_length n l]; omega

omit X in
theorem padTo_get : ∀ (n : Nat) (l : List Slot) (i : Nat) (s : Slot), (padTo n l)[i]? = some s → l[i]? = some s ∨ s = .any
  | 0, l, i, s, h => .inl h
  | n + 1, [], 0, s, h => by simp only [padTo, List.getElem?_cons_zero, Option.some.injEq] at h; exact .inr h.symm
  | n + 1, [], i + 1, s, h => by
    simp only [padTo, List.getElem?_cons_succ] at h
    rcases padTo_get n [] i s h with h | h
    · simp at h
    · exact .inr h
  | n + 1, x :: l, 0, s, h => .inl h
  | n + 1, x :: l, i + 1, s, h => by
    simp only [padTo, List.getElem?_cons_succ] at h ⊢
    exact padTo_get n l i s h

theorem runFn_sound (hf0 : ¬ φ fail) (hq : EOk P G cfg) (hG : G w0) {ci : CallIn (X := X) (R := R)} (hci : CiOk P w0 φ ci) (hd : DrawSound P w0 cfg fail φ) {fuel f : Nat} {fn : Func} (hfn : P.funcs[f]? = some fn)
    {args : List AV} {hp : List (Blk (X := X))} {K : AV → List (Blk (X := X)) → R} (h : φ (runFn cfg fail ci fuel f fn args hp K)) {ρ : List Loc} {w : World} {xs : List Value} (hr : HR w0 ρ hp w) (ha : concL ρ args = some xs) :
    Calls P f xs.toArray w (fun e w' => ∃ v hp' ρ' x, e = .returned x ∧ φ (K v hp') ∧ ρ <+: ρ' ∧ conc ρ' v = some x ∧ HR w0 ρ' hp' w') := by
  unfold runFn at h
  split at h
  · rename_i c hc
    have hxl := concL_length ha
    have hno : noOpts (padTo fn.ntmps (args.map .is)) := by
      intro i s hi
      rcases padTo_get _ _ i s hi with h1 | rfl
      · rw [List.getElem?_map] at h1
        simp only [Option.map_eq_some_iff] at h1
        obtain ⟨v, _, rfl⟩ := h1
        rfl
      · rfl
    have hfr : FR ρ (padTo fn.ntmps (args.map .is)) { tmps := xs.toArray ++ Array.replicate (fn.ntmps - xs.toArray.size) undef, defers := [] } := by
      refine ⟨by rw [padTo_length]; simp; omega, fun i s hi => ?_, rfl⟩
      rcases padTo_get _ _ i s hi with h1 | rfl
      · rw [List.getElem?_map] at h1
        simp only [Option.map_eq_some_iff] at h1
        obtain ⟨v, hv, rfl⟩ := h1
        obtain ⟨x, hx, hcx⟩ := concL_get ha hv
        have hil : i < xs.length := (List.getElem?_eq_some_iff.1 hx).1
        have : (xs.toArray ++ Array.replicate (fn.ntmps - xs.toArray.size) undef).getD i undef = x := by
          rw [Array.getD_eq_getD_getElem?, Array.getElem?_append_left (by simpa using hil)]
          simp [hx]
        show conc ρ v = some _
        rw [this]
        exact hcx
      · trivial
    refine calls_of_wp hfn hc (Code.wp_mono ?_ (exec_sound hf0 hq hG hci hd c 1 _ _ ρ _ w h hfr hr hno))
    intro e a' w' ⟨e', s', ρ', he, h1, h2, h3, h4, h5⟩
    subst he
    cases e' with
    | normal =>
      simp only at h1
      split at h1
      · rename_i vs hvs
        obtain ⟨x, hx, hrun⟩ := results_sound (P := P) hq.toQOk h3 h4 hvs
        exact ⟨h3.defers, x, hrun, _, _, ρ', x, rfl, h1, h2, hx, h4⟩
      · exact absurd h1 hf0
    | ret =>
      simp only at h1
      split at h1
      · rename_i vs hvs
        obtain ⟨x, hx, hrun⟩ := results_sound (P := P) hq.toQOk h3 h4 hvs
        exact ⟨h3.defers, x, hrun, _, _, ρ', x, rfl, h1, h2, hx, h4⟩
      · exact absurd h1 hf0
    | exit id => exact absurd h1 hf0
    | goto l => exact absurd h1 hf0
  · exact absurd h hf0

/-- The functions that are walked into. -/
def FOk (P : Program) (F : List (Nat × Func)) : Prop := ∀ f fn, look F f = some fn → FnOk P f ∧ P.funcs[f]? = some fn

theorem callD_sound (hf0 : ¬ φ fail) (hq : EOk P G cfg) (hG : G w0) (hF : FOk P cfg.F) (hd : DrawSound P w0 cfg fail φ) {fuel : Nat} : ∀ d, CiOk P w0 φ (callD cfg fail fuel d)
  | 0 => fun n args hp K h => absurd h hf0
  | d + 1 => fun n args hp K h ρ w xs hr ha => by
    unfold callD at h
    split at h
    · rename_i fn hfn
      obtain ⟨h1, h2⟩ := hF n fn hfn
      have ih := callD_sound hf0 hq hG hF hd (fuel := fuel) d
      exact ⟨h1, runFn_sound hf0 hq hG ih hd h2 h hr ha⟩
    · exact absurd h hf0
end
end Go.Proofs.Ytkcpgejmafobjaa.Px
