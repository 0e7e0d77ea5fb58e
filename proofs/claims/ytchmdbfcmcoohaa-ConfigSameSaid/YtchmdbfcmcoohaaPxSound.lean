/- The evaluator's word on a piece of code, and on a call, is the model's. -/
import Derived.Test.YtchmdbfcmcoohaaPxForget
set_option linter.unusedVariables false
set_option linter.unusedSimpArgs false
namespace Go.Proofs.Ytchmdbfcmcoohaa.Px
open Go Go.RowKit

def toExit : Ex → Exit
  | .normal => .normal
  | .exit id => .exit id
  | .goto l => .goto l
  | .ret => .ret

section
variable [X : Elts] {P : Program} {G : World → Prop} {cfg : Cfg (X := X)} {w0 : World} {R : Type} {fail : R} {φ : R → Prop}

/-- However a piece of code ends, the evaluator has said so. -/
def Ends (w0 : World) (S : Ex → St (X := X) → Prop) (ρ : List Loc) : Exit → Act → World → Prop :=
  fun e a w => ∃ e' s ρ', e = toExit e' ∧ S e' s ∧ ρ <+: ρ' ∧ FR ρ' s.tm a ∧ HR w0 ρ' s.hp w ∧ noOpts s.tm

end

section
variable [X : Elts] {P : Program} {G : World → Prop} {cfg : Cfg (X := X)} {w0 : World} {R : Type} {fail : R} {φ : R → Prop}

/-- A piece of code at a place of a body. -/
inductive Sub (body : Code) : Nat → Code → Prop where
  | root : Sub body 1 body
  | seq1 {p : Nat} {a b : Code} : Sub body p (.seq a b) → Sub body (2 * p) a
  | seq2 {p : Nat} {a b : Code} : Sub body p (.seq a b) → Sub body (2 * p + 1) b
  | cond1 {p : Nat} {c : Operand} {a b : Code} : Sub body p (.cond c a b) → Sub body (2 * p) a
  | cond2 {p : Nat} {c : Operand} {a b : Code} : Sub body p (.cond c a b) → Sub body (2 * p + 1) b
  | block {p i : Nat} {a : Code} : Sub body p (.block i a) → Sub body (2 * p) a
  | loop {p : Nat} {a : Code} : Sub body p (.loop a) → Sub body (2 * p) a
  | scope {p : Nat} {a : Code} : Sub body p (.scope a) → Sub body (2 * p) a

theorem altK_eq {R' : Type} (K : Ex → St (X := X) → R') : ∀ (l : List (Bool × Ex × St (X := X))) (e : Ex) (s : St (X := X)), altK K l e s = (fun p : Ex × St (X := X) => K p.1 p.2) (altK Prod.mk l e s)
  | [], _, _ => rfl
  | (b, e', s') :: l, e, s => by cases b with
    | true => rfl
    | false => exact altK_eq K l e s

/-- What is claimed of a loop whose end is known. -/
def LConOk (P : Program) (G : World → Prop) (c : Code) (m : Nat) (con : St (X := X) → Option (Bool × List (Bool × Ex × St (X := X)) × Ex × St (X := X))) : Prop :=
  ∀ s l e s', con s = some (true, l, e, s') → ∀ (w0 : World) (ρ : List Loc) (a : Act) (w : World), G w0 → FR ρ s.tm a → HR w0 ρ s.hp w → noOpts s.tm →
    c.wp P (Ends w0 (fun e1 s1 => (e1, s1) = altK Prod.mk l e s') (ρ.take m)) a w

/-- The loops of functions. -/
def LoopsOk (P : Program) (G : World → Prop) (cfg : Cfg (X := X)) : Prop :=
  ∀ f p sp con, look2 cfg.lp f p = some sp → sp.con = some con → ∀ fn body, P.funcs[f]? = some fn → fn.body = some body → ∀ c, Sub body p c → LConOk P G c sp.m con

def DrawSound (P : Program) (w0 : World) (cfg : Cfg (X := X)) (fail : R) (φ : R → Prop) : Prop :=
  (∀ (id : Nat) (ops : Array Oper) (s : St (X := X)) (K : St (X := X) → R) (ρ : List Loc) (a : Act) (w : World), drawOk ops.toList s = true → φ (regionGo { cfg with H := [], apn := false } fail (fun _ _ _ _ => fail) ops.toList s K) → FR ρ s.tm a → HR w0 ρ s.hp w → noOpts s.tm →
    (Code.region id ops true).wp P (Through (Next w0 φ ρ false K)) a w) ∧
  (∀ (id : Nat) (ops : Array Oper) (s : St (X := X)) (K : St (X := X) → R) (ρ : List Loc) (a : Act) (w : World), kindG ops.toList s (reach ops.toList) = true → φ (regionGo { cfg with apn := false } fail (fun _ _ _ _ => fail) ops.toList s K) → FR ρ s.tm a → HR w0 ρ s.hp w → noOpts s.tm →
    (Code.region id ops true).wp P (Through (Next w0 φ ρ false K)) a w)

theorem Ends.mono {S : Ex → St (X := X) → Prop} {ρ ρ' : List Loc} (h : ρ <+: ρ') {e : Exit} {a : Act} {w : World} (he : Ends w0 S ρ' e a w) : Ends w0 S ρ e a w := by
  obtain ⟨e', s, ρ2, h1, h2, h3, h4⟩ := he
  exact ⟨e', s, ρ2, h1, h2, h.trans h3, h4⟩

theorem exec_sound (hf0 : ¬ φ fail) (hq : EOk P G cfg) (hlo : LoopsOk P G cfg) (hG : G w0) {ci : CallIn (X := X) (R := R)} (hci : CiOk P w0 φ ci) (hd : DrawSound P w0 cfg fail φ) {fuel f : Nat} {fn : Func} {body : Code} (hfn : P.funcs[f]? = some fn) (hbody : fn.body = some body) :
    ∀ (c : Code) (p : Nat) (s : St (X := X)) (K : Ex → St (X := X) → R) (ρ : List Loc) (a : Act) (w : World), Sub body p c → φ (exec cfg fail ci fuel f p c s K) → FR ρ s.tm a → HR w0 ρ s.hp w → noOpts s.tm →
    c.wp P (Ends w0 (fun e s => φ (K e s)) ρ) a w := by
  intro c
  induction c with
  | skip => intro p s K ρ a w hsub h hf hr hn; exact wp_skip ⟨.normal, s, ρ, rfl, h, List.prefix_refl _, hf, hr, hn⟩
  | label l => intro p s K ρ a w hsub h hf hr hn; exact wp_label ⟨.normal, s, ρ, rfl, h, List.prefix_refl _, hf, hr, hn⟩
  | ret => intro p s K ρ a w hsub h hf hr hn; exact wp_ret ⟨.ret, s, ρ, rfl, h, List.prefix_refl _, hf, hr, hn⟩
  | exit id => intro p s K ρ a w hsub h hf hr hn; exact wp_exit ⟨.exit id, s, ρ, rfl, h, List.prefix_refl _, hf, hr, hn⟩
  | goto l => intro p s K ρ a w hsub h hf hr hn; exact wp_goto ⟨.goto l, s, ρ, rfl, h, List.prefix_refl _, hf, hr, hn⟩
  | refuse why => intro p s K ρ a w hsub h hf hr hn; exact absurd h hf0
  | rangeFunc => intro p s K ρ a w hsub h hf hr hn; exact absurd h hf0
  | region id ops draw =>
    intro p s K ρ a w hsub h hf hr hn
    unfold exec at h
    have key : (Code.region id ops draw).wp P (Through (Next w0 φ ρ false (K .normal))) a w := by
      cases draw with
      | false => exact regionGo_sound hf0 hq hG hci h hf hr hn
      | true =>
        cases hdk : kindG ops.toList s (reach ops.toList) with
        | false =>
          rw [hdk, cond_false] at h
          cases hdr : drawOk ops.toList s with
          | false => rw [hdr] at h; exact absurd h hf0
          | true => rw [hdr] at h; exact hd.1 id ops s (K .normal) ρ a w hdr h hf hr hn
        | true => rw [hdk] at h; exact hd.2 id ops s (K .normal) ρ a w hdk h hf hr hn
    refine Code.wp_mono ?_ key
    intro e a' w' hq'
    cases e <;> simp only [Through] at hq'
    obtain ⟨s', ρ', h1, h2, h3, h4, h5⟩ := hq'
    exact ⟨.normal, s', ρ', rfl, h1, h2, h3, h4, h5 rfl⟩
  | seq x y ihx ihy =>
    intro p s K ρ a w hsub h hf hr hn
    unfold exec at h
    refine wp_seq (Code.wp_mono ?_ (ihx (2 * p) s _ ρ a w hsub.seq1 h hf hr hn))
    intro e a' w' ⟨e', s', ρ', he, h1, h2, h3, h4, h5⟩
    subst he
    cases e' with
    | normal =>
      exact Code.wp_mono (fun e a w he => Ends.mono h2 he) (ihy (2 * p + 1) s' K ρ' a' w' hsub.seq2 h1 h3 h4 h5)
    | exit id => exact ⟨.exit id, s', ρ', rfl, h1, h2, h3, h4, h5⟩
    | goto l => exact ⟨.goto l, s', ρ', rfl, h1, h2, h3, h4, h5⟩
    | ret => exact ⟨.ret, s', ρ', rfl, h1, h2, h3, h4, h5⟩
  | cond c x y ihx ihy =>
    intro p s K ρ a w hsub h hf hr hn
    unfold exec at h
    split at h
    · rename_i b hb
      have hev := rd_sound hf (rfl : holdB s.tm [] = true) hb
      rw [conc_bool] at hev
      cases b with
      | true => exact wp_cond_true hev (ihx (2 * p) s K ρ a w hsub.cond1 h hf hr hn)
      | false => exact wp_cond_false hev (ihy (2 * p + 1) s K ρ a w hsub.cond2 h hf hr hn)
    · exact absurd h hf0
  | block id c ih =>
    intro p s K ρ a w hsub h hf hr hn
    unfold exec at h
    refine wp_block (Code.wp_mono ?_ (ih (2 * p) s _ ρ a w hsub.block h hf hr hn))
    intro e a' w' ⟨e', s', ρ', he, h1, h2, h3, h4, h5⟩
    subst he
    cases e' with
    | normal => exact ⟨.normal, s', ρ', rfl, h1, h2, h3, h4, h5⟩
    | exit id' =>
      simp only [toExit, Exit.inBlock]
      cases hi : Nat.beq id' id with
      | true =>
        simp only [hi, cond_true] at h1
        rw [if_pos (Nat.eq_of_beq_eq_true hi)]
        exact ⟨.normal, s', ρ', rfl, h1, h2, h3, h4, h5⟩
      | false =>
        simp only [hi, cond_false] at h1
        rw [if_neg (Nat.ne_of_beq_eq_false hi)]
        exact ⟨.exit id', s', ρ', rfl, h1, h2, h3, h4, h5⟩
    | goto l => exact ⟨.goto l, s', ρ', rfl, h1, h2, h3, h4, h5⟩
    | ret => exact ⟨.ret, s', ρ', rfl, h1, h2, h3, h4, h5⟩
  | scope c ih =>
    intro p s K ρ a w hsub h hf hr hn
    unfold exec at h
    refine wp_scope_straight (Code.wp_mono ?_ (ih (2 * p) s _ ρ a w hsub.scope h hf hr hn))
    intro e a' w' ⟨e', s', ρ', he, h1, h2, h3, h4, h5⟩
    subst he
    cases e' with
    | normal => exact ⟨.normal, s', ρ', rfl, h1, h2, h3, h4, h5⟩
    | exit id => exact ⟨.exit id, s', ρ', rfl, h1, h2, h3, h4, h5⟩
    | goto l => exact absurd h1 hf0
    | ret => exact ⟨.ret, s', ρ', rfl, h1, h2, h3, h4, h5⟩
  | loop c ih =>
    intro p s K ρ a w hsub h hf hr hn
    unfold exec at h
    split at h
    · rename_i sp hg
      cases hble : Nat.beq s.hp.length sp.m with
      | false => rw [hble] at h; exact absurd h hf0
      | true =>
        rw [hble, cond_true] at h
        have hlen := Nat.eq_of_beq_eq_true hble
        have hlen : ρ.length = sp.m := by rw [hr.len]; exact hlen
        have key : ∀ (k : Nat) (s : St (X := X)) (ρ1 : List Loc) (a : Act) (w : World), φ (iter fail (fun s' K' => exec cfg fail ci fuel f (2 * p) c s' (forgetK fail sp K')) k s K) → ρ <+: ρ1 → FR ρ1 s.tm a → HR w0 ρ1 s.hp w → noOpts s.tm → Code.rounds P c (Ends w0 (fun e s => φ (K e s)) ρ) k a w := by
          intro k
          induction k with
          | zero => intro s ρ1 a w h; exact absurd h hf0
          | succ k ihk =>
            intro s ρ1 a w h hρ hf hr hn
            rw [rounds_succ]
            refine Code.wp_mono ?_ (ih (2 * p) s _ ρ1 a w hsub.loop h hf hr hn)
            intro e a' w' ⟨e', s', ρ', he, h1, h2, h3, h4, h5⟩
            subst he
            cases e' with
            | normal =>
              simp only [forgetK, forgetN] at h1
              split at h1
              · rename_i ok s'' hs''
                cases ok with
                | false => exact absurd h1 hf0
                | true =>
                  obtain ⟨_, ρ2, g0, g1, g2, g3⟩ := forget_sound hs'' h3 h4 h5
                  have hpre : ρ <+: ρ'.take sp.m := List.prefix_take_iff.2 ⟨hρ.trans h2, by omega⟩
                  exact ihk s'' _ a' w' h1 (hpre.trans g0) g1 g2 g3
              · exact absurd h1 hf0
            | exit id => exact ⟨.exit id, s', ρ', rfl, h1, hρ.trans h2, h3, h4, h5⟩
            | goto l => exact ⟨.goto l, s', ρ', rfl, h1, hρ.trans h2, h3, h4, h5⟩
            | ret => exact ⟨.ret, s', ρ', rfl, h1, hρ.trans h2, h3, h4, h5⟩
        rw [forgetN] at h
        split at h
        · rename_i ok s0 hs0
          cases ok with
          | false => exact absurd h hf0
          | true =>
            obtain ⟨_, ρ2, g0, g1, g2, g3⟩ := forget_sound hs0 hf hr hn
            have : ρ.take sp.m = ρ := by rw [← hlen, List.take_length]
            rw [this] at g0
            rw [cond_true] at h
            split at h
            · rename_i con hcon
              split at h
              · rename_i ok l e s' hs'
                cases ok with
                | false => exact absurd h hf0
                | true =>
                  rw [cond_true, altK_eq] at h
                  refine Code.wp_mono ?_ (hlo f p sp con hg hcon fn body hfn hbody _ hsub s0 l e s' hs' w0 ρ2 a w hG g1 g2 g3)
                  intro e1 a1 w1 ⟨e2, s2, ρ3, k1, k2, k3, k4⟩
                  have h' : φ (K e2 s2) := by rw [← k2] at h; exact h
                  have hpre : ρ = ρ2.take sp.m := by rw [← hlen]; exact List.prefix_iff_eq_take.1 g0
                  exact ⟨e2, s2, ρ3, k1, h', hpre ▸ k3, k4⟩
              · exact absurd h hf0
            · exact wp_loop_rounds fuel (key fuel s0 _ a w h g0 g1 g2 g3)
        · exact absurd h hf0
    · have key : ∀ (k : Nat) (s : St (X := X)) (ρ1 : List Loc) (a : Act) (w : World), φ (iter fail (fun s' K' => exec cfg fail ci fuel f (2 * p) c s' K') k s K) → ρ <+: ρ1 → FR ρ1 s.tm a → HR w0 ρ1 s.hp w → noOpts s.tm → Code.rounds P c (Ends w0 (fun e s => φ (K e s)) ρ) k a w := by
        intro k
        induction k with
        | zero => intro s ρ1 a w h; exact absurd h hf0
        | succ k ihk =>
          intro s ρ1 a w h hρ hf hr hn
          rw [rounds_succ]
          refine Code.wp_mono ?_ (ih (2 * p) s _ ρ1 a w hsub.loop h hf hr hn)
          intro e a' w' ⟨e', s', ρ', he, h1, h2, h3, h4, h5⟩
          subst he
          cases e' with
          | normal => exact ihk s' ρ' a' w' h1 (hρ.trans h2) h3 h4 h5
          | exit id => exact ⟨.exit id, s', ρ', rfl, h1, hρ.trans h2, h3, h4, h5⟩
          | goto l => exact ⟨.goto l, s', ρ', rfl, h1, hρ.trans h2, h3, h4, h5⟩
          | ret => exact ⟨.ret, s', ρ', rfl, h1, hρ.trans h2, h3, h4, h5⟩
      exact wp_loop_rounds 200 (key 200 s ρ a w h (List.prefix_refl _) hf hr hn)

/-- A loop's rounds. -/
theorem iter_sound (hf0 : ¬ φ fail) (hq : EOk P G cfg) (hlo : LoopsOk P G cfg) (hG : G w0) {ci : CallIn (X := X) (R := R)} (hci : CiOk P w0 φ ci) (hd : DrawSound P w0 cfg fail φ) {fuel f : Nat} {fn : Func} {body : Code} (hfn : P.funcs[f]? = some fn) (hbody : fn.body = some body)
    {sp : LSpec (X := X)} {p : Nat} {c : Code} (hsub : Sub body p (.loop c)) {K : Ex → St (X := X) → R} {ρ : List Loc} (hlen : ρ.length = sp.m) :
    ∀ (k : Nat) (s : St (X := X)) (ρ1 : List Loc) (a : Act) (w : World), φ (iter fail (fun s' K' => exec cfg fail ci fuel f (2 * p) c s' (forgetK fail sp K')) k s K) → ρ <+: ρ1 → FR ρ1 s.tm a → HR w0 ρ1 s.hp w → noOpts s.tm → Code.rounds P c (Ends w0 (fun e s => φ (K e s)) ρ) k a w := by
  intro k
  induction k with
  | zero => intro s ρ1 a w h; exact absurd h hf0
  | succ k ihk =>
    intro s ρ1 a w h hρ hf hr hn
    rw [rounds_succ]
    refine Code.wp_mono ?_ (exec_sound hf0 hq hlo hG hci hd hfn hbody c (2 * p) s _ ρ1 a w hsub.loop h hf hr hn)
    intro e a' w' ⟨e', s', ρ', he, h1, h2, h3, h4, h5⟩
    subst he
    cases e' with
    | normal =>
      simp only [forgetK, forgetN] at h1
      split at h1
      · rename_i ok s'' hs''
        cases ok with
        | false => exact absurd h1 hf0
        | true =>
          obtain ⟨_, ρ2, g0, g1, g2, g3⟩ := forget_sound hs'' h3 h4 h5
          have hpre : ρ <+: ρ'.take sp.m := List.prefix_take_iff.2 ⟨hρ.trans h2, by omega⟩
          exact ihk s'' _ a' w' h1 (hpre.trans g0) g1 g2 g3
      · exact absurd h1 hf0
    | exit id => exact ⟨.exit id, s', ρ', rfl, h1, hρ.trans h2, h3, h4, h5⟩
    | goto l => exact ⟨.goto l, s', ρ', rfl, h1, hρ.trans h2, h3, h4, h5⟩
    | ret => exact ⟨.ret, s', ρ', rfl, h1, hρ.trans h2, h3, h4, h5⟩

/-! ### The code at a place -/
def num : List Bool → Nat
  | [] => 1
  | true :: l => 2 * num l + 1
  | false :: l => 2 * num l

omit X in
theorem num_pos : ∀ l, 0 < num l
  | [] => by simp [num]
  | true :: l => by simp [num]
  | false :: l => by have := num_pos l; simp only [num]; omega

omit X in
theorem num_inj : ∀ l m, num l = num m → l = m
  | [], [], _ => rfl
  | [], true :: m, h => by have := num_pos m; simp only [num] at h; omega
  | [], false :: m, h => by simp only [num] at h; omega
  | true :: l, [], h => by have := num_pos l; simp only [num] at h; omega
  | false :: l, [], h => by simp only [num] at h; omega
  | true :: l, true :: m, h => by simp only [num] at h; rw [num_inj l m (by omega)]
  | false :: l, false :: m, h => by simp only [num] at h; rw [num_inj l m (by omega)]
  | true :: l, false :: m, h => by simp only [num] at h; omega
  | false :: l, true :: m, h => by simp only [num] at h; omega

/-- One step down. -/
def down : Bool → Code → Option Code
  | false, .seq a _ => some a
  | true, .seq _ b => some b
  | false, .cond _ a _ => some a
  | true, .cond _ _ b => some b
  | false, .block _ a => some a
  | false, .loop a => some a
  | false, .scope a => some a
  | _, _ => none

/-- The code at a place: the last step first. -/
def codeB : List Bool → Code → Option Code
  | [], c => some c
  | b :: l, c => match codeB l c with
    | some x => down b x
    | none => none

omit X in
theorem Sub.path {body : Code} {p : Nat} {c : Code} (h : Sub body p c) : ∃ ds, num ds = p ∧ codeB ds body = some c := by
  induction h with
  | root => exact ⟨[], rfl, rfl⟩
  | seq1 _ ih => obtain ⟨ds, h1, h2⟩ := ih; exact ⟨false :: ds, by simp [num, h1], by simp [codeB, h2, down]⟩
  | seq2 _ ih => obtain ⟨ds, h1, h2⟩ := ih; exact ⟨true :: ds, by simp [num, h1], by simp [codeB, h2, down]⟩
  | cond1 _ ih => obtain ⟨ds, h1, h2⟩ := ih; exact ⟨false :: ds, by simp [num, h1], by simp [codeB, h2, down]⟩
  | cond2 _ ih => obtain ⟨ds, h1, h2⟩ := ih; exact ⟨true :: ds, by simp [num, h1], by simp [codeB, h2, down]⟩
  | block _ ih => obtain ⟨ds, h1, h2⟩ := ih; exact ⟨false :: ds, by simp [num, h1], by simp [codeB, h2, down]⟩
  | loop _ ih => obtain ⟨ds, h1, h2⟩ := ih; exact ⟨false :: ds, by simp [num, h1], by simp [codeB, h2, down]⟩
  | scope _ ih => obtain ⟨ds, h1, h2⟩ := ih; exact ⟨false :: ds, by simp [num, h1], by simp [codeB, h2, down]⟩

omit X in
theorem Sub.eq {body c c' : Code} {ds : List Bool} (h : Sub body (num ds) c) (hc : codeB ds body = some c') : c = c' := by
  obtain ⟨ds', h1, h2⟩ := h.path
  have := num_inj _ _ h1
  subst this
  rw [hc] at h2
  simpa using h2.symm

/-! ### A call -/
def resOne (tmps : Array Value) : ResultVar → Sem Value
  | .tmp t => pure (tmps.getD t undef)
  | .cell ad t => do loadVar t (← asAddr (tmps.getD ad undef))

omit X in
theorem results_eq (fn : Func) (tmps : Array Value) : results fn tmps = (do
    let vs ← fn.results.mapM (resOne tmps)
    pure (if h : vs.size = 1 then vs[0] else .tuple vs)) := by
  unfold results
  congr 1

theorem resultOf_sound (hq : QOk P G cfg) {ρ : List Loc} {hp : List (Blk (X := X))} {tm : List Slot} {a : Act} {w : World} {r : ResultVar} {v : AV} (hf : FR ρ tm a) (hr : HR w0 ρ hp w) (h : resultOf cfg hp tm r = some v) :
    ∃ x, conc ρ v = some x ∧ (resOne a.tmps r).run P w = .ok x w := by
  cases r with
  | tmp t => exact ⟨_, rd_sound (x := .tmp t) hf (rfl : holdB tm [] = true) h, rfl⟩
  | cell ad t =>
    simp only [resultOf] at h
    split at h
    · rename_i k o i hrd ht
      obtain ⟨inf, h1, h2⟩ := (chkAll_look hq.types t i ht).info
      obtain ⟨d, h3, h4⟩ := (chkAll_look hq.types t i ht).und
      simp only [Option.map_eq_some_iff] at h
      obtain ⟨⟨ok, u⟩, hl, e⟩ := h
      simp only at e
      subst e
      rw [← h2, ← h4] at hl
      have hok : ok = true := by
        simp only [loadAt] at hl
        split at hl
        · simp only [Option.map_eq_some_iff, Prod.mk.injEq] at hl
          obtain ⟨_, _, e, _⟩ := hl
          exact e.symm
        · cases hl
      obtain ⟨x, ad', e, hx, hrun⟩ := loadAt_sound (P := P) hq.elts hr h1 h3 (rd_sound hf (rfl : holdB tm [] = true) hrd) hl hok
      refine ⟨x, hx, ?_⟩
      have e' : a.tmps.getD ad undef = .pointer (some ad') := e
      simp only [resOne, e', asAddr, Sem.run_bind, Sem.run_pure, Result.andThen_ok, hrun]
    · cases h

theorem resultsOf_sound (hq : QOk P G cfg) {ρ : List Loc} {hp : List (Blk (X := X))} {tm : List Slot} {a : Act} {w : World} (hf : FR ρ tm a) (hr : HR w0 ρ hp w) : ∀ {rs : List ResultVar} {vs : List AV}, resultsOf cfg hp tm rs = some vs →
    ∃ xs, concL ρ vs = some xs ∧ (rs.mapM (resOne a.tmps)).run P w = .ok xs w
  | [], vs, h => by simp only [resultsOf, Option.some.injEq] at h; subst h; exact ⟨[], rfl, by simp⟩
  | r :: rs, vs, h => by
    simp only [resultsOf] at h
    split at h
    · rename_i v us hv hus
      simp only [Option.some.injEq] at h
      subst h
      obtain ⟨x, hx, hrun⟩ := resultOf_sound (P := P) hq hf hr hv
      obtain ⟨xs, hxs, hruns⟩ := resultsOf_sound hq hf hr hus
      refine ⟨x :: xs, concL_cons.2 ⟨_, _, hx, hxs, rfl⟩, ?_⟩
      simp only [List.mapM_cons, Sem.run_bind, hrun, Result.andThen_ok, hruns, Sem.run_pure]
    · cases h

theorem results_sound (hq : QOk P G cfg) {ρ : List Loc} {hp : List (Blk (X := X))} {tm : List Slot} {a : Act} {w : World} {fn : Func} {vs : List AV} (hf : FR ρ tm a) (hr : HR w0 ρ hp w) (h : resultsOf cfg hp tm fn.results.toList = some vs) :
    ∃ x, conc ρ (single vs) = some x ∧ (results fn a.tmps).run P w = .ok x w := by
  obtain ⟨xs, hxs, hrun⟩ := resultsOf_sound (P := P) hq hf hr h
  have hlen := concL_length hxs
  have hres : (results fn a.tmps).run P w = .ok (if h : xs.toArray.size = 1 then xs.toArray[0] else .tuple xs.toArray) w := by
    simp only [results_eq, Array.mapM_eq_mapM_toList, Sem.run_bind, Sem.run_map, hrun, Result.andThen_ok, Sem.run_pure]
  rw [hres]
  match vs, xs, hxs, hlen with
  | [v], [x], hxs, _ =>
    obtain ⟨y, ys, hy, _, e⟩ := concL_cons.1 hxs
    simp only [List.cons.injEq] at e
    exact ⟨x, by rw [e.1]; exact hy, by simp⟩
  | [], [], hxs, _ => exact ⟨_, by simp only [single, conc, hxs, Option.bind_some]; rfl, by simp⟩
  | u :: v :: l, x :: y :: m, hxs, _ => exact ⟨_, by simp only [single, conc, hxs, Option.bind_some]; rfl, by simp⟩
  | [v], x :: y :: l, _, hlen => simp at hlen
  | [v], [], _, hlen => simp at hlen
  | [], x :: l, _, hlen => simp at hlen
  | u :: v :: l, [x], _, hlen => simp at hlen
  | u :: v :: l, [], _, hlen => simp at hlen

omit X in
theorem padTo_length : ∀ (n : Nat) (l : List Slot), (padTo n l).length = max n l.length
  | 0, l => by simp [padTo]
  | n + 1, [] => by simp [padTo, padTo_length n []]
  | n + 1, x :: l => by simp only [padTo, List.length_cons, padTo_length n l]; omega

omit X in
theorem padTo_get : ∀ (n : Nat) (l : List Slot) (i : Nat) (s : Slot), (padTo n l)[i]? = some s → l[i]? = some s ∨ s = .any
  | 0, l, i, s, h => .inl h
  | n + 1, [], 0, s, h => by simp only [padTo, List.getElem?_cons_zero, Option.some.injEq] at h; exact .inr h.symm
  | n + 1, [], i + 1, s, h => by
    simp only [padTo, List.getElem?_cons_succ] at h
    rcases padTo_get n [] i s h with h | h
    · simp at h
    · exact .inr h
  | n + 1, x :: l, 0, s, h => .inl h
  | n + 1, x :: l, i + 1, s, h => by
    simp only [padTo, List.getElem?_cons_succ] at h ⊢
    exact padTo_get n l i s h

theorem runFn_sound (hf0 : ¬ φ fail) (hq : EOk P G cfg) (hlo : LoopsOk P G cfg) (hG : G w0) {ci : CallIn (X := X) (R := R)} (hci : CiOk P w0 φ ci) (hd : DrawSound P w0 cfg fail φ) {fuel f : Nat} {fn : Func} (hfn : P.funcs[f]? = some fn)
    {args : List AV} {hp : List (Blk (X := X))} {K : AV → List (Blk (X := X)) → R} (h : φ (runFn cfg fail ci fuel f fn args hp K)) {ρ : List Loc} {w : World} {xs : List Value} (hr : HR w0 ρ hp w) (ha : concL ρ args = some xs) :
    Calls P f xs.toArray w (fun e w' => ∃ v hp' ρ' x, e = .returned x ∧ φ (K v hp') ∧ ρ <+: ρ' ∧ conc ρ' v = some x ∧ HR w0 ρ' hp' w') := by
  rw [runFn_eq] at h
  unfold runFn0 at h
  split at h
  · rename_i c hc
    have hxl := concL_length ha
    have hno : noOpts (padTo fn.ntmps (args.map .is)) := by
      intro i s hi
      rcases padTo_get _ _ i s hi with h1 | rfl
      · rw [List.getElem?_map] at h1
        simp only [Option.map_eq_some_iff] at h1
        obtain ⟨v, _, rfl⟩ := h1
        rfl
      · rfl
    have hfr : FR ρ (padTo fn.ntmps (args.map .is)) { tmps := xs.toArray ++ Array.replicate (fn.ntmps - xs.toArray.size) undef, defers := [] } := by
      refine ⟨by rw [padTo_length]; simp; omega, fun i s hi => ?_, rfl⟩
      rcases padTo_get _ _ i s hi with h1 | rfl
      · rw [List.getElem?_map] at h1
        simp only [Option.map_eq_some_iff] at h1
        obtain ⟨v, hv, rfl⟩ := h1
        obtain ⟨x, hx, hcx⟩ := concL_get ha hv
        have hil : i < xs.length := (List.getElem?_eq_some_iff.1 hx).1
        have : (xs.toArray ++ Array.replicate (fn.ntmps - xs.toArray.size) undef).getD i undef = x := by
          rw [Array.getD_eq_getD_getElem?, Array.getElem?_append_left (by simpa using hil)]
          simp [hx]
        show conc ρ v = some _
        rw [this]
        exact hcx
      · trivial
    refine calls_of_wp hfn hc (Code.wp_mono ?_ (exec_sound hf0 hq hlo hG hci hd hfn hc c 1 _ _ ρ _ w .root h hfr hr hno))
    intro e a' w' ⟨e', s', ρ', he, h1, h2, h3, h4, h5⟩
    subst he
    cases e' with
    | normal =>
      simp only at h1
      split at h1
      · rename_i vs hvs
        obtain ⟨x, hx, hrun⟩ := results_sound (P := P) hq.toQOk h3 h4 hvs
        exact ⟨h3.defers, x, hrun, _, _, ρ', x, rfl, h1, h2, hx, h4⟩
      · exact absurd h1 hf0
    | ret =>
      simp only at h1
      split at h1
      · rename_i vs hvs
        obtain ⟨x, hx, hrun⟩ := results_sound (P := P) hq.toQOk h3 h4 hvs
        exact ⟨h3.defers, x, hrun, _, _, ρ', x, rfl, h1, h2, hx, h4⟩
      · exact absurd h1 hf0
    | exit id => exact absurd h1 hf0
    | goto l => exact absurd h1 hf0
  · exact absurd h hf0

/-- The functions that are walked into. -/
def FOk (P : Program) (F : List (Nat × Func)) : Prop := ∀ f fn, look F f = some fn → FnOk P f ∧ P.funcs[f]? = some fn

theorem callD_sound (hf0 : ¬ φ fail) (hq : EOk P G cfg) (hlo : LoopsOk P G cfg) (hG : G w0) (hF : FOk P cfg.F) (hd : DrawSound P w0 cfg fail φ) {fuel : Nat} : ∀ d, CiOk P w0 φ (callD cfg fail fuel d)
  | 0 => fun n args hp K h => absurd h hf0
  | d + 1 => fun n args hp K h ρ w xs hr ha => by
    unfold callD at h
    split at h
    · rename_i fn hfn
      obtain ⟨h1, h2⟩ := hF n fn hfn
      have ih := callD_sound hf0 hq hlo hG hF hd (fuel := fuel) d
      exact ⟨h1, runFn_sound hf0 hq hlo hG ih hd h2 h hr ha⟩
    · exact absurd h hf0
end
end Go.Proofs.Ytchmdbfcmcoohaa.Px
