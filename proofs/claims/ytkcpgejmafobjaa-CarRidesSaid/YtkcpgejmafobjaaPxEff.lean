/- Operations that make memory, or turn it. -/
import Derived.Test.YtkcpgejmafobjaaPxQuiet2
namespace Go.Proofs.Ytkcpgejmafobjaa.Px
open Go Go.RowKit

section
variable [X : Elts]

theorem BOk.ext {w0 w w' : World} {ρ ρ' : List Loc} {l : Loc} {b : Blk (X := X)} (h : BOk w0 w ρ l b) (hρ : ρ <+: ρ') (hb : b.own = true → l.nil = false → w'.heap[l.b]? = w.heap[l.b]?) : BOk w0 w' ρ' l b := by
  cases b with
  | dead => trivial
  | raw cs =>
    obtain ⟨h1, h2, h3, ys, t, h4, h5, h6⟩ := h
    exact ⟨h1, h2, h3, ys, t, concL_mono hρ _ _ h4, h5, by rw [hb rfl h1]; exact h6⟩
  | vec t xs own =>
    cases own with
    | true =>
      refine ⟨h.1, fun hn => ?_⟩
      obtain ⟨h1, h2, h3, ys, sp, ty, h4, h5, h6⟩ := h.2 hn
      exact ⟨h1, h2, h3, ys, sp, ty, h4, by rw [hb rfl hn]; exact h5, h6⟩
    | false => exact h

theorem BOk.lt {w0 w : World} {ρ : List Loc} {l : Loc} {b : Blk (X := X)} (h : BOk w0 w ρ l b) (ho : b.own = true) (hn : l.nil = false) : l.b < w.heap.size := by
  cases b with
  | dead => simp [Blk.own] at ho
  | raw cs =>
    obtain ⟨h1, h2, h3, ys, t, h4, h5, h6⟩ := h
    exact (Array.getElem?_eq_some_iff.1 h6).1
  | vec t xs own =>
    cases own with
    | true =>
      obtain ⟨h1, h2, h3, ys, sp, ty, h4, h5, h6⟩ := h.2 hn
      exact (Array.getElem?_eq_some_iff.1 h5).1
    | false => simp [Blk.own] at ho

/-- The world has grown; what was there is as it was. -/
theorem HR.grow {w0 w w' : World} {ρ : List Loc} {hp : List (Blk (X := X))} (h : HR w0 ρ hp w) (hb : Below w.heap.size w w') : HR w0 ρ hp w' := by
  refine ⟨h.len, h.below.trans (hb.mono h.below.size), fun k b l hk hl => (h.blk k b l hk hl).ext (List.prefix_refl _) fun ho hn => hb.block _ ((h.blk k b l hk hl).lt ho hn), h.sep⟩

/-- A new block of the evaluator's own. -/
theorem HR.new {w0 w w' : World} {ρ : List Loc} {hp : List (Blk (X := X))} {b : Blk (X := X)} {l : Loc} (h : HR w0 ρ hp w) (hb : Below w.heap.size w w') (hl : b.own = true → l.nil = false → w.heap.size ≤ l.b) (hok : BOk w0 w' (ρ ++ [l]) l b) : HR w0 (ρ ++ [l]) (hp ++ [b]) w' := by
  have h' := h.grow hb
  have hlen := h.len
  have pre : ρ <+: ρ ++ [l] := List.prefix_append _ _
  have look : ∀ (k : Nat) (b' : Blk (X := X)) (l' : Loc), (hp ++ [b])[k]? = some b' → (ρ ++ [l])[k]? = some l' → (hp[k]? = some b' ∧ ρ[k]? = some l') ∨ (k = hp.length ∧ b' = b ∧ l' = l) := by
    intro k b' l' hk hl'
    by_cases e : k < hp.length
    · rw [List.getElem?_append_left e] at hk
      rw [List.getElem?_append_left (by rw [hlen]; exact e)] at hl'
      exact .inl ⟨hk, hl'⟩
    · have e2 : k = hp.length := by
        have := (List.getElem?_eq_some_iff.1 hk).1
        rw [List.length_append, List.length_singleton] at this
        omega
      subst e2
      rw [List.getElem?_append_right (Nat.le_refl _), Nat.sub_self] at hk
      rw [List.getElem?_append_right (by rw [hlen]; exact Nat.le_refl _), hlen, Nat.sub_self] at hl'
      simp only [List.getElem?_cons_zero, Option.some.injEq] at hk hl'
      exact .inr ⟨rfl, hk.symm, hl'.symm⟩
  refine ⟨by simp [hlen], h'.below, fun k b' l' hk hl' => ?_, fun k k' b1 b2 l1 l2 h1 h2 h3 h4 hne o1 o2 n1 n2 => ?_⟩
  · rcases look k b' l' hk hl' with ⟨a1, a2⟩ | ⟨_, rfl, rfl⟩
    · exact (h'.blk k b' l' a1 a2).ext pre fun _ _ => rfl
    · exact hok
  · rcases look k b1 l1 h1 h3 with ⟨a1, a2⟩ | ⟨e1, rfl, rfl⟩
    · rcases look k' b2 l2 h2 h4 with ⟨c1, c2⟩ | ⟨e2, rfl, rfl⟩
      · exact h.sep k k' b1 b2 l1 l2 a1 c1 a2 c2 hne o1 o2 n1 n2
      · have := (h.blk k b1 l1 a1 a2).lt o1 n1
        have := hl o2 n2
        omega
    · rcases look k' b2 l2 h2 h4 with ⟨c1, c2⟩ | ⟨e2, rfl, rfl⟩
      · have := (h.blk k' b2 l2 c1 c2).lt o2 n2
        have := hl o1 n1
        omega
      · omega

/-- A block of the evaluator's own is written: in memory, that block alone turns. -/
theorem HR.write {w0 w w' : World} {ρ : List Loc} {hp : List (Blk (X := X))} {b b' : Blk (X := X)} {k : Nat} {l : Loc} (h : HR w0 ρ hp w) (hk : hp[k]? = some b) (hl : ρ[k]? = some l) (ho : b.own = true) (ho' : b'.own = true) (hn : l.nil = false) (hge : w0.heap.size ≤ l.b)
    (hos : w'.os = w.os) (hta : w'.tape = w.tape) (hout : w'.output = w.output) (hsz : w'.heap.size = w.heap.size) (hoth : ∀ j, j ≠ l.b → w'.heap[j]? = w.heap[j]?) (hok : BOk w0 w' ρ l b') : HR w0 ρ (hp.set k b') w' := by
  have hlt : k < hp.length := (List.getElem?_eq_some_iff.1 hk).1
  have look : ∀ (j : Nat) (c : Blk (X := X)), (hp.set k b')[j]? = some c → (j ≠ k ∧ hp[j]? = some c) ∨ (j = k ∧ c = b') := by
    intro j c hj
    by_cases e : k = j
    · subst e
      rw [List.getElem?_set_self hlt] at hj
      simp only [Option.some.injEq] at hj
      exact .inr ⟨rfl, hj.symm⟩
    · rw [List.getElem?_set_ne e] at hj
      exact .inl ⟨fun h => e h.symm, hj⟩
  refine ⟨by simp [h.len], ⟨hos.trans h.below.os, hta.trans h.below.tape, hout.trans h.below.output, by rw [hsz]; exact h.below.size, fun j hj => (hoth j (by omega)).trans (h.below.block j hj)⟩, fun j c lj hj hlj => ?_, fun j j' c c' lj lj' h1 h2 h3 h4 hne o1 o2 n1 n2 => ?_⟩
  · rcases look j c hj with ⟨hne, hj'⟩ | ⟨rfl, rfl⟩
    · refine (h.blk j c lj hj' hlj).ext (List.prefix_refl _) fun oc nc => hoth _ ?_
      exact h.sep j k c b lj l hj' hk hlj hl hne oc ho nc hn
    · rw [hl] at hlj
      simp only [Option.some.injEq] at hlj
      exact hlj ▸ hok
  · rcases look j c h1 with ⟨d1, e1⟩ | ⟨rfl, rfl⟩
    · rcases look j' c' h2 with ⟨d2, e2⟩ | ⟨rfl, rfl⟩
      · exact h.sep j j' c c' lj lj' e1 e2 h3 h4 hne o1 o2 n1 n2
      · rw [hl] at h4
        simp only [Option.some.injEq] at h4
        subst h4
        exact h.sep j j' c b lj l e1 hk h3 hl hne o1 ho n1 hn
    · rcases look j' c' h2 with ⟨d2, e2⟩ | ⟨e3, rfl⟩
      · rw [hl] at h3
        simp only [Option.some.injEq] at h3
        subst h3
        exact h.sep j j' b c' l lj' hk e2 hl h4 hne ho o2 hn n2
      · exact absurd e3.symm hne

omit X in
/-- Cells are stored, one behind the other, into a block that is known whole. -/
theorem run_storeCells {P : Program} {b : Nat} {t : TypeId} : ∀ (xs : List Value) (w : World) (ys : List Value) (o i : Nat), xs.all Value.oneCell' = true → w.heap[b]? = some (.cells ys.toArray t (0, 0)) → o + i + xs.length ≤ ys.length →
    ∃ (w' : World), (storeCells ⟨b, o, none⟩ xs i).run P w = .ok () w' ∧ w'.heap[b]? = some (.cells (putPart ys (o + i) xs).toArray t (0, 0)) ∧
      w'.os = w.os ∧ w'.tape = w.tape ∧ w'.output = w.output ∧ w'.heap.size = w.heap.size ∧ ∀ j, j ≠ b → w'.heap[j]? = w.heap[j]?
  | [], w, ys, o, i, _, hh, _ => ⟨w, by simp [storeCells], hh, rfl, rfl, rfl, rfl, fun _ _ => rfl⟩
  | x :: xs, w, ys, o, i, ha, hh, hl => by
    simp only [List.all_cons, Bool.and_eq_true] at ha
    simp only [List.length_cons] at hl
    have hcell : w.cell? ⟨b, o + i, none⟩ = some (ys[o + i]'(by omega)) := by
      rw [cells_of_heap hh]
      simp only [List.getElem?_toArray]
      exact List.getElem?_eq_getElem _
    have hlt : b < w.heap.size := (Array.getElem?_eq_some_iff.1 hh).1
    have hh1 : (w.setCell ⟨b, o + i, none⟩ x).heap[b]? = some (.cells (ys.set (o + i) x).toArray t (0, 0)) := by
      simp only [World.setCell, Array.getElem?_modify, if_true, hh, Option.map_some]
      simp
    obtain ⟨w', g1, g2, g5, g6, g7, g8, g9⟩ := run_storeCells xs (w.setCell ⟨b, o + i, none⟩ x) (ys.set (o + i) x) o (i + 1) ha.2 hh1 (by simp; omega)
    refine ⟨w', ?_, by simpa only [putPart, setN_eq, Nat.add_assoc] using g2, g5, g6, g7, by rw [g8]; simp, fun j hj => by rw [g9 j hj]; exact Below.heap_setCell _ _ _ _ hj⟩
    simp only [storeCells, Sem.run_bind, Addr.add_lit, run_store P w ⟨b, o + i, none⟩ x .plain ha.1, hcell, frozen_of_heap hh, Bool.false_eq_true, if_false, Result.andThen_ok]
    exact g1

def EffRes (P : Program) (w0 : World) (ρ : List Loc) (hp' : List (Blk (X := X))) (vo : Option AV) : Result Next → Prop
  | .ok (.value x) w' => ∃ ρ', ρ <+: ρ' ∧ HR w0 ρ' hp' w' ∧ ∀ v, vo = some v → conc ρ' v = some x
  | .ok .skip w' => vo = none ∧ ∃ ρ', ρ <+: ρ' ∧ HR w0 ρ' hp' w'
  | .ok (.enter f args) w' => Calls P f args w' (fun e w'' => ∃ x ρ', e = .returned x ∧ ρ <+: ρ' ∧ HR w0 ρ' hp' w'' ∧ ∀ v, vo = some v → conc ρ' v = some x)
  | _ => False

def HConOk (P : Program) (G : World → Prop) (n : Nat) (con : HCon (X := X)) : Prop :=
  FnOk P n ∧ ∀ args hp r, con args hp = some r → r.ok = true → ∀ w0 ρ w xs, G w0 → HR w0 ρ hp w → concL ρ args = some xs →
    Calls P n xs.toArray w (fun e w' => ∃ x ρ', e = .returned x ∧ ρ <+: ρ' ∧ conc ρ' r.v = some x ∧ HR w0 ρ' r.hp w')

structure EOk (P : Program) (G : World → Prop) (cfg : Cfg (X := X)) : Prop extends QOk P G cfg where
  makes : ∀ n con, look cfg.H n = some con → HConOk P G n con

variable {P : Program} {G : World → Prop} {cfg : Cfg (X := X)} {w0 w : World} {ρ : List Loc} {hp hp' : List (Blk (X := X))} {tm : List Slot} {a : Act} {cs : List (Nat × Bool)} {ok : Bool} {vo : Option AV} {dst : Option Nat} {ty : Nat} {pos : String} {after : Array Edge} {gd : Option (Nat × Bool)}

omit X in
theorem below_alloc (w : World) (o : Obj) : Below w.heap.size w (w.alloc o) := (Below.refl _ _).alloc (Nat.le_refl _) _

omit X in
theorem heap_alloc_new (w : World) (o : Obj) : (w.alloc o).heap[w.heap.size]? = some o := by
  show (w.heap.push o)[w.heap.size]? = some o
  simp

/-- A row of cells, new. -/
theorem new_raw {ys : List Value} {vs : List AV} {t : TypeId} {n : Nat} (hr : HR w0 ρ hp w) (hv : concL ρ vs = some ys) (ha : ys.all Value.oneCell' = true) :
    HR w0 (ρ ++ [⟨w.heap.size, 0, n, false, none⟩]) (hp ++ [.raw vs]) (w.alloc (.cells ys.toArray t)) :=
  hr.new (below_alloc _ _) (fun _ _ => Nat.le_refl _) ⟨rfl, rfl, hr.below.size, ys, t, concL_mono (List.prefix_append _ _) _ _ hv, ha, heap_alloc_new _ _⟩

theorem last_look (hr : HR w0 ρ hp w) (l : Loc) : (ρ ++ [l])[hp.length]? = some l := by
  rw [List.getElem?_append_right (by rw [hr.len]; exact Nat.le_refl _), hr.len, Nat.sub_self]; rfl

theorem e_alloc (hq : QOk P G cfg) {t : Nat} (hr : HR w0 ρ hp w) (h : effOp cfg hp tm cs (.alloc t) = some (ok, vo, hp')) : EffRes P w0 ρ hp' vo ((execOp a.eval ⟨dst, .alloc t, ty, pos, after, gd⟩).run P w) := by
  simp only [effOp] at h
  split at h
  · rename_i i ht
    cases hb : or i.slice i.zero.isEmpty with
    | true => rw [hb] at h; cases h
    | false =>
      rw [hb] at h
      simp only [Bool.or_eq_false_iff, List.isEmpty_eq_false_iff] at hb
      simp only [cond_false, Option.some.injEq, Prod.mk.injEq] at h
      obtain ⟨_, rfl, rfl⟩ := h
      obtain ⟨inf, z, h1, h2, h3, h4⟩ := (chkAll_look hq.types t i ht).zero hb.2 hb.1
      have hz : (zeroValue t).run P w = .ok z w := by simp [zeroValue, run_info h1, h2]
      have : (execOp a.eval (⟨dst, .alloc t, ty, pos, after, gd⟩ : Oper)).run P w = .ok (.value (.pointer (some ⟨w.heap.size, 0, none⟩))) (w.alloc (.cells z.cells t)) := by
        simp only [execOp, Instr.alloc, newVar, newRow, Sem.run_bind, hz, Result.andThen_ok, run_newObj, Sem.run_pure, World.alloc_eq]
      rw [this]
      refine ⟨ρ ++ [⟨w.heap.size, 0, 0, false, none⟩], List.prefix_append _ _, ?_, fun v hv => ?_⟩
      · have := new_raw (t := t) (n := 0) hr (concL_mono (List.nil_prefix) _ _ h3) h4
        rwa [Array.toArray_toList] at this
      · simp only [Option.some.injEq] at hv
        subst hv
        exact conc_ptr.2 ⟨_, last_look hr _, rfl, rfl⟩
  · cases h

theorem e_box {t : Nat} {x : Operand} (hf : FR ρ tm a) (hc : holdB tm cs = true) (hr : HR w0 ρ hp w) (h : effOp cfg hp tm cs (.box t x) = some (ok, vo, hp')) : EffRes P w0 ρ hp' vo ((execOp a.eval ⟨dst, .box t x, ty, pos, after, gd⟩).run P w) := by
  simp only [effOp] at h
  split at h
  · cases h
  · rename_i v hnt hx
    simp only [Option.some.injEq, Prod.mk.injEq] at h
    obtain ⟨_, rfl, rfl⟩ := h
    obtain ⟨ys, h1, h2, h3⟩ := conc_cells (rd_sound hf hc hx) hnt
    have : (execOp a.eval (⟨dst, .box t x, ty, pos, after, gd⟩ : Oper)).run P w = .ok (.value (.pointer (some ⟨w.heap.size, 0, none⟩))) (w.alloc (.cells ys.toArray t)) := by
      simp only [execOp, Instr.box, newVar, newRow, Sem.run_bind, Result.andThen_ok, run_newObj, Sem.run_pure, World.alloc_eq, h3]
    rw [this]
    refine ⟨ρ ++ [⟨w.heap.size, 0, 0, false, none⟩], List.prefix_append _ _, new_raw hr h1 h2, fun v hv => ?_⟩
    simp only [Option.some.injEq] at hv
    subst hv
    exact conc_ptr.2 ⟨_, last_look hr _, rfl, rfl⟩
  · cases h

omit X in
theorem repN_conc {zs : List AV} {ys : List Value} (h : concL ρ zs = some ys) (ha : ys.all Value.oneCell' = true) : ∀ n, ∃ us, concL ρ (repN n zs) = some us ∧ us.all Value.oneCell' = true ∧ us = (List.range (n * ys.length)).map (fun j => ys.toArray[j % ys.toArray.size]!)
  | 0 => ⟨[], rfl, rfl, by simp⟩
  | n + 1 => by
    obtain ⟨us, h1, h2, h3⟩ := repN_conc h ha n
    refine ⟨ys ++ us, concL_append.2 ⟨_, _, h, h1, rfl⟩, by rw [List.all_append, ha, h2]; rfl, ?_⟩
    rw [show (n + 1) * ys.length = ys.length + n * ys.length by rw [Nat.add_mul, Nat.one_mul, Nat.add_comm], List.range_add, List.map_append, h3]
    congr 1
    · apply List.ext_getElem?
      intro j
      by_cases hj : j < ys.length
      · simp [hj, Nat.mod_eq_of_lt hj]
      · simp [hj]
    · rw [List.map_map]
      apply List.map_congr_left
      intro j _
      simp

theorem e_buildSlice (hq : QOk P G cfg) {t n : Nat} {ps : Array (Nat × Operand)} (hf : FR ρ tm a) (hc : holdB tm cs = true) (hr : HR w0 ρ hp w) (h : effOp cfg hp tm cs (.buildSlice t n ps) = some (ok, vo, hp')) : EffRes P w0 ρ hp' vo ((execOp a.eval ⟨dst, .buildSlice t n ps, ty, pos, after, gd⟩).run P w) := by
  simp only [effOp] at h
  split at h
  · rename_i vs i hps ht
    cases hb : (and i.slice (and (and (Nat.beq i.zero.length i.esz) (Nat.ble 1 i.esz)) (and (Nat.ble 1 n) (Nat.ble (n * i.esz) 4096)))) with
    | false => rw [hb] at h; cases h
    | true =>
      rw [hb] at h
      simp only [Bool.and_eq_true] at hb
      obtain ⟨b1, ⟨b2, b3⟩, b4, b5⟩ := hb
      have b2 := Nat.eq_of_beq_eq_true b2
      have b3 := Nat.le_of_ble_eq_true b3
      have b4 := Nat.le_of_ble_eq_true b4
      have b5 := Nat.le_of_ble_eq_true b5
      simp only [cond_true] at h
      split at h
      · rename_i cells hcells
        simp only [Option.some.injEq, Prod.mk.injEq] at h
        obtain ⟨_, rfl, rfl⟩ := h
        obtain ⟨e, inf, z, g1, g2, g3, g4, g5, g6⟩ := (chkAll_look hq.types t i ht).slc b1
        obtain ⟨hlen, hget⟩ := parts_sound hf hc hps
        have hmap : (ps.map fun (i, x) => (i, a.eval x)).toList = ps.toList.map fun p => (p.1, a.eval p.2) := by simp
        obtain ⟨us, d1, d2, d3⟩ := repN_conc (ρ := ρ) (concL_mono (List.nil_prefix) _ _ g5) g6 n
        obtain ⟨zs, c1, c2, c3⟩ := fill_sound (ρ := ρ) (place := fun x => some (x * i.esz, i.esz)) vs _ (repN n i.zero) _ (fillA i.esz) cells (fun _ => rfl) fillA_step hlen hget d1 d2 hcells
        have hzl : z.cells.toList.length = i.esz := by rw [concL_length g5, b2]
        have hz : (zeroValue e).run P w = .ok z w := by simp [zeroValue, run_info g2, g4]
        have hpos : n * i.esz ≠ 0 := by
          intro h0
          rcases Nat.mul_eq_zero.1 h0 with h0 | h0 <;> omega
        have hrow : (Array.range (n * i.esz)).map (fun j => z.cells[j % z.cells.size]!) = us.toArray := by
          rw [d3, hzl, Array.toArray_toList, map_arr, Array.toList_range]
        have hbig : ¬ (n * i.esz > 2 ^ 24) := by omega
        have : (execOp a.eval (⟨dst, .buildSlice t n ps, ty, pos, after, gd⟩ : Oper)).run P w = .ok (.value (.slice (some ⟨w.heap.size, 0, none⟩) n n)) (w.alloc (.cells zs.toArray e)) := by
          simp only [execOp, Instr.buildSlice, newRow, Sem.run_bind, run_underlying g1, run_size g2, g3, Sem.run_ite, if_neg hbig, if_neg hpos, hz, Result.andThen_ok, Sem.run_pure, hrow, hmap, c3, run_newObj, World.alloc_eq]
        rw [this]
        refine ⟨ρ ++ [⟨w.heap.size, 0, n, false, none⟩], List.prefix_append _ _, new_raw hr c1 c2, fun v hv => ?_⟩
        simp only [Option.some.injEq] at hv
        subst hv
        exact conc_sl.2 ⟨_, last_look hr _, .inr ⟨rfl, by simp⟩⟩
      · cases h
  · cases h

omit X in
theorem storeVar_run {t : Nat} {inf : TypeInfo} {x : Value} {xs ys : List Value} {b o : Nat} {et : TypeId} (hi : P.info? t = some inf) (hx : x.cells = xs.toArray) (hxs : xs.all Value.oneCell' = true) (hn : xs.length = inf.size)
    (hh : w.heap[b]? = some (.cells ys.toArray et (0, 0))) (hl : o + xs.length ≤ ys.length) :
    ∃ w', (storeVar t ⟨b, o, none⟩ x).run P w = .ok () w' ∧ w'.heap[b]? = some (.cells (putPart ys o xs).toArray et (0, 0)) ∧
      w'.os = w.os ∧ w'.tape = w.tape ∧ w'.output = w.output ∧ w'.heap.size = w.heap.size ∧ ∀ j, j ≠ b → w'.heap[j]? = w.heap[j]? := by
  obtain ⟨w', h1, h2, h5⟩ := run_storeCells (P := P) xs w ys o 0 hxs hh (by omega)
  refine ⟨w', ?_, h2, h5⟩
  have hs : ¬ (xs.toArray.size ≠ inf.size) := by rw [List.size_toArray, hn]; simp
  simp only [storeVar, Sem.run_bind, run_size hi, Result.andThen_ok, Sem.run_ite, hx, if_neg hs, List.toList_toArray, h1]

theorem rows_some (hX : EltsOk X) {t : X.El} : ∀ (xs : List (X.den t)), ∃ ys, concL [] (rows t xs) = some ys
  | [] => ⟨[], rfl⟩
  | x :: xs => by
    obtain ⟨ys, h⟩ := rows_some hX xs
    obtain ⟨zs, h', _⟩ := hX.cells t x
    exact ⟨zs ++ ys, by simp only [rows, List.flatMap_cons]; exact concL_append.2 ⟨_, _, h', h, rfl⟩⟩

/-- A store into a row of elements. -/
theorem rows_set (hX : EltsOk X) {t : X.El} {x' : X.den t} {cells : List AV} {o : Nat} : ∀ {xs : List (X.den t)} {i : Nat} (hi : i < xs.length), X.enc t x' = putPart (X.enc t xs[i]) o cells → o + cells.length ≤ X.width t →
    rows t (xs.set i x') = putPart (rows t xs) (i * X.width t + o) cells
  | [], i, hi, _, _ => by simp at hi
  | x :: xs, 0, hi, h, ho => by
    simp only [List.getElem_cons_zero] at h
    simp only [rows, List.set_cons_zero, List.flatMap_cons, Nat.zero_mul, Nat.zero_add, h]
    rw [putPart_left _ _ _ _ (by rw [hX.len]; exact ho)]
  | x :: xs, i + 1, hi, h, ho => by
    have ih := rows_set hX (xs := xs) (i := i) (by simpa using hi) (by simpa using h) ho
    simp only [rows, List.set_cons_succ, List.flatMap_cons] at ih ⊢
    rw [ih, show (i + 1) * X.width t + o = (X.enc t x).length + (i * X.width t + o) by rw [hX.len, Nat.add_mul]; omega, putPart_right]

theorem e_store (hq : QOk P G cfg) {t : Nat} {p x : Operand} (hf : FR ρ tm a) (hc : holdB tm cs = true) (hr : HR w0 ρ hp w) (h : effOp cfg hp tm cs (.store t p x) = some (ok, vo, hp')) (hok : ok = true) : EffRes P w0 ρ hp' vo ((execOp a.eval ⟨dst, .store t p x, ty, pos, after, gd⟩).run P w) := by
  simp only [effOp] at h
  split at h
  · rename_i pv v i hpv hv ht
    simp only [Option.map_eq_some_iff, Prod.mk.injEq] at h
    obtain ⟨⟨ok', h'⟩, hs, e1, rfl, rfl⟩ := h
    simp only at e1
    subst e1
    obtain ⟨inf, i1, i2⟩ := (chkAll_look hq.types t i ht).info
    have hx := rd_sound hf hc hv
    have hpx := rd_sound hf hc hpv
    unfold storeAt at hs
    split at hs
    · rename_i k o
      obtain ⟨l, hl, hn, ep⟩ := conc_ptr.1 hpx
      rw [nth_eq] at hs
      split at hs
      · rename_i c hk
        cases hb : (and (Nat.ble 1 i.size) (and (Nat.beq (cellsOf v).length i.size) (Nat.ble (o + i.size) c.length))) with
        | false => rw [hb] at hs; cases hs
        | true =>
          rw [hb] at hs
          simp only [Bool.and_eq_true] at hb
          obtain ⟨b1, b2, b3⟩ := hb
          have b1 := Nat.le_of_ble_eq_true b1
          have b2 := Nat.eq_of_beq_eq_true b2
          have b3 := Nat.le_of_ble_eq_true b3
          simp only [cond_true, Option.some.injEq, Prod.mk.injEq, setN_eq] at hs
          obtain ⟨_, rfl⟩ := hs
          obtain ⟨xs, c1, c2, c3⟩ := conc_cells hx (fun vs e => by subst e; simp [cellsOf] at b2; omega)
          obtain ⟨_, hoff, hge, ys, et, d1, d2, d3⟩ := hr.blk k _ l hk hl
          have hyl := concL_length d1
          have hxl := concL_length c1
          obtain ⟨w', r1, r2, r4, r5, r6, r7, r8⟩ := storeVar_run (P := P) (w := w) (o := o) i1 c3 c2 (by rw [hxl, b2, i2]) d3 (by omega)
          have : (execOp a.eval (⟨dst, .store t p x, ty, pos, after, gd⟩ : Oper)).run P w = .ok .skip w' := by
            simp only [execOp, Instr.storeAt, Instr.sureAddr, ep, hoff, Nat.zero_add, Sem.run_bind, Sem.run_pure, Result.andThen_ok, r1]
          rw [this]
          exact ⟨rfl, ρ, List.prefix_refl _, hr.write hk hl rfl rfl hn hge r4 r5 r6 r7 r8 ⟨hn, hoff, hge, _, et, putPart_conc _ _ _ _ _ c1 d1, putPart_all _ _ _ d2 c2, r2⟩⟩
      · cases hs
    · rename_i k j wd o
      obtain ⟨l, hl, hn, ep⟩ := conc_pel.1 hpx
      rw [nth_eq] at hs
      split at hs
      · rename_i c hk
        cases hb : (and (Nat.ble 1 i.size) (and (Nat.beq (cellsOf v).length i.size) (Nat.ble ((j * wd + o) + i.size) c.length))) with
        | false => rw [hb] at hs; cases hs
        | true =>
          rw [hb] at hs
          simp only [Bool.and_eq_true] at hb
          obtain ⟨b1, b2, b3⟩ := hb
          have b1 := Nat.le_of_ble_eq_true b1
          have b2 := Nat.eq_of_beq_eq_true b2
          have b3 := Nat.le_of_ble_eq_true b3
          simp only [cond_true, Option.some.injEq, Prod.mk.injEq, setN_eq] at hs
          obtain ⟨_, rfl⟩ := hs
          obtain ⟨xs, c1, c2, c3⟩ := conc_cells hx (fun vs e => by subst e; simp [cellsOf] at b2; omega)
          obtain ⟨_, hoff, hge, ys, et, d1, d2, d3⟩ := hr.blk k _ l hk hl
          have hyl := concL_length d1
          have hxl := concL_length c1
          obtain ⟨w', r1, r2, r4, r5, r6, r7, r8⟩ := storeVar_run (P := P) (w := w) (o := j * wd + o) i1 c3 c2 (by rw [hxl, b2, i2]) d3 (by omega)
          have : (execOp a.eval (⟨dst, .store t p x, ty, pos, after, gd⟩ : Oper)).run P w = .ok .skip w' := by
            simp only [execOp, Instr.storeAt, Instr.sureAddr, ep, hoff, Nat.zero_add, Sem.run_bind, Sem.run_pure, Result.andThen_ok, r1]
          rw [this]
          exact ⟨rfl, ρ, List.prefix_refl _, hr.write hk hl rfl rfl hn hge r4 r5 r6 r7 r8 ⟨hn, hoff, hge, _, et, putPart_conc _ _ _ _ _ c1 d1, putPart_all _ _ _ d2 c2, r2⟩⟩
      · rename_i te ys0 hk
        cases hb : (and (Nat.beq wd (X.width te)) (and (Nat.ble 1 i.size) (and (Nat.beq (cellsOf v).length i.size) (Nat.ble (o + i.size) (X.width te))))) with
        | false => rw [hb] at hs; cases hs
        | true =>
          rw [hb] at hs
          simp only [Bool.and_eq_true] at hb
          obtain ⟨b0, b1, b2, b3⟩ := hb
          have b0 := Nat.eq_of_beq_eq_true b0
          have b1 := Nat.le_of_ble_eq_true b1
          have b2 := Nat.eq_of_beq_eq_true b2
          have b3 := Nat.le_of_ble_eq_true b3
          simp only [cond_true] at hs
          split at hs
          · rename_i x' hx'
            simp only [Option.some.injEq, Prod.mk.injEq, setN_eq] at hs
            obtain ⟨e1, rfl⟩ := hs
            rw [hok] at e1
            have hj := of_decide_eq_true e1
            obtain ⟨xs, c1, c2, c3⟩ := conc_cells hx (fun vs e => by subst e; simp [cellsOf] at b2; omega)
            have hbk := hr.blk k _ l hk hl
            obtain ⟨hoff, hge, hcap, ys, spare, et, d1, d3, d4⟩ := hbk.2 hn
            have hyl := concL_length d1
            rw [rows_length hq.elts] at hyl
            have hxl := concL_length c1
            have hjw : j * X.width te + X.width te ≤ ys0.length * X.width te := by
              have := Nat.mul_le_mul_right (X.width te) (Nat.succ_le_of_lt hj)
              rwa [Nat.succ_mul] at this
            obtain ⟨w', r1, r2, r4, r5, r6, r7, r8⟩ := storeVar_run (P := P) (w := w) (o := j * wd + o) i1 c3 c2 (by rw [hxl, b2, i2]) d3 (by rw [List.length_append, b0]; omega)
            have : (execOp a.eval (⟨dst, .store t p x, ty, pos, after, gd⟩ : Oper)).run P w = .ok .skip w' := by
              simp only [execOp, Instr.storeAt, Instr.sureAddr, ep, hoff, Nat.zero_add, Sem.run_bind, Sem.run_pure, Result.andThen_ok, r1]
            rw [this]
            have hget : ys0.getD j (X.dflt te) = ys0[j] := by simp [List.getD, hj]
            rw [hget] at hx'
            have hrows := rows_set hq.elts (cells := cellsOf v) (o := o) hj (hq.elts.back _ _ _ hx') (by omega)
            have hz1 : concL ρ (rows te (ys0.set j x')) = some (putPart ys (j * X.width te + o) xs) := by rw [hrows]; exact putPart_conc _ _ _ _ _ c1 (concL_mono (List.nil_prefix) _ _ d1)
            obtain ⟨zs, hz2⟩ : ∃ zs, concL [] (rows te (ys0.set j x')) = some zs := rows_some hq.elts _
            have hz3 : zs = putPart ys (j * X.width te + o) xs := by
              have := concL_mono (List.nil_prefix (l := ρ)) _ _ hz2
              rw [hz1] at this
              simpa using this.symm
            refine ⟨rfl, ρ, List.prefix_refl _, hr.write hk hl rfl rfl hn hge r4 r5 r6 r7 r8 ⟨(fun h => by rw [hn] at h; cases h), fun _ => ⟨hoff, hge, by simpa using hcap, zs, spare, et, hz2, ?_, by simpa using d4⟩⟩⟩
            rw [r2, hz3, b0, putPart_left _ _ _ _ (by omega)]
          · cases hs
      · cases hs
    · cases hs
  · cases h

theorem e_call (hq : EOk P G cfg) (hG : G w0) {c : Call} (hf : FR ρ tm a) (hc : holdB tm cs = true) (hr : HR w0 ρ hp w) (h : effOp cfg hp tm cs (.call c) = some (ok, vo, hp')) (hok : ok = true) : EffRes P w0 ρ hp' vo ((execOp a.eval ⟨dst, .call c, ty, pos, after, gd⟩).run P w) := by
  simp only [effOp] at h
  split at h
  · rename_i args hargs
    have ha := rds_sound hf hc hargs
    split at h
    · rename_i f hcal
      split at h
      · rename_i n first caps hfn
        split at h
        · rename_i con hcon
          simp only [Option.map_eq_some_iff, Prod.mk.injEq] at h
          obtain ⟨r, hr', h1, rfl, rfl⟩ := h
          rw [hok] at h1
          obtain ⟨hfo, hco⟩ := hq.makes n con hcon
          obtain ⟨u1, u2, hu1, hu2, e⟩ := conc_fn.1 (rd_sound hf hc hfn)
          have hcalls := hco _ _ _ hr' h1 w0 ρ w (u1 ++ (c.args.toList.map a.eval ++ u2)) hG hr (concL_append.2 ⟨_, _, hu1, concL_append.2 ⟨_, _, ha, hu2, rfl⟩, rfl⟩)
          have : (execOp a.eval (⟨dst, .call c, ty, pos, after, gd⟩ : Oper)).run P w = .ok (.enter n (u1 ++ (c.args.toList.map a.eval ++ u2)).toArray) w := by
            simp only [execOp, resolve, hcal, Deferred.ofValue, e, invoke, Sem.run_bind, Sem.run_pure, Result.andThen_ok, run_callFunc hfo]
            congr 2
            simp [Array.append_assoc]
          rw [this]
          refine hcalls.mono fun e w'' ⟨x, ρ', he, hρ, hv, hr2⟩ => ⟨x, ρ', he, hρ, hr2, fun v hv' => ?_⟩
          simp only [Option.some.injEq] at hv'
          exact hv' ▸ hv
        · cases h
      · cases h
    · cases h
  · cases h

theorem effOp_sound (hq : EOk P G cfg) (hG : G w0) {o : Oper} (hf : FR ρ tm a) (hc : holdB tm cs = true) (hr : HR w0 ρ hp w) (h : effOp cfg hp tm cs o.op = some (ok, vo, hp')) (hok : ok = true) : EffRes P w0 ρ hp' vo ((execOp a.eval o).run P w) := by
  obtain ⟨dst, op, ty, pos, after, gd⟩ := o
  cases op with
  | alloc t => exact e_alloc hq.toQOk hr h
  | box t x => exact e_box hf hc hr h
  | buildSlice t n ps => exact e_buildSlice hq.toQOk hf hc hr h
  | store t p x => exact e_store hq.toQOk hf hc hr h hok
  | call c => exact e_call hq hG hf hc hr h hok
  | _ => simp [effOp] at h

/-- From what it does to what may be claimed behind it. -/
theorem EffRes.wp {o : Oper} {next : Act → World → Prop} {Q : Exit → Act → World → Prop} (h : EffRes P w0 ρ hp' vo ((execOp a.eval o).run P w))
    (hn : ∀ ρ' x w', ρ <+: ρ' → HR w0 ρ' hp' w' → (∀ v, vo = some v → conc ρ' v = some x) → next (a.put o.dst x) w') : o.wp P a w next Q := by
  unfold Oper.wp
  generalize (execOp a.eval o).run P w = r at *
  cases r with
  | halt x w' => simp only [EffRes] at h
  | ok n w' =>
    cases n <;> simp only [EffRes] at h <;> simp only [Oper.upon]
    case value x => obtain ⟨ρ', h1, h2, h3⟩ := h; exact hn ρ' x w' h1 h2 h3
    case skip => obtain ⟨h0, ρ', h1, h2⟩ := h; exact hn ρ' undef w' h1 h2 (fun v hv => by rw [h0] at hv; cases hv)
    case enter f args =>
      refine h.mono fun e w'' ⟨x, ρ', he, h1, h2, h3⟩ => ?_
      subst he
      exact hn ρ' x w'' h1 h2 h3

omit X in
theorem PureRes.wp {x : Value} {o : Oper} {next : Act → World → Prop} {Q : Exit → Act → World → Prop} (h : PureRes P w x ((execOp a.eval o).run P w))
    (hn : ∀ w', Below w.heap.size w w' → next (a.put o.dst x) w') : o.wp P a w next Q := by
  unfold Oper.wp
  generalize (execOp a.eval o).run P w = r at *
  cases r with
  | halt x w' => simp only [PureRes] at h
  | ok n w' =>
    cases n <;> simp only [PureRes] at h <;> simp only [Oper.upon]
    case value x => obtain ⟨rfl, rfl⟩ := h; exact hn _ (Below.refl _ _)
    case enter f args =>
      obtain ⟨rfl, h⟩ := h
      refine h.mono fun e w'' ⟨he, hb⟩ => ?_
      subst he
      exact hn w'' hb
end
end Go.Proofs.Ytkcpgejmafobjaa.Px
