/-
  Rows appended to slices that have no spare room; the heap under another key.
-/
import Derived.Test.YtkhcjedlopiicaaFreeFull
import Derived.Test.YtkhcjedlopiicaaFreeDeep
set_option linter.unusedSimpArgs false
set_option linter.unusedVariables false
set_option maxRecDepth 20000
namespace Go.Free
open Go.RowKit

def fullS (sz : Nat) (xs : List Value) : Fa := .is ⟨fun w v => ∃ A m, v = .slice A m m ∧ rowH sz xs w v, fun _ _ _ hb ⟨A, m, h1, h2⟩ => ⟨A, m, h1, rowH_mono hb h2⟩⟩
theorem Sub.fullS {I : World → Prop} {sz : Nat} {xs : List Value} : Sub I (fullS sz xs) (row sz xs) := fun _ _ _ ⟨_, _, _, h⟩ => h
theorem Sub.full1 {I : World → Prop} {xs : List Value} : Sub I (fullF xs) (Free.fullS 1 xs) := fun _ _ _ h => h

section
variable {P : Program} {ops : Array Oper} {Q : Exit → Act → World → Prop} {n : Nat} {I : World → Prop} {k i : Nat} {E : Env} {o : Oper} {d : Bool}
theorem run_append_full_rows {w : World} {t ty e : TypeId} {z : Value} {sz bytes m : Nat} {A : Option Addr} {xs news : List Value} {y : Value} (he : Elt P t e z sz bytes)
    (hrow : rowH sz xs w (.slice A m m)) (hy : rowH sz news w y) (hne : news ≠ []) (h1 : ∀ u ∈ news, u.oneCell' = true) (hlim : (xs.length + news.length) * bytes ≤ 140737488355328 * sz) :
    ∃ v' w', (Builtin.append_ #[t, t] ty #[.slice A m m, y]).run P w = .ok v' w' ∧ rowH sz (xs ++ news) w' v' ∧ Below w.heap.size w w' := by
  obtain ⟨inf, hi, hz, hsz, hby⟩ := he.hi
  obtain ⟨A', m', c', hv, g1, g2, g3, g4, g5⟩ := id hrow
  simp only [Value.slice.injEq] at hv
  obtain ⟨rfl, rfl, rfl⟩ := hv
  obtain ⟨A2, m2, c2, rfl, hmc, hcM, hl, hnil, hcell⟩ := id hy
  have hpos := he.hs
  have hb := he.hb
  have hnm : (m + m2) * bytes ≤ 140737488355328 := by
    have e1 : (xs.length + news.length) = (m + m2) * sz := by rw [g3, hl, Nat.add_mul]
    rw [e1, Nat.mul_assoc, Nat.mul_comm sz bytes, ← Nat.mul_assoc] at hlim
    exact Nat.le_of_mul_le_mul_right hlim hpos
  have h63 : m + m2 ≤ 140737488355328 := Nat.le_trans (Nat.le_mul_of_pos_right _ hb) hnm
  cases A2 with
  | none =>
    have h0 := hnil rfl
    have : m2 = 0 := by omega
    rw [this, Nat.zero_mul] at hl
    exact absurd (List.eq_nil_of_length_eq_zero hl) hne
  | some ad =>
    have hm2 : 0 < m2 := by
      rcases Nat.eq_zero_or_pos m2 with h | h
      · rw [h, Nat.zero_mul] at hl; exact absurd (List.eq_nil_of_length_eq_zero hl) hne
      · exact h
    have hcs : ∀ j u, news[j]? = some u → w.cell? (ad.add j) = some u := fun j u hu => by
      obtain ⟨ad', hA, hc⟩ := hcell j u hu
      cases hA; exact hc
    cases A with
    | none =>
      have h0 := g4 rfl
      subst h0
      have hx : xs = [] := List.eq_nil_of_length_eq_zero (by rw [g3, Nat.zero_mul])
      subst hx
      have hwn : w.ownsRow w.heap.size e sz (.slice none 0 0) 0 [] := World.ownsRow_nil w _ e sz
      obtain ⟨v3, w3, hr3, h3, h7, _⟩ := run_append_own (P := P) w w.heap.size t ty e inf z sz bytes he.ht hi hz hsz hby he.hz hpos (.slice none 0 0) 0 [] hwn ad m2 c2 news hl hcs h1 (by simp only [maxLen]; omega) hnm (Nat.le_refl _)
      exact ⟨v3, w3, hr3, own_row (B := w.heap.size) ⟨h7.size, _, h3⟩, ⟨h7.os, h7.tape, h7.output, h7.size, fun b hb => h7.block b hb (by simp [Value.ownBlock])⟩⟩
    | some a0 =>
      have hr3 := run_append_grow (P := P) w t ty e inf z he.ht hi hz a0 m m xs (by rw [hsz]; exact g3) (fun j u hu => by obtain ⟨ad', hA, hc⟩ := g5 j u hu; cases hA; exact hc) ad m2 c2 news (by rw [hsz]; exact hl) hcs (by omega) (by omega) (growslice_fits (by omega) (by rw [hby]; exact hnm))
      refine ⟨_, _, hr3, ?_, ⟨rfl, rfl, rfl, by simp, fun k hk => Below.heap_alloc w.drew _ k hk⟩⟩
      have hge := grownCap_ge w (m + m2) m e
      have hcm : grownCap w (m + m2) m e ≤ maxLen := grownCap_le_maxLen w _ _ _ (by simp only [maxLen]; omega)
      refine ⟨_, _, _, rfl, hge, by simpa [maxLen] using hcm, by rw [List.length_append, g3, hl, Nat.add_mul], (fun h => by cases h), fun j v hj => ⟨_, rfl, ?_⟩⟩
      have hadd : (⟨w.heap.size, 0, none⟩ : Addr).add j = ⟨w.heap.size, j, none⟩ := by unfold Addr.add; split <;> simp_all
      rw [hadd]
      have hnew := heap_alloc_new w.drew (.cells (xs.toArray ++ news.toArray ++ Builtin.zeroCells z.cells (grownCap w (m + m2) m e - (m + m2))) e)
      have hsz2 : w.drew.heap.size = w.heap.size := rfl
      rw [hsz2] at hnew
      simp only [World.cell?, hnew, Option.isSome_none, Bool.false_eq_true, if_false]
      have hjl : j < (xs ++ news).length := (List.getElem?_eq_some_iff.1 hj).1
      rw [Array.getElem?_append_left (by simpa using hjl)]
      simpa using hj
/-- append(x, y...) of a slice x without spare room, and something in y. -/
theorem Plan.appendFullRow {x y : Operand} {t e : TypeId} {z : Value} {sz bytes : Nat} {xs news : List Value} {f g : Fa} (ho : ops[i]? = some o) (hop : o.op = .call { callee := .builtin .append, args := #[x, y], argTypes := #[t, t] })
    (hg : wantB ops E o = some true) (hx : opF E x = some f) (hfs : Sub I f (fullS sz xs)) (hy : opF E y = some g) (hs : Sub I g (row sz news)) (he : Elt P t e z sz bytes) (hne : news ≠ []) (h1 : ∀ u ∈ news, u.oneCell' = true) (hlim : (xs.length + news.length) * bytes ≤ 140737488355328 * sz)
    (h : Plan P ops Q n I d k (i + 1) (setE o.dst (row sz (xs ++ news)) E)) : Plan P ops Q n I d (k + 1) i E :=
  Plan.step ho (Step.run ho hg fun a w hI hs' => by
    obtain ⟨A, m, e1, hrow⟩ := hfs w _ hI (hs' x (by simp [hop, Op.operands, Call.operands]) _ hx)
    have e2 := hs w _ hI (hs' y (by simp [hop, Op.operands, Call.operands]) _ hy)
    rw [e1] at hrow
    obtain ⟨v', w', hr, h2, h3⟩ := run_append_full_rows (P := P) (ty := o.type) he hrow e2 hne h1 hlim
    refine ⟨v', w', ?_, h3, h2⟩
    simp only [execOp, hop, resolve, invoke, builtin, List.map_toArray, List.map_cons, List.map_nil, Sem.run_bind, Sem.run_pure, Result.andThen_ok, e1, hr]) h
/-- The heap, under another key too. -/
theorem J.reheap {c : Code} {A : Nat → Prop} {H : List Chunk} {key : Nat} (key' : Nat) (hk : look E key = some (heap A H)) (h : J P n I c Q ((key', heap A H) :: E)) : J P n I c Q E := fun a w h1 h2 h3 => by
  refine h a w h1 h2 fun t f hf => ?_
  simp only [look] at hf
  by_cases ht : key' = t
  · rw [if_pos ht] at hf; cases hf; exact h3 key _ hk
  · rw [if_neg ht] at hf; exact h3 t f hf
/-- What held where the world was marked holds on, where old memory is kept. -/
theorem J.unmark {c : Code} {t : Nat} {w1 : World} {f : Fa} (hI : ∀ w, I w → Below w1.heap.size w1 w) (hf : look E t = some (.old w1 f)) (h : J P n I c Q ((t, f) :: E)) : J P n I c Q E := fun a w h1 h2 h3 => by
  refine h a w h1 h2 fun s g hs => ?_
  simp only [look] at hs
  by_cases ht : t = s
  · subst ht
    simp only [if_true, Option.some.injEq] at hs
    subst hs
    have hv := h3 t _ hf
    simp only [Fa.den] at hv
    exact Fa.mono f w1 w _ (hI w h1) hv
  · rw [if_neg ht] at hs; exact h3 s g hs
end
end Go.Free
