/-
  An object of the heap set aside: what is known of it holds whatever else is turned.
-/
import Derived.Test.YtkhcjedlopiicaaFreePick
set_option linter.unusedSimpArgs false
set_option linter.unusedVariables false
set_option maxRecDepth 20000
namespace Go.Free
open Go.RowKit
/-- I, and object β has the cells cs. -/
def framed (I : World → Prop) (β : Nat) (cs : List Value) (w : World) : Prop := I w ∧ ∃ e, w.heap[β]? = some (.cells cs.toArray e (0, 0))
theorem framed_I {I : World → Prop} {β : Nat} {cs : List Value} (hI : ∀ w w', I w → Below w.heap.size w w' → I w') : ∀ w w', framed I β cs w → Below w.heap.size w w' → framed I β cs w' := fun w w' ⟨h1, e, h2⟩ hb =>
  ⟨hI w w' h1 hb, e, by rw [hb.block β (Array.getElem?_eq_some_iff.1 h2).1]; exact h2⟩
theorem framed_own {I : World → Prop} {A : Nat → Prop} {β : Nat} {cs : List Value} (hA : Own I A) : Own (framed I β cs) (fun b => A b ∧ b ≠ β) :=
  ⟨fun w ⟨h1, e, h2⟩ b hb => ⟨hA.fresh w h1 b hb, fun hbe => by have := (Array.getElem?_eq_some_iff.1 h2).1; omega⟩,
   fun w w' ⟨h1, e, h2⟩ hk => ⟨hA.turn w w' h1 (hk.mono fun b _ hb => hb.1), e, by rw [hk.block β (Array.getElem?_eq_some_iff.1 h2).1 (fun hb => hb.2 rfl)]; exact h2⟩⟩
theorem framed_cell {I : World → Prop} {β off : Nat} {cs us : List Value} (h : (cs.drop off).take us.length = us) : ∀ w, framed I β cs w → ∀ j u, us[j]? = some u → w.cell? ⟨β, off + j, none⟩ = some u := fun w ⟨_, e, hh⟩ j u hu => by
  simp only [World.cell?, hh, Option.isSome_none, Bool.false_eq_true, if_false, List.getElem?_toArray]
  have hj : j < us.length := (List.getElem?_eq_some_iff.1 hu).1
  rw [← h, List.getElem?_take, if_pos hj, List.getElem?_drop] at hu
  exact hu
theorem framed_cell1 {I : World → Prop} {β off : Nat} {cs : List Value} {u : Value} (h : cs[off]? = some u) : ∀ w, framed I β cs w → ∀ j u', [u][j]? = some u' → w.cell? ⟨β, off + j, none⟩ = some u' := framed_cell (by
  obtain ⟨hl, rfl⟩ := List.getElem?_eq_some_iff.1 h
  rw [List.length_singleton, List.drop_eq_getElem_cons hl]; rfl)
section
variable {P : Program} {ops : Array Oper} {Q : Exit → Act → World → Prop} {n : Nat} {I : World → Prop} {k i : Nat} {E : Env} {o : Oper} {d : Bool} {A : Nat → Prop} {H : List Chunk} {key : Nat}
theorem J.frame {c : Code} {β : Nat} {cs : List Value} (q : Nat) (hk : look E key = some (heap A H)) (hq : H[q]? = some (obj β cs)) (h : A β → J P n (framed I β cs) c Q ((key, heap (fun b => A b ∧ b ≠ β) (H.eraseIdx q)) :: E)) : J P n I c Q E := fun a w h1 h2 h3 => by
  obtain ⟨φ, hL, hLA⟩ := h3 key _ hk
  have hob := hL.holds q _ hq
  obtain ⟨⟨e, hh⟩, hF⟩ := hob
  have hqβ : φ q β := (hF β).2 rfl
  have hne : ∀ p b, p ≠ q → φ p b → b ≠ β := fun p b hp hb he => by subst he; exact hp (hL.apart p q _ hb hqβ)
  refine h (hLA q β hqβ) a w ⟨h1, e, hh⟩ h2 (heap_put h3 (φ := fun p b => φ (if p < q then p else p + 1) b) ⟨fun p c hp => ?_, fun p p' b hp hp' => ?_, fun p b hp => ?_⟩ (fun p b hb => ⟨hLA _ b hb, hne _ b ?_ hb⟩))
  · refine hL.holds _ c ?_
    rw [List.getElem?_eraseIdx] at hp
    by_cases hpq : p < q
    · rw [if_pos hpq] at hp; rw [if_pos hpq]; exact hp
    · rw [if_neg hpq] at hp; rw [if_neg hpq]; exact hp
  · have := hL.apart _ _ b hp hp'
    split at this <;> split at this <;> omega
  · have := hL.bound _ b hp
    have hql := (List.getElem?_eq_some_iff.1 hq).1
    rw [List.length_eraseIdx, if_pos hql]
    split at this <;> omega
  · split <;> omega
theorem J.unframe {c : Code} {β : Nat} {cs : List Value} (hAβ : A β) (hk : look E key = some (heap (fun b => A b ∧ b ≠ β) H)) (h : J P n I c Q ((key, heap A (H ++ [obj β cs])) :: E)) : J P n (framed I β cs) c Q E := fun a w h1 h2 h3 => by
  obtain ⟨φ, hL, hLA⟩ := h3 key _ hk
  obtain ⟨h1, e, hh⟩ := h1
  refine h a w h1 h2 (heap_put h3 (φ := fun p b => if p = H.length then b = β else φ p b) ⟨fun p c hp => ?_, fun p p' b hp hp' => ?_, fun p b hp => ?_⟩ (fun p b hb => ?_))
  · by_cases he : p = H.length
    · subst he
      simp only [List.getElem?_concat_length, Option.some.injEq] at hp
      subst hp
      simp only [if_true]
      exact ⟨⟨e, hh⟩, fun b => Iff.rfl⟩
    · have hl : p < (H ++ [obj β cs]).length := (List.getElem?_eq_some_iff.1 hp).1
      have hl' : p < H.length := by simp at hl; omega
      rw [List.getElem?_append_left hl'] at hp
      simp only [if_neg he]
      exact hL.holds p c hp
  · by_cases he : p = H.length
    · by_cases he' : p' = H.length
      · rw [he, he']
      · simp only [if_pos he] at hp
        simp only [if_neg he'] at hp'
        exact absurd hp (hLA p' b hp').2
    · by_cases he' : p' = H.length
      · simp only [if_neg he] at hp
        simp only [if_pos he'] at hp'
        exact absurd hp' (hLA p b hp).2
      · simp only [if_neg he] at hp
        simp only [if_neg he'] at hp'
        exact hL.apart p p' b hp hp'
  · rw [List.length_append]
    by_cases he : p = H.length
    · simp [he]
    · simp only [if_neg he] at hp
      have := hL.bound p b hp
      simp; omega
  · by_cases he : p = H.length
    · simp only [if_pos he] at hb; subst hb; exact hAβ
    · simp only [if_neg he] at hb
      exact (hLA p b hb).1
/-- A load of one value, known of every world there. -/
theorem Plan.loadI {t : TypeId} {u : TypeDesc} {x : Operand} {β off : Nat} {v : Value} (ho : ops[i]? = some o) (hop : o.op = .load t x) (hg : wantB ops E o = some true)
    (hx : opF E x = some (.ex (.pointer (some ⟨β, off, none⟩)))) (hr : ∀ w, I w → ∀ j u, [v][j]? = some u → w.cell? ⟨β, off + j, none⟩ = some u) (hu : P.underlying t = some u) (hna : aggB u = false)
    (h : Plan P ops Q n I d k (i + 1) (setE o.dst (.ex v) E)) : Plan P ops Q n I d (k + 1) i E :=
  Plan.step ho (Step.run ho hg fun a w hI hs' => by
    have e1 := hs' x (by simp [hop, Op.operands]) _ hx
    simp only [Fa.den] at e1
    have hc := hr w hI 0 v rfl
    rw [Nat.add_zero] at hc
    refine ⟨v, w, ?_, Below.refl _ _, by simp [Fa.den]⟩
    have hagg : (isAgg t).run P w = .ok false w := by
      cases u <;> simp [aggB] at hna <;> simp [isAgg, run_underlying hu]
    simp [execOp, hop, e1, Instr.loadAt, Instr.sureAddr, loadVar, hagg, run_load, hc]) h
/-- A load of a struct, known of every world there. -/
theorem Plan.loadAggI {t : TypeId} {u : TypeDesc} {x : Operand} {β off : Nat} {vs : List Value} (ho : ops[i]? = some o) (hop : o.op = .load t x) (hg : wantB ops E o = some true)
    (hx : opF E x = some (.ex (.pointer (some ⟨β, off, none⟩)))) (hr : ∀ w, I w → ∀ j u, vs[j]? = some u → w.cell? ⟨β, off + j, none⟩ = some u) (hu : P.underlying t = some u) (hna : aggB u = true) (hi : (P.info? t).map (·.size) = some vs.length)
    (h : Plan P ops Q n I d k (i + 1) (setE o.dst (.ex (.agg vs.toArray)) E)) : Plan P ops Q n I d (k + 1) i E :=
  Plan.step ho (Step.run ho hg fun a w hI hs' => by
    have e1 := hs' x (by simp [hop, Op.operands]) _ hx
    simp only [Fa.den] at e1
    have hc := hr w hI
    obtain ⟨inf, hi1, hi2⟩ : ∃ inf, P.info? t = some inf ∧ inf.size = vs.length := by
      cases hinf : P.info? t with
      | none => rw [hinf] at hi; cases hi
      | some inf => rw [hinf] at hi; exact ⟨inf, rfl, by simpa using hi⟩
    refine ⟨.agg vs.toArray, w, ?_, Below.refl _ _, by simp [Fa.den]⟩
    have hagg : (isAgg t).run P w = .ok true w := by
      cases u <;> simp [aggB] at hna <;> simp [isAgg, run_underlying hu]
    have hl := run_loadCellsFrom (P := P) ⟨β, off, none⟩ w vs.length 0 #[] vs rfl (fun j u hu => by rw [Nat.zero_add, add_at]; exact hc j u hu)
    simp [execOp, hop, e1, Instr.loadAt, Instr.sureAddr, loadVar, hagg, sizeOf, typeInfo, hi1, hi2, loadCells, hl]) h
end
end Go.Free
