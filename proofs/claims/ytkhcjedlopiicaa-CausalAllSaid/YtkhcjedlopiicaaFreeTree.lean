/-
  Functions that decide: both ways at each guard; arrays in memory and in values.
-/
import Derived.Test.YtkhcjedlopiicaaFlatEq
set_option linter.unusedSimpArgs false
set_option linter.unusedVariables false
set_option maxRecDepth 20000
namespace Go.Free
open Go.RowKit
theorem beq_decide {α : Type} [BEq α] [LawfulBEq α] {p q : α} {P : Prop} [Decidable P] (h : p = q ↔ P) : (p == q) = decide P := by
  by_cases e : p = q
  · rw [decide_eq_true (h.1 e)]; simpa using e
  · rw [decide_eq_false (fun x => e (h.2 x))]; simpa using e
theorem bne_decide {α : Type} [BEq α] [LawfulBEq α] {p q : α} {P : Prop} [Decidable P] (h : p ≠ q ↔ P) : (p != q) = decide P := by
  by_cases e : p = q
  · rw [decide_eq_false (fun x => h.2 x e)]; simpa using e
  · rw [decide_eq_true (h.1 e)]; simpa using e
section
variable {P : Program} {ops : Array Oper} {Q : Exit → Act → World → Prop} {n : Nat} {I : World → Prop} {k i : Nat} {E : Env} {o : Oper} {d : Bool} {A : Nat → Prop} {H : List Chunk} {key : Nat}
theorem J.condND {c : Operand} {x y : Code} {p : Prop} [Decidable p] (hc : opF E c = some (.ex (.bool (!decide p)))) (ht : ¬ p → J P n I x Q E) (hf : p → J P n I y Q E) : J P n I (.cond c x y) Q E :=
  J.cond hc (fun h => ht (by simpa using h)) (fun h => hf (by simpa using h))
theorem Plan.splitND {t : Nat} {p : Prop} [Decidable p] (ht : ¬ p → Plan P ops Q n I d k i ((t, .ex (.bool true)) :: E)) (hf : p → Plan P ops Q n I d k i ((t, .ex (.bool false)) :: E)) : Plan P ops Q n I d k i ((t, .ex (.bool (!decide p))) :: E) := by
  by_cases h : p
  · have e : (!decide p) = false := by simpa using h
    rw [e]; exact hf h
  · have e : (!decide p) = true := by simpa using h
    rw [e]; exact ht h
/-- An element's address in an array that lies in a chunk. -/
theorem Plan.indexArr {t e : TypeId} {x y : Operand} {β o0 off len sz : Nat} {kd : IntKind} {j : Int} (ho : ops[i]? = some o) (hop : o.op = .indexAddr t x y) (hg : wantB ops E o = some true)
    (hx : opF E x = some (.ex (.pointer (some ⟨β, o0, none⟩)))) (hy : opF E y = some (.ex (.int kd j))) (hu : P.underlying t = some (.array len e)) (hi : (P.info? e).map (·.size) = some sz) (h0 : 0 ≤ j) (h1 : j < len) (hq : o0 + j.toNat * sz = off)
    (h : Plan P ops Q n I d k (i + 1) (setE o.dst (.ex (.pointer (some ⟨β, off, none⟩))) E)) : Plan P ops Q n I d (k + 1) i E :=
  Plan.step ho (Step.run ho hg fun a w hI hs' => by
    have e1 := hs' x (by simp [hop, Op.operands]) _ hx
    have e2 := hs' y (by simp [hop, Op.operands]) _ hy
    simp only [Fa.den] at e1 e2
    obtain ⟨inf, hi1, hi2⟩ : ∃ inf, P.info? e = some inf ∧ inf.size = sz := by
      cases hinf : P.info? e with
      | none => rw [hinf] at hi; cases hi
      | some inf => rw [hinf] at hi; exact ⟨inf, rfl, by simpa using hi⟩
    refine ⟨.pointer (some ⟨β, off, none⟩), w, ?_, Below.refl _ _, by simp [Fa.den]⟩
    simp [execOp, hop, e1, e2, Instr.indexAt, Instr.sureAddr, asIntOf, run_underlying hu, h0, h1, sizeOf, typeInfo, hi1, hi2, add_at, hq]) h
/-- An element of one cell of an array's value. -/
theorem Plan.indexAgg {t e : TypeId} {u : TypeDesc} {x y : Operand} {len : Nat} {kd : IntKind} {j : Int} {vs : List Value} {v : Value} (ho : ops[i]? = some o) (hop : o.op = .index t x y) (hg : wantB ops E o = some true)
    (hx : opF E x = some (.ex (.agg vs.toArray))) (hy : opF E y = some (.ex (.int kd j))) (hu : P.underlying t = some (.array len e)) (hi : (P.info? e).map (·.size) = some 1) (hue : P.underlying e = some u) (hna : aggB u = false) (h0 : 0 ≤ j) (h1 : j < len) (hv : vs[j.toNat]? = some v)
    (h : Plan P ops Q n I d k (i + 1) (setE o.dst (.ex v) E)) : Plan P ops Q n I d (k + 1) i E :=
  Plan.step ho (Step.run ho hg fun a w hI hs' => by
    have e1 := hs' x (by simp [hop, Op.operands]) _ hx
    have e2 := hs' y (by simp [hop, Op.operands]) _ hy
    simp only [Fa.den] at e1 e2
    obtain ⟨inf, hi1, hi2⟩ : ∃ inf, P.info? e = some inf ∧ inf.size = 1 := by
      cases hinf : P.info? e with
      | none => rw [hinf] at hi; cases hi
      | some inf => rw [hinf] at hi; exact ⟨inf, rfl, by simpa using hi⟩
    refine ⟨v, w, ?_, Below.refl _ _, by simp [Fa.den]⟩
    have hagg : (isAgg e).run P w = .ok false w := by
      cases u <;> simp [aggB] at hna <;> simp [isAgg, run_underlying hue]
    simp [execOp, hop, e1, e2, Instr.index, part, asIntOf, run_underlying hu, h0, h1, sizeOf, typeInfo, hi1, hi2, hagg, hv]) h
end
end Go.Free
