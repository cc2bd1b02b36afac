/-
  Fields of structs that are read through an address.
-/
import Derived.Test.YtkhcjedlopiicaaFreeHeap6
set_option linter.unusedSimpArgs false
set_option linter.unusedVariables false
set_option maxRecDepth 20000
namespace Go.Free
open Go.RowKit
section
variable {P : Program} {ops : Array Oper} {Q : Exit → Act → World → Prop} {n : Nat} {I : World → Prop} {k i : Nat} {E : Env} {o : Oper} {d : Bool} {A : Nat → Prop} {H : List Chunk} {key : Nat}
theorem Plan.fieldPtr {s : TypeId} {x : Operand} {f : Nat} {fs : Array Field} {fld : Field} {g : Fa} {cs us : List Value} (ho : ops[i]? = some o) (hop : o.op = .fieldAddr s x f) (hg : wantB ops E o = some true)
    (hx : opF E x = some g) (hs : Sub I g (ptrF cs)) (hu : P.underlying s = some (.struct fs)) (hf : fs[f]? = some fld) (hi : ((P.info? fld.type).map fun i => decide (0 < i.size)) = some true) (hus : (cs.drop fld.offset).take us.length = us)
    (h : Plan P ops Q n I d k (i + 1) (setE o.dst (ptrF us) E)) : Plan P ops Q n I d (k + 1) i E :=
  Plan.step ho (Step.run ho hg fun a w hI hs' => by
    obtain ⟨ad, e1, hc⟩ := hs w _ hI (hs' x (by simp [hop, Op.operands]) _ hx)
    obtain ⟨inf, hi1, hi2⟩ : ∃ inf, P.info? fld.type = some inf ∧ ¬ inf.size = 0 := by
      cases hinf : P.info? fld.type with
      | none => rw [hinf] at hi; cases hi
      | some inf => rw [hinf] at hi; exact ⟨inf, rfl, by simp at hi; omega⟩
    refine ⟨.pointer (some (ad.add fld.offset)), w, ?_, Below.refl _ _, ⟨_, rfl, fun j u hu => ?_⟩⟩
    · simp [execOp, hop, e1, Instr.fieldAt, Instr.sureAddr, run_underlying hu, hf, fieldPlace, sizeOf, typeInfo, hi1, hi2]
    · rw [← hus, List.getElem?_take] at hu
      split at hu
      · rw [List.getElem?_drop] at hu
        rw [add_add]; exact hc _ u hu
      · cases hu) h
theorem Plan.loadAggP {t : TypeId} {u : TypeDesc} {x : Operand} {g : Fa} {cs : List Value} (ho : ops[i]? = some o) (hop : o.op = .load t x) (hg : wantB ops E o = some true)
    (hx : opF E x = some g) (hs : Sub I g (ptrF cs)) (hu : P.underlying t = some u) (hna : aggB u = true) (hi : (P.info? t).map (·.size) = some cs.length)
    (h : Plan P ops Q n I d k (i + 1) (setE o.dst (.ex (.agg cs.toArray)) E)) : Plan P ops Q n I d (k + 1) i E := by
  obtain ⟨inf, hi1, hi2⟩ : ∃ inf, P.info? t = some inf ∧ inf.size = cs.length := by
    cases hinf : P.info? t with
    | none => rw [hinf] at hi; cases hi
    | some inf => rw [hinf] at hi; exact ⟨inf, rfl, by simpa using hi⟩
  exact Plan.loadAgg ho hop hg hx hs hu hna hi1 hi2 h
end
end Go.Free
