/-
  Functions whose results lie in variables.
-/
import Derived.Test.YtkhcjedlopiicaaFreePtr
set_option linter.unusedSimpArgs false
set_option linter.unusedVariables false
set_option maxRecDepth 20000
namespace Go.Free
open Go.RowKit
section
variable {P : Program} {n : Nat} {I : World → Prop} {E : Env} {A : Nat → Prop} {H : List Chunk} {key : Nat}
theorem obj_whole {β : Nat} {cs : List Value} : (obj β cs).reads β 0 cs := obj_reads (by simp)
theorem cell_load {w : World} {t : TypeId} {u : TypeDesc} {β : Nat} {c : Chunk} {cs : List Value} {F : Nat → Prop} (hc : c.holds w F) (hr : c.reads β 0 cs) (hu : P.underlying t = some u) (hna : aggB u = true) (hi : (P.info? t).map (·.size) = some cs.length) :
    (loadVar t ⟨β, 0, none⟩).run P w = .ok (.agg cs.toArray) w := by
  obtain ⟨inf, hi1, hi2⟩ : ∃ inf, P.info? t = some inf ∧ inf.size = cs.length := by
    cases hinf : P.info? t with
    | none => rw [hinf] at hi; cases hi
    | some inf => rw [hinf] at hi; exact ⟨inf, rfl, by simpa using hi⟩
  have hagg : (isAgg t).run P w = .ok true w := by
    cases u <;> simp [aggB] at hna <;> simp [isAgg, run_underlying hu]
  have hl := run_loadCellsFrom (P := P) ⟨β, 0, none⟩ w cs.length 0 #[] cs rfl (fun j u hu => by rw [Nat.zero_add, add_at]; exact hr w F hc j u hu)
  simp [loadVar, hagg, sizeOf, typeInfo, hi1, hi2, loadCells, hl]
theorem Nrm.retCT {fn : Func} {R : Nat → Fa} {w0 : World} {t u q β : Nat} {ty : TypeId} {td : TypeDesc} {c : Chunk} {cs : List Value} (hr : fn.results = #[.cell t ty, .tmp u]) (hI : ∀ w, I w → Below w0.heap.size w0 w)
    (hl : look E t = some (.ex (ptr β))) (hk : look E key = some (heap A H)) (hq : H[q]? = some c) (hrd : c.reads β 0 cs) (hu : P.underlying ty = some td) (hna : aggB td = true) (hi : (P.info? ty).map (·.size) = some cs.length)
    (hs : ∀ B, B ≤ w0.heap.size → ∃ f g, R B = .tup [.ex (.agg cs.toArray), f] ∧ look E u = some g ∧ Sub I g f) : Nrm n I (FnPost P fn R w0 .ret) E := fun a w h1 h2 h3 => by
  obtain ⟨φ, hL, _⟩ := h3 key _ hk
  have hrun := cell_load (P := P) (hL.holds q _ hq) hrd hu hna hi
  have hv := h3 t _ hl
  simp only [Fa.den] at hv
  have hv' : a.tmps.getD t undef = ptr β := hv
  have hasz : (asAddr (a.tmps[t]?.getD undef)).run P w = .ok ⟨β, 0, none⟩ w := by rw [← Array.getD_eq_getD_getElem?, hv']; rfl
  refine ⟨h2.defers, .tuple #[.agg cs.toArray, a.slot u], ?_, hI w h1, fun B hB => ?_⟩
  · simp [results, hr, hasz, hrun, Act.slot]
  · obtain ⟨f, g, e1, e2, e3⟩ := hs B hB
    rw [e1]
    simp only [Fa.den]
    exact ⟨[_, _], rfl, ⟨_, _, rfl, rfl, ⟨_, _, rfl, e3 w _ h1 (h3 u g e2), rfl⟩⟩⟩
end
end Go.Free
