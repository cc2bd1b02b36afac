/-
  Slices cut so that they have no spare room, and texts appended to them.
-/
import Derived.Test.YtkhcjedlopiicaaFreeMore2
import Derived.Lib.AppendStr
set_option linter.unusedSimpArgs false
set_option linter.unusedVariables false
set_option maxRecDepth 20000
namespace Go.Free
open Go.RowKit

def fullF (xs : List Value) : Fa := .is ⟨fun w v => ∃ A m, v = .slice A m m ∧ rowH 1 xs w v, fun _ _ _ hb ⟨A, m, h1, h2⟩ => ⟨A, m, h1, rowH_mono hb h2⟩⟩
theorem Sub.full {I : World → Prop} {xs : List Value} : Sub I (fullF xs) (row 1 xs) := fun _ _ _ ⟨_, _, _, h⟩ => h

section
variable {P : Program} {ops : Array Oper} {Q : Exit → Act → World → Prop} {n : Nat} {I : World → Prop} {k i : Nat} {E : Env} {o : Oper} {d : Bool}

/-- x[:len(x):len(x)] -/
theorem Plan.sliceFull {t e : TypeId} {z : Value} {bytes m : Nat} {x y y2 : Operand} {g : Fa} {cs : List Value} {kd kd2 : IntKind} (ho : ops[i]? = some o) (hop : o.op = .slice t x none (some y) (some y2))
    (hg : wantB ops E o = some true) (hx : opF E x = some g) (hs : Sub I g (row 1 cs)) (he : Elt P t e z 1 bytes) (hm : cs.length = m) (hy : opF E y = some (.ex (.int kd (m : Int)))) (hy2 : opF E y2 = some (.ex (.int kd2 (m : Int))))
    (h : Plan P ops Q n I d k (i + 1) (setE o.dst (fullF cs) E)) : Plan P ops Q n I d (k + 1) i E :=
  Plan.step ho (Step.run ho hg fun a w hI hs' => by
    have e1 := hs w _ hI (hs' x (by simp [hop, Op.operands]) _ hx)
    have e2 := hs' y (by simp [hop, Op.operands]) _ hy
    have e3 := hs' y2 (by simp [hop, Op.operands]) _ hy2
    simp only [Fa.den] at e2 e3
    obtain ⟨inf, hinf, hz, hs1, hby⟩ := he.hi
    obtain ⟨A, m', c, hv, h1, h2, h3, h4, h5⟩ := e1
    rw [Nat.mul_one] at h3
    obtain rfl : m' = m := by omega
    have hB : (Instr.sliceBounds true m' c none (some (.int kd (m' : Int))) (some (.int kd2 (m' : Int)))).run P w = .ok (0, m', m') w := by
      unfold Instr.sliceBounds
      simp [run_sliceBound_ok (P := P) (w := w) (Int.natCast_nonneg m') (show (m' : Int) ≤ c by omega), run_sliceBound_ok (P := P) (w := w) (Int.natCast_nonneg m') (show (m' : Int) ≤ m' by omega)]
    have hA : (A.map fun a => a.add 0) = A := by cases A <;> rfl
    have hr : (Instr.sliceAt t (.slice A m' c) none (some (.int kd (m' : Int))) (some (.int kd2 (m' : Int)))).run P w = .ok (.slice A m' m') w := by
      have hAA : (if m' = 0 then A else A.map fun a => a.add 0) = A := by rw [hA]; split <;> rfl
      simp [Instr.sliceAt, run_underlying he.ht, Instr.slice, hB, sizeOf, typeInfo, hinf, hs1]
      try exact hA
      try exact hAA
      try exact fun _ => hA
    refine ⟨.slice A m' m', w, ?_, Below.refl _ _, ⟨A, m', rfl, A, m', m', rfl, Nat.le_refl _, by omega, by omega, fun hn => by have := h4 hn; omega, h5⟩⟩
    simp only [execOp, hop, Option.map_none, Option.map_some, hv, e2, e3, Sem.run_bind, hr, Result.andThen_ok, Sem.run_pure]) h

theorem run_append_full_string {w : World} {t u ty e : TypeId} {A : Option Addr} {m : Nat} {xs : List Value} {p : List UInt8} (he : Elt P t e (.int .u8 0) 1 1) (hu : P.underlying u = some .string)
    (hrow : rowH 1 xs w (.slice A m m)) (hlim : xs.length + p.length ≤ 140737488355328) :
    ∃ v' w', (Builtin.append_ #[t, u] ty #[.slice A m m, .string ⟨p.toArray⟩]).run P w = .ok v' w' ∧ rowH 1 (xs ++ bs p) w' v' ∧ Below w.heap.size w w' := by
  obtain ⟨inf, hi, hz, hsz, hby⟩ := he.hi
  obtain ⟨A', m', c', hv, h1, h2, h3, h4, h5⟩ := id hrow
  cases hv
  rw [Nat.mul_one] at h3
  have hps : (ByteArray.mk p.toArray).size = p.length := by simp [ByteArray.size]
  have hcells : Lib.strCells ⟨p.toArray⟩ = bs p := by simp [Lib.strCells, bs]
  by_cases hp : p = []
  · subst hp
    refine ⟨.slice A m m, w, ?_, by simpa [bs] using hrow, Below.refl _ _⟩
    have hs0 : (ByteArray.mk ([] : List UInt8).toArray).size = 0 := rfl
    have hf := Lib.run_firstCells_string (P := P) w 1 ⟨([] : List UInt8).toArray⟩
    have hsc : Lib.strCells ⟨([] : List UInt8).toArray⟩ = [] := rfl
    rw [hsc, hs0] at hf
    cases A with
    | none =>
      have h0 := h4 rfl
      obtain rfl : m = 0 := by omega
      simp [Builtin.append_, run_underlying he.ht, run_underlying hu, sizeOf, typeInfo, hi, hsz, Builtin.lenOf, hs0, hf, storeCells]
    | some ad => simp [Builtin.append_, run_underlying he.ht, run_underlying hu, sizeOf, typeInfo, hi, hsz, Builtin.lenOf, hs0, hf, storeCells]
  · have hpos : 0 < p.length := List.length_pos_iff.2 hp
    cases A with
    | none =>
      have h0 := h4 rfl
      obtain rfl : m = 0 := by omega
      have hx : xs = [] := List.eq_nil_of_length_eq_zero h3
      subst hx
      have hwn := World.ownsRow_nil w w.heap.size e 1
      obtain ⟨v', w', hr, h6, h7, _⟩ := Lib.run_append_own_string (P := P) w w.heap.size t u ty e inf he.ht hu hi hz hsz hby (.slice none 0 0) 0 [] hwn ⟨p.toArray⟩ (by rw [hps]; simp only [maxLen]; omega) (by rw [hps]; simp at hlim; omega) (Nat.le_refl _)
      rw [hcells] at h6
      exact ⟨v', w', hr, own_row (B := w.heap.size) ⟨h7.size, _, h6⟩, ⟨h7.os, h7.tape, h7.output, h7.size, fun k hk => h7.block k hk (by simp [Value.ownBlock])⟩⟩
    | some ad =>
      have hr := Lib.run_append_grow_string (P := P) w t u ty e inf (.int .u8 0) he.ht hu hi hz ad m m xs (by rw [hsz]; omega) (fun j v hj => by obtain ⟨ad', hA, hc⟩ := h5 j v hj; cases hA; exact hc) ⟨p.toArray⟩ (by rw [hps]; omega) (by rw [hps]; omega) (growslice_fits (by rw [hps]; omega) (by rw [hps, hby]; omega))
      refine ⟨_, _, hr, ?_, ?_⟩
      · have hge := grownCap_ge w (m + (ByteArray.mk p.toArray).size) m e
        have hcm : grownCap w (m + (ByteArray.mk p.toArray).size) m e ≤ maxLen := grownCap_le_maxLen w _ _ _ (by rw [hps]; simp only [maxLen]; omega)
        refine ⟨_, _, _, rfl, hge, by simpa [maxLen] using hcm, ?_, (fun h => by cases h), fun j v hj => ⟨_, rfl, ?_⟩⟩
        · rw [List.length_append, bs_length, hps, Nat.mul_one, h3]
        · rw [hcells]
          have hadd : (⟨w.heap.size, 0, none⟩ : Addr).add j = ⟨w.heap.size, j, none⟩ := by unfold Addr.add; split <;> simp_all
          rw [hadd]
          have hnew := heap_alloc_new w.drew (.cells (xs.toArray ++ (bs p).toArray ++ Builtin.zeroCells (Value.int .u8 0).cells (grownCap w (m + (ByteArray.mk p.toArray).size) m e - (m + (ByteArray.mk p.toArray).size))) e)
          have hsz2 : w.drew.heap.size = w.heap.size := rfl
          rw [hsz2] at hnew
          simp only [World.cell?, hnew, Option.isSome_none, Bool.false_eq_true, if_false]
          have hjl : j < (xs ++ bs p).length := (List.getElem?_eq_some_iff.1 hj).1
          rw [Array.getElem?_append_left (by simpa using hjl)]
          simpa using hj
      · exact ⟨rfl, rfl, rfl, by simp, fun k hk => Below.heap_alloc w.drew _ k hk⟩
theorem Plan.appendFullStr {x y : Operand} {t u e : TypeId} {xs : List Value} {p : List UInt8} (ho : ops[i]? = some o) (hop : o.op = .call { callee := .builtin .append, args := #[x, y], argTypes := #[t, u] })
    (hg : wantB ops E o = some true) (hx : opF E x = some (fullF xs)) (hy : opF E y = some (.ex (str p))) (hu : P.underlying u = some .string) (he : Elt P t e (.int .u8 0) 1 1) (hlim : xs.length + p.length ≤ 140737488355328)
    (h : Plan P ops Q n I d k (i + 1) (setE o.dst (row 1 (xs ++ bs p)) E)) : Plan P ops Q n I d (k + 1) i E :=
  Plan.step ho (Step.run ho hg fun a w hI hs' => by
    obtain ⟨A, m, e1, hrow⟩ := hs' x (by simp [hop, Op.operands, Call.operands]) _ hx
    have e2 := hs' y (by simp [hop, Op.operands, Call.operands]) _ hy
    simp only [Fa.den, str] at e2
    rw [e1] at hrow
    obtain ⟨v', w', hr, h2, h3⟩ := run_append_full_string (P := P) (ty := o.type) he hu hrow hlim
    refine ⟨v', w', ?_, h3, h2⟩
    simp only [execOp, hop, resolve, invoke, builtin, List.map_toArray, List.map_cons, List.map_nil, Sem.run_bind, Sem.run_pure, Result.andThen_ok, e1, e2, hr]) h
end
end Go.Free
