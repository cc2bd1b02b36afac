/-
  Literals without room, arrays cut to slices, and what is appended to a literal: all new memory; a slot's slice read from a chunk on.
-/
import Derived.Test.YtkhcjedlopiicaaFreeTree
set_option linter.unusedSimpArgs false
set_option linter.unusedVariables false
set_option maxRecDepth 20000
namespace Go.Free
open Go.RowKit

def tight (B e sz m : Nat) (cs : List Value) : Fa := .is ⟨fun w v => ownH B e sz cs w v ∧ ∃ g, v = .slice (some ⟨g, 0, none⟩) m m, fun _ _ _ hb h => ⟨ownH_mono hb h.1, h.2⟩⟩
section
variable {P : Program} {ops : Array Oper} {Q : Exit → Act → World → Prop} {n : Nat} {I : World → Prop} {k i : Nat} {E : Env} {o : Oper} {d : Bool} {A : Nat → Prop} {H : List Chunk} {key : Nat}

theorem lit_tight {t e : TypeId} {z : Value} {sz bytes B m : Nat} {ps : List (Nat × Operand)} {vs : List Value} {a : Act} {w : World} (hop : o.op = .buildSlice t m ps.toArray)
    (he : Elt P t e z sz bytes) (hv : litVals E ps 0 = some vs) (hs : ∀ x, x ∈ o.op.operands → ∀ f, opF E x = some f → f.den w (a.eval x)) (hB : B ≤ w.heap.size)
    (hm : vs.length = m) (hsz : ∀ v ∈ vs, v.cells.size = sz) (hlim : m * sz ≤ 16777216) : ∃ v w', (execOp a.eval o).run P w = .ok (.value v) w' ∧ Below w.heap.size w w' ∧ ownH B e sz (flat vs) w' v ∧ ∃ g, v = .slice (some ⟨g, 0, none⟩) m m := by
    obtain ⟨inf, hi, hz, hs1, hby⟩ := he.hi
    have hps := litVals_spec (a := a) (w := w) hv (fun p hp f hf => hs p.2 (by
      simp only [hop, Op.operands, List.mem_toArray, List.mem_map]
      exact ⟨p, hp, rfl⟩) f hf)
    have hpos := he.hs
    obtain ⟨cs0, hcs0⟩ : ∃ cs0 : Array Value, cs0 = (Array.range (m * sz)).map (fun j => (if m * sz = 0 then (#[] : Array Value) else z.cells)[j % (if m * sz = 0 then (#[] : Array Value) else z.cells).size]!) := ⟨_, rfl⟩
    have hsize0 : cs0.size = m * sz := by rw [hcs0]; simp
    obtain ⟨cs', hf, hl⟩ := fill_numbered (sz := sz) vs 0 cs0 hsz (by rw [hsize0, Nat.zero_add, hm]; exact Nat.le_refl _)
    have hl' : cs'.toList = flat vs := by
      rw [hl]
      simp only [Nat.zero_mul, List.take_zero, List.nil_append, Nat.zero_add, hm]
      rw [List.drop_of_length_le (by rw [Array.length_toList, hsize0]; exact Nat.le_refl _), List.append_nil]
    have hsz' : cs'.size = m * sz := by rw [← Array.length_toList, hl', flat_length hsz, hm]
    refine ⟨.slice (some ⟨w.heap.size, 0, none⟩) m m, w.alloc (.cells cs' e), ?_, ((Below.refl _ _).alloc (Nat.le_refl _) _), ?_, _, rfl⟩
    · have hrun : (Instr.buildSlice t m (numbered vs 0).toArray).run P w = .ok (.slice (some ⟨w.heap.size, 0, none⟩) m m) (w.alloc (.cells cs' e)) := by
        unfold Instr.buildSlice
        have hle : ¬ (m * sz > 2 ^ 24) := by omega
        by_cases h0 : m * sz = 0
        · simp only [h0, if_true] at hcs0
          simp [run_underlying he.ht, sizeOf, typeInfo, hi, hs1, h0, newRow]
          rw [hcs0] at hf
          simp at hf
          simp [hf]
        · simp only [h0, if_false] at hcs0
          have hf' := hf
          rw [hcs0] at hf'
          simp [run_underlying he.ht, sizeOf, typeInfo, hi, hs1, hle, h0, newRow, zeroValue, hz]
          rw [hf']
          simp
      have hmap : (ps.toArray.map fun (p : Nat × Operand) => (p.1, a.eval p.2)) = (numbered vs 0).toArray := by rw [← hps]; simp
      simp only [execOp, hop]
      rw [show (ps.toArray.map fun (x : Nat × Operand) => match x with | (i, x) => (i, a.eval x)) = (numbered vs 0).toArray from hmap]
      simp only [Sem.run_bind, hrun, Result.andThen_ok, Sem.run_pure]
    · refine ⟨Nat.le_trans (hB) (by simp), m, ?_⟩
      have := World.ownsRow_lit (base := B) (e := e) (size := sz) w cs' m (hB) (by simp only [maxLen]; have : m ≤ m * sz := Nat.le_mul_of_pos_right _ hpos; omega) hsz'
      rw [hl'] at this
      exact this
theorem Plan.litTight {t e : TypeId} {z : Value} {sz bytes B m : Nat} {ps : List (Nat × Operand)} {vs : List Value} (ho : ops[i]? = some o) (hop : o.op = .buildSlice t m ps.toArray)
    (hg : wantB ops E o = some true) (he : Elt P t e z sz bytes) (hv : litVals E ps 0 = some vs) (hB : ∀ w, I w → B ≤ w.heap.size)
    (hm : vs.length = m) (hsz : ∀ v ∈ vs, v.cells.size = sz) (hlim : m * sz ≤ 16777216)
    (h : Plan P ops Q n I d k (i + 1) (setE o.dst (tight B e sz m (flat vs)) E)) : Plan P ops Q n I d (k + 1) i E :=
  Plan.step ho (Step.run ho hg fun a w hI hs => by
    obtain ⟨v, w', h1, h2, h3⟩ := lit_tight (B := B) (a := a) (w := w) hop he hv hs (hB w hI) hm hsz hlim
    exact ⟨v, w', h1, h2, by simpa only [tight, Fa.den] using h3⟩) h
/-- append(literal, slice...) -/
theorem Plan.appendTight {x y : Operand} {t e : TypeId} {z : Value} {sz bytes B m m2 c2 β off q : Nat} {c : Chunk} {xs news : List Value} {f : Fa} (ho : ops[i]? = some o) (hop : o.op = .call { callee := .builtin .append, args := #[x, y], argTypes := #[t, t] })
    (hg : wantB ops E o = some true) (hx : opF E x = some f) (hfs : Sub I f (tight B e sz m xs)) (hy : opF E y = some (.ex (.slice (some ⟨β, off, none⟩) m2 c2))) (he : Elt P t e z sz bytes)
    (hk : look E key = some (heap A H)) (hqH : H[q]? = some c) (hr : c.reads β off news) (hl : news.length = m2 * sz) (hm2 : 0 < m2) (hmc : m2 ≤ c2) (hcM : c2 ≤ 9223372036854775807) (hkn : n ≤ key)
    (h1 : ∀ u ∈ news, u.oneCell' = true) (hlim : (xs.length + news.length) * bytes ≤ 140737488355328 * sz)
    (h : Plan P ops Q n I d k (i + 1) (setE o.dst (own B e sz (xs ++ news)) E)) : Plan P ops Q n I d (k + 1) i E :=
  Plan.step ho (Step.runK ho hg fun a w hI hs' hK => by
    have e1 := hfs w _ hI (hs' x (by simp [hop, Op.operands, Call.operands]) _ hx)
    have e2 := hs' y (by simp [hop, Op.operands, Call.operands]) _ hy
    simp only [tight, Fa.den] at e1 e2
    obtain ⟨hown, g, hv⟩ := e1
    obtain ⟨φ, hL, _⟩ := hK key hkn _ hk
    have hc := hr w (φ q) (hL.holds q c hqH)
    have hrow : rowH sz news w (.slice (some ⟨β, off, none⟩) m2 c2) := ⟨_, _, _, rfl, hmc, hcM, hl, (fun e => by cases e), fun j u hu => ⟨_, rfl, by rw [add_at]; exact hc j u hu⟩⟩
    rw [hv] at hown
    obtain ⟨v', w', hrun, h2, h3⟩ := run_append_rows (ty := o.type) he hown hrow h1 hlim
    obtain ⟨inf, hi, hz, hsz, hby⟩ := he.hi
    obtain ⟨hB, m', hm'⟩ := hown
    have hlen := hm'.1
    have hmm : m' = m := by
      rcases hm'.2 with ⟨h0, _⟩ | ⟨g', cp, cur, hv', _⟩
      · cases h0
      · simp only [Value.slice.injEq] at hv'; exact hv'.2.1.symm
    subst hmm
    have hpos := he.hs
    have hnm : (m' + m2) * bytes ≤ 140737488355328 := by
      have e3 : (xs.length + news.length) = (m' + m2) * sz := by rw [hlen, hl, Nat.add_mul]
      rw [e3, Nat.mul_assoc, Nat.mul_comm sz bytes, ← Nat.mul_assoc] at hlim
      exact Nat.le_of_mul_le_mul_right hlim hpos
    have h63 : m' + m2 ≤ maxLen := by
      have := he.hb
      have h4 : m' + m2 ≤ (m' + m2) * bytes := Nat.le_mul_of_pos_right _ this
      simp only [maxLen]; omega
    have hg2 := run_append_grow (P := P) w t o.type e inf z he.ht hi hz ⟨g, 0, none⟩ m' m' xs (by rw [hsz]; exact hlen) (hm'.cells (g := g) rfl) ⟨β, off, none⟩ m2 c2 news (by rw [hsz]; exact hl) (fun j u hu => by rw [add_at]; exact hc j u hu) (by omega) (by have := h63; simp only [maxLen] at this; omega) (growslice_fits (by omega) (by rw [hby]; exact hnm))
    have hrun0 := hrun
    rw [hg2] at hrun
    simp only [Result.ok.injEq] at hrun
    obtain ⟨hv1, hw1⟩ := hrun
    refine ⟨v', w', ?_, ⟨h3.os, h3.tape, h3.output, h3.size, fun b hb => ?_⟩, by simpa only [own, Fa.den] using h2⟩
    · simp only [execOp, hop, resolve, invoke, builtin, List.map_toArray, List.map_cons, List.map_nil, Sem.run_bind, Sem.run_pure, Result.andThen_ok, hv, e2, hrun0]
    · rw [← hw1]
      exact (World.grownBy_alloc w.drew _ none).block b (by simpa using hb) (by simp)) h
/-- a[:] of an array in memory -/
theorem Plan.sliceArr {t e : TypeId} {x : Operand} {β o0 len : Nat} {sz : Nat} (ho : ops[i]? = some o) (hop : o.op = .slice t x none none none) (hg : wantB ops E o = some true)
    (hx : opF E x = some (.ex (.pointer (some ⟨β, o0, none⟩)))) (hu : P.underlying t = some (.array len e)) (hi : (P.info? e).map (·.size) = some sz)
    (h : Plan P ops Q n I d k (i + 1) (setE o.dst (.ex (.slice (some ⟨β, o0, none⟩) len len)) E)) : Plan P ops Q n I d (k + 1) i E :=
  Plan.step ho (Step.run ho hg fun a w hI hs' => by
    have e1 := hs' x (by simp [hop, Op.operands]) _ hx
    simp only [Fa.den] at e1
    obtain ⟨inf, hi1, hi2⟩ : ∃ inf, P.info? e = some inf ∧ inf.size = sz := by
      cases hinf : P.info? e with
      | none => rw [hinf] at hi; cases hi
      | some inf => rw [hinf] at hi; exact ⟨inf, rfl, by simpa using hi⟩
    refine ⟨.slice (some ⟨β, o0, none⟩) len len, w, ?_, Below.refl _ _, by simp [Fa.den]⟩
    have hB : (Instr.sliceBounds false len len none none none).run P w = .ok (0, len, len) w := by
      unfold Instr.sliceBounds
      simp
    have hA : (⟨β, o0, none⟩ : Addr).add 0 = ⟨β, o0, none⟩ := by rw [add_at]; simp
    simp [execOp, hop, e1, Instr.sliceAt, run_underlying hu, Instr.sureAddr, hB, sizeOf, typeInfo, hi1, hi2, hA]) h
theorem J.seeC {cd : Code} {t sz q : Nat} {v : Value} {c : Chunk} {xs : List Value} (hv : look E t = some (.ex v)) (hk : look E key = some (heap A H)) (hqH : H[q]? = some c) (hr : ∀ w F, c.holds w F → rowH sz xs w v)
    (h : J P n I cd Q ((t, row sz xs) :: E)) : J P n I cd Q E := fun a w h1 h2 h3 => by
  obtain ⟨φ, hL, _⟩ := h3 key _ hk
  have e1 := h3 t _ hv
  simp only [Fa.den] at e1
  exact h a w h1 h2 (derive_sat h3 (by rw [e1]; exact hr w _ (hL.holds q _ hqH)))
end
end Go.Free
