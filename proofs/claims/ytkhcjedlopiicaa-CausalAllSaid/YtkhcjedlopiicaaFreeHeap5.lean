/-
  Memory that is turned: the heap begun, literals, constant texts as bytes.
-/
import Derived.Test.YtkhcjedlopiicaaFreeHeap4
set_option linter.unusedSimpArgs false
set_option linter.unusedVariables false
set_option maxRecDepth 20000
namespace Go.Free
open Go.RowKit

section
variable {P : Program} {ops : Array Oper} {Q : Exit → Act → World → Prop} {n : Nat} {I : World → Prop} {k i : Nat} {E : Env} {o : Oper} {d : Bool} {A : Nat → Prop} {H : List Chunk} {key : Nat}

/-- A heap of none. -/
theorem J.heap0 {c : Code} (key : Nat) (A : Nat → Prop) (h : J P n I c Q ((key, heap A []) :: E)) : J P n I c Q E := fun a w h1 h2 h3 =>
  h a w h1 h2 (heap_put h3 (φ := fun _ _ => False) ⟨fun q c hq => by simp at hq, fun _ _ _ e => e.elim, fun _ _ e => e.elim⟩ (fun _ _ e => e.elim))

/-- An operation that makes a row of its own: the row is a chunk more. -/
theorem Plan.newRowC {e sz : Nat} {cs : List Value} (ho : ops[i]? = some o) (hg : wantB ops E o = some true) (hd : ∀ d, o.dst = some d → d < n) (hk : look E key = some (heap A H)) (hA : Own I A)
    (hr : ∀ (a : Act) (w : World), I w → (∀ x, x ∈ o.op.operands → ∀ f, opF E x = some f → f.den w (a.eval x)) → ∃ v w', (execOp a.eval o).run P w = .ok (.value v) w' ∧ Below w.heap.size w w' ∧ ownH w.heap.size e sz cs w' v)
    (h : ∀ B m cap, m * sz = cs.length → Plan P ops Q n I d k (i + 1) (setE o.dst (.ex (.slice B m cap)) ((key, heap A (H ++ [rowC e sz B m cap cs])) :: sieve E))) (hq : d = false ∨ barB ops i = true) : Plan P ops Q n I d (k + 1) i E :=
  Plan.turnRun ho hg hd hk hA (fun a w φ hI hs hs' hL hLA hfr => by
    obtain ⟨v, w', hrun, hB, _, m, hm⟩ := hr a w hI hs'
    have hsl : ∃ B cap, v = .slice B m cap := by
      rcases hm.2 with ⟨h1, hm0⟩ | ⟨g, cp, cur, h1, _⟩
      · exact ⟨_, _, by rw [h1, hm0]⟩
      · exact ⟨_, _, h1⟩
    obtain ⟨B, cap, rfl⟩ := hsl
    have hm0 : w'.ownsRow 0 e sz (.slice B m cap) m cs := by
      refine ⟨hm.1, ?_⟩
      rcases hm.2 with h1 | ⟨g, cp, cur, hv, hb, r⟩
      · exact .inl h1
      · exact .inr ⟨g, cp, cur, hv, Nat.zero_le _, r⟩
    have hF : ∀ b, (Value.slice B m cap).ownBlock = some b → w.heap.size ≤ b := fun b hb => (hm.lt b hb).1
    refine ⟨.slice B m cap, w', .ex (.slice B m cap), H ++ [rowC e sz B m cap cs], _, .inl hrun, .ofBelow hB, hL.add hB (c' := rowC e sz B m cap cs) ⟨hm0, fun _ => Iff.rfl⟩ hF, fun q b hb => ?_, by simp [Fa.den], h B m cap hm.1.symm⟩
    by_cases he : q = H.length
    · simp only [if_pos he] at hb; exact hfr b (hF b hb)
    · simp only [if_neg he] at hb; exact hLA q b hb) hq

/-- A slice literal, as a chunk. -/
theorem Plan.litC {t e : TypeId} {z : Value} {sz bytes m : Nat} {ps : List (Nat × Operand)} {vs : List Value} (ho : ops[i]? = some o) (hop : o.op = .buildSlice t m ps.toArray)
    (hg : wantB ops E o = some true) (he : Elt P t e z sz bytes) (hv : litVals E ps 0 = some vs) (hd : ∀ d, o.dst = some d → d < n) (hk : look E key = some (heap A H)) (hA : Own I A)
    (hm : vs.length = m) (hsz : ∀ v ∈ vs, v.cells.size = sz) (hlim : m * sz ≤ 16777216)
    (h : ∀ B m cap, m * sz = (flat vs).length → Plan P ops Q n I d k (i + 1) (setE o.dst (.ex (.slice B m cap)) ((key, heap A (H ++ [rowC e sz B m cap (flat vs)])) :: sieve E)))
    (hq : d = false ∨ barB ops i = true := by first | exact .inl rfl | exact .inr (by kernel_rfl)) : Plan P ops Q n I d (k + 1) i E :=
  Plan.newRowC ho hg hd hk hA (fun a w hI hs => by
    have := lit_run (B := w.heap.size) (a := a) (w := w) hop he hv hs (Nat.le_refl _) hm hsz hlim
    exact this) h hq

/-- []byte("constant") of a literal that is a chunk: its row is read from here on. -/
theorem Plan.convSameC {t e : TypeId} {x : Operand} {B : Option Addr} {m cap q : Nat} {l : List UInt8} (ho : ops[i]? = some o) (hop : o.op = .convert t t x) (hg : wantB ops E o = some true) (hd : ∀ d, o.dst = some d → d < n)
    (hx : opF E x = some (.ex (.slice B m cap))) (hu : P.underlying t = some (.slice e)) (he : P.underlying e = some (.int .u8)) (hl : l ≠ [])
    (hk : look E key = some (heap A H)) (hA : Own I A) (hqH : H[q]? = some (rowC e 1 B m cap (bs l)))
    (h : Plan P ops Q n I d k (i + 1) (setE o.dst (bytesF l) ((key, heap A (H.set q emp)) :: sieve E))) (hq : d = false ∨ barB ops i = true := by first | exact .inl rfl | exact .inr (by kernel_rfl)) : Plan P ops Q n I d (k + 1) i E :=
  Plan.turnRun ho hg hd hk hA (fun a w φ hI hs hs' hL hLA hfr => by
    have e1 := hs' x (by simp [hop, Op.operands]) _ hx
    simp only [Fa.den] at e1
    have hc := hL.holds q _ hqH
    have hne : (Value.slice B m cap) ≠ .slice none 0 0 := by
      intro he'
      rcases hc.1.2 with ⟨_, h0⟩ | ⟨g, cp, cur, hv, _⟩
      · have := hc.1.1
        rw [bs_length, h0] at this
        exact hl (List.eq_nil_of_length_eq_zero (by simpa using this))
      · rw [he'] at hv; simp at hv
    obtain ⟨w', hr, h2, h3⟩ := run_convert_same (B := 0) hu he hne ⟨Nat.zero_le _, m, hc.1⟩
    have hK : Kept (φ q) w w' := (Kept.ofGrown h2).mono (fun b _ hb => (hc.2 b).2 hb)
    have hqlt : q < H.length := (List.getElem?_eq_some_iff.1 hqH).1
    refine ⟨.slice B m cap, w', bytesF l, H.set q emp, _, .inl ?_, hK.mono (fun b _ hb => hLA q b hb), hL.upd (c' := emp) (F := fun _ => False) hqlt hK (fun _ e => e) (fun _ e => e.elim), wide (H := H) hLA hfr (fun _ e => e.elim), h3, h⟩
    simp only [execOp, hop, e1, Sem.run_bind, hr, Result.andThen_ok, Sem.run_pure]) hq
end
end Go.Free
