/-
  Memory that is turned: cuts of slices known exactly, addresses of their elements, the heap told anew.
-/
import Derived.Test.YtkhcjedlopiicaaFreeHeap3
set_option linter.unusedSimpArgs false
set_option linter.unusedVariables false
set_option maxRecDepth 20000
namespace Go.Free
open Go.RowKit

theorem Ent.swap {c d e : Chunk} : Ent (sepC c (sepC d e)) (sepC d (sepC c e)) := fun w F ⟨G, K, h1, h2, h3, K1, K2, k1, k2, k3, k4⟩ =>
  ⟨F, ⟨K1, fun b => G b ∨ K2 b, fun b => by rw [h1, k1]; exact ⟨fun h => h.elim (fun h => .inr (.inl h)) (fun h => h.elim .inl (fun h => .inr (.inr h))), fun h => h.elim (fun h => .inr (.inl h)) (fun h => h.elim .inl (fun h => .inr (.inr h)))⟩,
    fun b hb hb' => hb'.elim (fun e => h2 b e ((k1 b).2 (.inl hb))) (fun e => k2 b hb e), k3, G, K2, fun _ => Iff.rfl, fun b hb hb' => h2 b hb ((k1 b).2 (.inr hb')), h3, k4⟩, fun _ hb => hb⟩
theorem Ent.addEmp {c : Chunk} : Ent c (sepC c Free.emp) := fun w F h => ⟨F, ⟨F, fun _ => False, fun b => ⟨.inl, fun h => h.elim id (fun e => e.elim)⟩, fun _ _ e => e, h, fun _ e => e⟩, fun _ hb => hb⟩
theorem Ent.of_eq {c d : Chunk} (h : c = d) : Ent c d := h ▸ Ent.refl _
theorem Lies.ofAll : ∀ {H : List Chunk} {F : Nat → Prop} {w : World}, (allC H).holds w F → ∃ φ, Lies H φ w ∧ ∀ q b, φ q b → F b
  | [], F, w, h => ⟨fun _ _ => False, ⟨fun q c hq => by simp at hq, fun _ _ _ e => e.elim, fun _ _ e => e.elim⟩, fun _ _ e => e.elim⟩
  | c :: r, F, w, ⟨G, K, h1, h2, h3, h4⟩ => by
    obtain ⟨φ, hL, hF⟩ := Lies.ofAll h4
    refine ⟨fun q b => match q with | 0 => G b | q + 1 => φ q b, ⟨fun q d hq => ?_, fun p q b hp hq => ?_, fun q b hb => ?_⟩, fun q b hb => ?_⟩
    · cases q with
      | zero => simp only [List.getElem?_cons_zero, Option.some.injEq] at hq; subst hq; exact h3
      | succ q => exact hL.holds q d (by simpa using hq)
    · cases p with
      | zero =>
        cases q with
        | zero => rfl
        | succ q => exact (h2 b hp (hF q b hq)).elim
      | succ p =>
        cases q with
        | zero => exact (h2 b hq (hF p b hp)).elim
        | succ q => rw [hL.apart p q b hp hq]
    · cases q with
      | zero => simp
      | succ q => have := hL.bound q b hb; simp; omega
    · cases q with
      | zero => exact (h1 b).2 (.inl hb)
      | succ q => exact (h1 b).2 (.inr (hF q b hb))

section
variable {P : Program} {ops : Array Oper} {Q : Exit → Act → World → Prop} {n : Nat} {I : World → Prop} {k i : Nat} {E : Env} {o : Oper} {d : Bool} {A : Nat → Prop} {H : List Chunk} {key : Nat}

/-- The heap's chunks told anew. -/
theorem J.regroup {c : Code} (H' : List Chunk) (hk : look E key = some (heap A H)) (he : Ent (allC H) (allC H')) (h : J P n I c Q ((key, heap A H') :: E)) : J P n I c Q E := fun a w h1 h2 h3 => by
  obtain ⟨φ, hL, hA⟩ := h3 key _ hk
  obtain ⟨G, g1, g2⟩ := he w _ hL.all
  obtain ⟨φ', hL', hF⟩ := Lies.ofAll g1
  exact h a w h1 h2 (heap_put h3 hL' (fun q b hb => by obtain ⟨p, hp⟩ := g2 b (hF q b hb); exact hA p b hp))

/-- In a region in the text's order: what is known told anew ahead of an operation. -/
theorem Plan.ghost (ht : tidy ops n = true) (hI : ∀ w w', I w → Below w.heap.size w w' → I w') : ∀ {k i : Nat} {E : Env}, (∀ a w, I w → Sat E a w → ∃ E', Sat E' a w ∧ Plan P ops Q n I false k i E') → Plan P ops Q n I false k i E
  | 0, _, _, h => fun a w h1 h2 h3 => by
    obtain ⟨E', h4, h5⟩ := h a w h1 h3
    exact h5 a w h1 h2 h4
  | k + 1, i, E, h => .inr ⟨.inl rfl, fun a w h1 h2 h3 => by
    obtain ⟨E', h4, h5⟩ := h a w h1 h3
    rcases h5 with ⟨F, hst, hp⟩ | ⟨_, heff⟩
    · refine wpOp_mono ?_ (hst a w h1 h2 (fun t _ f hf => h4 t f hf))
      rintro a' w' ⟨v, rfl, hb, hF⟩
      exact ⟨_, hp, hI _ _ h1 hb, h2.put _ _, h4.step ht h2 hb hF⟩
    · exact heff a w h1 h2 h4⟩
theorem Plan.convC {q : Nat} {c1 c2 : Chunk} (ht : tidy ops n = true) (hI : ∀ w w', I w → Below w.heap.size w w' → I w') (hk : look E key = some (heap A H)) (hq : H[q]? = some c1) (he : Ent c1 c2) (h : Plan P ops Q n I false k i ((key, heap A (H.set q c2)) :: E)) : Plan P ops Q n I false k i E := Plan.ghost ht hI fun a w h1 h3 => by
  obtain ⟨φ, hL, hA⟩ := h3 key _ hk
  obtain ⟨G, g1, g2⟩ := he w _ (hL.holds q _ hq)
  exact ⟨_, heap_put h3 (hL.conv (List.getElem?_eq_some_iff.1 hq).1 g1 g2) (conv_A hA g2), h⟩
theorem Plan.exC {q : Nat} {X : Type} {c1 : X → Chunk} (ht : tidy ops n = true) (hI : ∀ w w', I w → Below w.heap.size w w' → I w') (hk : look E key = some (heap A H)) (hq : H[q]? = some (Free.exC c1)) (h : ∀ x, Plan P ops Q n I false k i ((key, heap A (H.set q (c1 x))) :: E)) : Plan P ops Q n I false k i E := Plan.ghost ht hI fun a w h1 h3 => by
  obtain ⟨φ, hL, hA⟩ := h3 key _ hk
  obtain ⟨x, hx⟩ := hL.holds q _ hq
  exact ⟨_, heap_put h3 (hL.conv (List.getElem?_eq_some_iff.1 hq).1 hx (fun _ hb => hb)) (conv_A hA (fun _ hb => hb)), h x⟩
theorem Plan.sepC {q : Nat} {c1 c2 : Chunk} (ht : tidy ops n = true) (hI : ∀ w w', I w → Below w.heap.size w w' → I w') (hk : look E key = some (heap A H)) (hq : H[q]? = some (Free.sepC c1 c2)) (h : Plan P ops Q n I false k i ((key, heap A (H.set q c1 ++ [c2])) :: E)) : Plan P ops Q n I false k i E := Plan.ghost ht hI fun a w h1 h3 => by
  obtain ⟨φ, hL, hA⟩ := h3 key _ hk
  obtain ⟨φ', hL', hA'⟩ := hL.split hq
  exact ⟨_, heap_put h3 hL' (fun p b hb => by obtain ⟨p', hp'⟩ := hA' p b hb; exact hA p' b hp'), h⟩
theorem Plan.regroup (H' : List Chunk) (ht : tidy ops n = true) (hI : ∀ w w', I w → Below w.heap.size w w' → I w') (hk : look E key = some (heap A H)) (he : Ent (allC H) (allC H')) (h : Plan P ops Q n I false k i ((key, heap A H') :: E)) : Plan P ops Q n I false k i E := Plan.ghost ht hI fun a w h1 h3 => by
  obtain ⟨φ, hL, hA⟩ := h3 key _ hk
  obtain ⟨G, g1, g2⟩ := he w _ hL.all
  obtain ⟨φ', hL', hF⟩ := Lies.ofAll g1
  exact ⟨_, heap_put h3 hL' (fun q b hb => by obtain ⟨p, hp⟩ := g2 b (hF q b hb); exact hA p b hp), h⟩
theorem Plan.factC {q : Nat} {c1 : Chunk} {p : Prop} (ht : tidy ops n = true) (hI : ∀ w w', I w → Below w.heap.size w w' → I w') (hk : look E key = some (heap A H)) (hq : H[q]? = some c1) (hf : ∀ w F, c1.holds w F → p) (h : p → Plan P ops Q n I false k i E) : Plan P ops Q n I false k i E := Plan.ghost ht hI fun a w h1 h3 => by
  obtain ⟨φ, hL, _⟩ := h3 key _ hk
  exact ⟨E, h3, h (hf w _ (hL.holds q _ hq))⟩

theorem Plan.sliceHi {t e : TypeId} {z : Value} {sz bytes : Nat} {x y : Operand} {m cap b0 : Nat} {B : Option Addr} {kd : IntKind} (ho : ops[i]? = some o) (hop : o.op = .slice t x none (some y) none)
    (hg : wantB ops E o = some true) (hx : opF E x = some (.ex (.slice B m cap))) (he : Elt P t e z sz bytes) (hy : opF E y = some (.ex (.int kd (b0 : Int)))) (hb : b0 ≤ cap)
    (h : Plan P ops Q n I d k (i + 1) (setE o.dst (.ex (.slice B b0 cap)) E)) : Plan P ops Q n I d (k + 1) i E :=
  Plan.step ho (Step.run ho hg fun a w hI hs' => by
    have e1 := hs' x (by simp [hop, Op.operands]) _ hx
    have e2 := hs' y (by simp [hop, Op.operands]) _ hy
    simp only [Fa.den] at e1 e2
    obtain ⟨inf, hinf, hz, hs1, hby⟩ := he.hi
    have hB : (Instr.sliceBounds true m cap none (some (.int kd (b0 : Int))) none).run P w = .ok (0, b0, cap) w := by
      unfold Instr.sliceBounds
      simp [run_sliceBound_ok (P := P) (w := w) (Int.natCast_nonneg b0) (show (b0 : Int) ≤ cap by omega)]
    refine ⟨.slice B b0 cap, w, ?_, Below.refl _ _, by simp [Fa.den]⟩
    have hr : (Instr.sliceAt t (.slice B m cap) none (some (.int kd (b0 : Int))) none).run P w = .ok (.slice B b0 cap) w := by
      have hA : (B.map fun a => a.add 0) = B := by cases B <;> rfl
      have hAA : (if cap = 0 then B else B.map fun a => a.add 0) = B := by rw [hA]; split <;> rfl
      simp [Instr.sliceAt, run_underlying he.ht, Instr.slice, hB, sizeOf, typeInfo, hinf, hs1]
      try exact hA
      try exact hAA
      try exact fun _ => hA
    simp only [execOp, hop, Option.map_none, Option.map_some, e1, e2, Sem.run_bind, hr, Result.andThen_ok, Sem.run_pure]) h

theorem Plan.sliceLo {t e : TypeId} {z : Value} {sz bytes : Nat} {x y : Operand} {m cap a0 β o0 : Nat} {kd : IntKind} (ho : ops[i]? = some o) (hop : o.op = .slice t x (some y) none none)
    (hg : wantB ops E o = some true) (hx : opF E x = some (.ex (.slice (some ⟨β, o0, none⟩) m cap))) (he : Elt P t e z sz bytes) (hy : opF E y = some (.ex (.int kd (a0 : Int)))) (ha : a0 ≤ m) (hm : m ≤ cap) (hc : a0 < cap)
    (h : Plan P ops Q n I d k (i + 1) (setE o.dst (.ex (.slice (some ⟨β, o0 + a0 * sz, none⟩) (m - a0) (cap - a0))) E)) : Plan P ops Q n I d (k + 1) i E :=
  Plan.step ho (Step.run ho hg fun a w hI hs' => by
    have e1 := hs' x (by simp [hop, Op.operands]) _ hx
    have e2 := hs' y (by simp [hop, Op.operands]) _ hy
    simp only [Fa.den] at e1 e2
    obtain ⟨inf, hinf, hz, hs1, hby⟩ := he.hi
    have hB : (Instr.sliceBounds true m cap (some (.int kd (a0 : Int))) none none).run P w = .ok (a0, m, cap) w := by
      unfold Instr.sliceBounds
      simp [run_sliceBound_ok (P := P) (w := w) (Int.natCast_nonneg a0) (show (a0 : Int) ≤ m by omega)]
    refine ⟨.slice (some ⟨β, o0 + a0 * sz, none⟩) (m - a0) (cap - a0), w, ?_, Below.refl _ _, by simp [Fa.den]⟩
    have hr : (Instr.sliceAt t (.slice (some ⟨β, o0, none⟩) m cap) (some (.int kd (a0 : Int))) none none).run P w = .ok (.slice (some ⟨β, o0 + a0 * sz, none⟩) (m - a0) (cap - a0)) w := by
      have hne : ¬ cap = a0 := by omega
      simp [Instr.sliceAt, run_underlying he.ht, Instr.slice, hB, sizeOf, typeInfo, hinf, hs1, hne, add_at]
    simp only [execOp, hop, Option.map_none, Option.map_some, e1, e2, Sem.run_bind, hr, Result.andThen_ok, Sem.run_pure]) h

theorem Plan.sliceAny {t e : TypeId} {z : Value} {sz bytes : Nat} {x y : Operand} {m cap a0 : Nat} {B : Option Addr} {kd : IntKind} (ho : ops[i]? = some o) (hop : o.op = .slice t x (some y) none none)
    (hg : wantB ops E o = some true) (hx : opF E x = some (.ex (.slice B m cap))) (he : Elt P t e z sz bytes) (hy : opF E y = some (.ex (.int kd (a0 : Int)))) (ha : a0 ≤ m)
    (h : Plan P ops Q n I d k (i + 1) (setE o.dst Fa.any E)) : Plan P ops Q n I d (k + 1) i E :=
  Plan.step ho (Step.run ho hg fun a w hI hs' => by
    have e1 := hs' x (by simp [hop, Op.operands]) _ hx
    have e2 := hs' y (by simp [hop, Op.operands]) _ hy
    simp only [Fa.den] at e1 e2
    obtain ⟨inf, hinf, hz, hs1, hby⟩ := he.hi
    have hB : (Instr.sliceBounds true m cap (some (.int kd (a0 : Int))) none none).run P w = .ok (a0, m, cap) w := by
      unfold Instr.sliceBounds
      simp [run_sliceBound_ok (P := P) (w := w) (Int.natCast_nonneg a0) (show (a0 : Int) ≤ m by omega)]
    refine ⟨.slice (if cap = a0 then B else B.map (·.add (a0 * sz))) (m - a0) (cap - a0), w, ?_, Below.refl _ _, any_den _ _⟩
    have hr : (Instr.sliceAt t (.slice B m cap) (some (.int kd (a0 : Int))) none none).run P w = .ok (.slice (if cap = a0 then B else B.map (·.add (a0 * sz))) (m - a0) (cap - a0)) w := by
      simp [Instr.sliceAt, run_underlying he.ht, Instr.slice, hB, sizeOf, typeInfo, hinf, hs1]
    simp only [execOp, hop, Option.map_none, Option.map_some, e1, e2, Sem.run_bind, hr, Result.andThen_ok, Sem.run_pure]) h

theorem Plan.indexC {t e : TypeId} {z : Value} {bytes sz m cap β o0 off : Nat} {x y : Operand} {kd : IntKind} {j : Nat} (ho : ops[i]? = some o) (hop : o.op = .indexAddr t x y)
    (hg : wantB ops E o = some true) (hx : opF E x = some (.ex (.slice (some ⟨β, o0, none⟩) m cap))) (hy : opF E y = some (.ex (.int kd (j : Int)))) (he : Elt P t e z sz bytes) (h1 : j < m) (hq : o0 + j * sz = off)
    (h : Plan P ops Q n I d k (i + 1) (setE o.dst (.ex (.pointer (some ⟨β, off, none⟩))) E)) : Plan P ops Q n I d (k + 1) i E :=
  Plan.indexEx (ad := ⟨β, o0, none⟩) (q := j * sz) ho hop hg hx hy he (by omega) (by omega) (by rw [Int.toNat_natCast]) (by rw [add_at, hq]; exact h)

/-- As what is known of the world is told more weakly. -/
theorem Nrm.idle {Q' : Act → World → Prop} {I' : World → Prop} (hI : ∀ w, I w → I' w) (h : Nrm n I' Q' E) : Nrm n I Q' E := fun a w h1 h2 h3 => h a w (hI w h1) h2 h3
end
end Go.Free
