/-
  Laid together: FreeHeap4, FreeHeap5, FreeHeap6, FreePtr, FlatEq, FreeTree, FreeCell, FreeDeep, FreeLoose, FreeFull, FreeFull2, FreeSlices, FreeSlices2, FreeTight, FreeOwn, FreeOwn2.
-/
import Derived.Test.YtmljgobenlpnfaaGreatTLPB
import Derived.DeepKeys
import Derived.Laws.StructEq
import Derived.Lib.AppendStr
import Derived.Lib.Overlaps
set_option linter.unusedSimpArgs false
set_option linter.unusedVariables false
set_option maxRecDepth 20000

section
namespace Go.Free
open Go.RowKit
theorem Ent.swap {c d e : Chunk} : Ent (sepC c (sepC d e)) (sepC d (sepC c e)) := fun w F ⟨G, K, h1, h2, h3, K1, K2, k1, k2, k3, k4⟩ =>
  ⟨F, ⟨K1, fun b => G b ∨ K2 b, fun b => by rw [h1, k1]; exact ⟨fun h => h.elim (fun h => .inr (.inl h)) (fun h => h.elim .inl (fun h => .inr (.inr h))), fun h => h.elim (fun h => .inr (.inl h)) (fun h => h.elim .inl (fun h => .inr (.inr h)))⟩,
    fun b hb hb' => hb'.elim (fun e => h2 b e ((k1 b).2 (.inl hb))) (fun e => k2 b hb e), k3, G, K2, fun _ => Iff.rfl, fun b hb hb' => h2 b hb ((k1 b).2 (.inr hb')), h3, k4⟩, fun _ hb => hb⟩
theorem Ent.addEmp {c : Chunk} : Ent c (sepC c Free.emp) := fun w F h => ⟨F, ⟨F, fun _ => False, fun b => ⟨.inl, fun h => h.elim id (fun e => e.elim)⟩, fun _ _ e => e, h, fun _ e => e⟩, fun _ hb => hb⟩
theorem Ent.of_eq {c d : Chunk} (h : c = d) : Ent c d := h ▸ Ent.refl _
theorem Lies.ofAll : ∀ {H : List Chunk} {F : Nat → Prop} {w : World}, (allC H).holds w F → ∃ φ, Lies H φ w ∧ ∀ q b, φ q b → F b
  | [], F, w, h => ⟨fun _ _ => False, ⟨fun q c hq => by simp at hq, fun _ _ _ e => e.elim, fun _ _ e => e.elim⟩, fun _ _ e => e.elim⟩
  | c :: r, F, w, ⟨G, K, h1, h2, h3, h4⟩ => by
    obtain ⟨φ, hL, hF⟩ := Lies.ofAll h4
    refine ⟨fun q b => match q with | 0 => G b | q + 1 => φ q b, ⟨fun q d hq => ?_, fun p q b hp hq => ?_, fun q b hb => ?_⟩, fun q b hb => ?_⟩
    · cases q with
      | zero => simp only [List.getElem?_cons_zero, Option.some.injEq] at hq; subst hq; exact h3
      | succ q => exact hL.holds q d (by simpa using hq)
    · cases p with
      | zero =>
        cases q with
        | zero => rfl
        | succ q => exact (h2 b hp (hF q b hq)).elim
      | succ p =>
        cases q with
        | zero => exact (h2 b hq (hF p b hp)).elim
        | succ q => rw [hL.apart p q b hp hq]
    · cases q with
      | zero => simp
      | succ q => have := hL.bound q b hb; simp; omega
    · cases q with
      | zero => exact (h1 b).2 (.inl hb)
      | succ q => exact (h1 b).2 (.inr (hF q b hb))
section
variable {P : Program} {ops : Array Oper} {Q : Exit → Act → World → Prop} {n : Nat} {I : World → Prop} {k i : Nat} {E : Env} {o : Oper} {d : Bool} {A : Nat → Prop} {H : List Chunk} {key : Nat}
theorem J.regroup {c : Code} (H' : List Chunk) (hk : look E key = some (heap A H)) (he : Ent (allC H) (allC H')) (h : J P n I c Q ((key, heap A H') :: E)) : J P n I c Q E := fun a w h1 h2 h3 => by
  obtain ⟨φ, hL, hA⟩ := h3 key _ hk
  obtain ⟨G, g1, g2⟩ := he w _ hL.all
  obtain ⟨φ', hL', hF⟩ := Lies.ofAll g1
  exact h a w h1 h2 (heap_put h3 hL' (fun q b hb => by obtain ⟨p, hp⟩ := g2 b (hF q b hb); exact hA p b hp))
theorem Plan.ghost (ht : tidy ops n = true) (hI : ∀ w w', I w → Below w.heap.size w w' → I w') : ∀ {k i : Nat} {E : Env}, (∀ a w, I w → Sat E a w → ∃ E', Sat E' a w ∧ Plan P ops Q n I false k i E') → Plan P ops Q n I false k i E
  | 0, _, _, h => fun a w h1 h2 h3 => by
    obtain ⟨E', h4, h5⟩ := h a w h1 h3
    exact h5 a w h1 h2 h4
  | k + 1, i, E, h => .inr ⟨.inl rfl, fun a w h1 h2 h3 => by
    obtain ⟨E', h4, h5⟩ := h a w h1 h3
    rcases h5 with ⟨F, hst, hp⟩ | ⟨_, heff⟩
    · refine wpOp_mono ?_ (hst a w h1 h2 (fun t _ f hf => h4 t f hf))
      rintro a' w' ⟨v, rfl, hb, hF⟩
      exact ⟨_, hp, hI _ _ h1 hb, h2.put _ _, h4.step ht h2 hb hF⟩
    · exact heff a w h1 h2 h4⟩
theorem Plan.convC {q : Nat} {c1 c2 : Chunk} (ht : tidy ops n = true) (hI : ∀ w w', I w → Below w.heap.size w w' → I w') (hk : look E key = some (heap A H)) (hq : H[q]? = some c1) (he : Ent c1 c2) (h : Plan P ops Q n I false k i ((key, heap A (H.set q c2)) :: E)) : Plan P ops Q n I false k i E := Plan.ghost ht hI fun a w h1 h3 => by
  obtain ⟨φ, hL, hA⟩ := h3 key _ hk
  obtain ⟨G, g1, g2⟩ := he w _ (hL.holds q _ hq)
  exact ⟨_, heap_put h3 (hL.conv (List.getElem?_eq_some_iff.1 hq).1 g1 g2) (conv_A hA g2), h⟩
theorem Plan.exC {q : Nat} {X : Type} {c1 : X → Chunk} (ht : tidy ops n = true) (hI : ∀ w w', I w → Below w.heap.size w w' → I w') (hk : look E key = some (heap A H)) (hq : H[q]? = some (Free.exC c1)) (h : ∀ x, Plan P ops Q n I false k i ((key, heap A (H.set q (c1 x))) :: E)) : Plan P ops Q n I false k i E := Plan.ghost ht hI fun a w h1 h3 => by
  obtain ⟨φ, hL, hA⟩ := h3 key _ hk
  obtain ⟨x, hx⟩ := hL.holds q _ hq
  exact ⟨_, heap_put h3 (hL.conv (List.getElem?_eq_some_iff.1 hq).1 hx (fun _ hb => hb)) (conv_A hA (fun _ hb => hb)), h x⟩
theorem Plan.sepC {q : Nat} {c1 c2 : Chunk} (ht : tidy ops n = true) (hI : ∀ w w', I w → Below w.heap.size w w' → I w') (hk : look E key = some (heap A H)) (hq : H[q]? = some (Free.sepC c1 c2)) (h : Plan P ops Q n I false k i ((key, heap A (H.set q c1 ++ [c2])) :: E)) : Plan P ops Q n I false k i E := Plan.ghost ht hI fun a w h1 h3 => by
  obtain ⟨φ, hL, hA⟩ := h3 key _ hk
  obtain ⟨φ', hL', hA'⟩ := hL.split hq
  exact ⟨_, heap_put h3 hL' (fun p b hb => by obtain ⟨p', hp'⟩ := hA' p b hb; exact hA p' b hp'), h⟩
theorem Plan.regroup (H' : List Chunk) (ht : tidy ops n = true) (hI : ∀ w w', I w → Below w.heap.size w w' → I w') (hk : look E key = some (heap A H)) (he : Ent (allC H) (allC H')) (h : Plan P ops Q n I false k i ((key, heap A H') :: E)) : Plan P ops Q n I false k i E := Plan.ghost ht hI fun a w h1 h3 => by
  obtain ⟨φ, hL, hA⟩ := h3 key _ hk
  obtain ⟨G, g1, g2⟩ := he w _ hL.all
  obtain ⟨φ', hL', hF⟩ := Lies.ofAll g1
  exact ⟨_, heap_put h3 hL' (fun q b hb => by obtain ⟨p, hp⟩ := g2 b (hF q b hb); exact hA p b hp), h⟩
theorem Plan.factC {q : Nat} {c1 : Chunk} {p : Prop} (ht : tidy ops n = true) (hI : ∀ w w', I w → Below w.heap.size w w' → I w') (hk : look E key = some (heap A H)) (hq : H[q]? = some c1) (hf : ∀ w F, c1.holds w F → p) (h : p → Plan P ops Q n I false k i E) : Plan P ops Q n I false k i E := Plan.ghost ht hI fun a w h1 h3 => by
  obtain ⟨φ, hL, _⟩ := h3 key _ hk
  exact ⟨E, h3, h (hf w _ (hL.holds q _ hq))⟩
theorem Plan.sliceHi {t e : TypeId} {z : Value} {sz bytes : Nat} {x y : Operand} {m cap b0 : Nat} {B : Option Addr} {kd : IntKind} (ho : ops[i]? = some o) (hop : o.op = .slice t x none (some y) none)
    (hg : wantB ops E o = some true) (hx : opF E x = some (.ex (.slice B m cap))) (he : Elt P t e z sz bytes) (hy : opF E y = some (.ex (.int kd (b0 : Int)))) (hb : b0 ≤ cap)
    (h : Plan P ops Q n I d k (i + 1) (setE o.dst (.ex (.slice B b0 cap)) E)) : Plan P ops Q n I d (k + 1) i E :=
  Plan.step ho (Step.run ho hg fun a w hI hs' => by
    have e1 := hs' x (by simp [hop, Op.operands]) _ hx
    have e2 := hs' y (by simp [hop, Op.operands]) _ hy
    simp only [Fa.den] at e1 e2
    obtain ⟨inf, hinf, hz, hs1, hby⟩ := he.hi
    have hB : (Instr.sliceBounds true m cap none (some (.int kd (b0 : Int))) none).run P w = .ok (0, b0, cap) w := by
      unfold Instr.sliceBounds
      simp [run_sliceBound_ok (P := P) (w := w) (Int.natCast_nonneg b0) (show (b0 : Int) ≤ cap by omega)]
    refine ⟨.slice B b0 cap, w, ?_, Below.refl _ _, by simp [Fa.den]⟩
    have hr : (Instr.sliceAt t (.slice B m cap) none (some (.int kd (b0 : Int))) none).run P w = .ok (.slice B b0 cap) w := by
      have hA : (B.map fun a => a.add 0) = B := by cases B <;> rfl
      have hAA : (if cap = 0 then B else B.map fun a => a.add 0) = B := by rw [hA]; split <;> rfl
      simp [Instr.sliceAt, run_underlying he.ht, Instr.slice, hB, sizeOf, typeInfo, hinf, hs1]
      try exact hA
      try exact hAA
      try exact fun _ => hA
    simp only [execOp, hop, Option.map_none, Option.map_some, e1, e2, Sem.run_bind, hr, Result.andThen_ok, Sem.run_pure]) h
theorem Plan.sliceLo {t e : TypeId} {z : Value} {sz bytes : Nat} {x y : Operand} {m cap a0 β o0 : Nat} {kd : IntKind} (ho : ops[i]? = some o) (hop : o.op = .slice t x (some y) none none)
    (hg : wantB ops E o = some true) (hx : opF E x = some (.ex (.slice (some ⟨β, o0, none⟩) m cap))) (he : Elt P t e z sz bytes) (hy : opF E y = some (.ex (.int kd (a0 : Int)))) (ha : a0 ≤ m) (hm : m ≤ cap) (hc : a0 < cap)
    (h : Plan P ops Q n I d k (i + 1) (setE o.dst (.ex (.slice (some ⟨β, o0 + a0 * sz, none⟩) (m - a0) (cap - a0))) E)) : Plan P ops Q n I d (k + 1) i E :=
  Plan.step ho (Step.run ho hg fun a w hI hs' => by
    have e1 := hs' x (by simp [hop, Op.operands]) _ hx
    have e2 := hs' y (by simp [hop, Op.operands]) _ hy
    simp only [Fa.den] at e1 e2
    obtain ⟨inf, hinf, hz, hs1, hby⟩ := he.hi
    have hB : (Instr.sliceBounds true m cap (some (.int kd (a0 : Int))) none none).run P w = .ok (a0, m, cap) w := by
      unfold Instr.sliceBounds
      simp [run_sliceBound_ok (P := P) (w := w) (Int.natCast_nonneg a0) (show (a0 : Int) ≤ m by omega)]
    refine ⟨.slice (some ⟨β, o0 + a0 * sz, none⟩) (m - a0) (cap - a0), w, ?_, Below.refl _ _, by simp [Fa.den]⟩
    have hr : (Instr.sliceAt t (.slice (some ⟨β, o0, none⟩) m cap) (some (.int kd (a0 : Int))) none none).run P w = .ok (.slice (some ⟨β, o0 + a0 * sz, none⟩) (m - a0) (cap - a0)) w := by
      have hne : ¬ cap = a0 := by omega
      simp [Instr.sliceAt, run_underlying he.ht, Instr.slice, hB, sizeOf, typeInfo, hinf, hs1, hne, add_at]
    simp only [execOp, hop, Option.map_none, Option.map_some, e1, e2, Sem.run_bind, hr, Result.andThen_ok, Sem.run_pure]) h
theorem Plan.sliceAny {t e : TypeId} {z : Value} {sz bytes : Nat} {x y : Operand} {m cap a0 : Nat} {B : Option Addr} {kd : IntKind} (ho : ops[i]? = some o) (hop : o.op = .slice t x (some y) none none)
    (hg : wantB ops E o = some true) (hx : opF E x = some (.ex (.slice B m cap))) (he : Elt P t e z sz bytes) (hy : opF E y = some (.ex (.int kd (a0 : Int)))) (ha : a0 ≤ m)
    (h : Plan P ops Q n I d k (i + 1) (setE o.dst Fa.any E)) : Plan P ops Q n I d (k + 1) i E :=
  Plan.step ho (Step.run ho hg fun a w hI hs' => by
    have e1 := hs' x (by simp [hop, Op.operands]) _ hx
    have e2 := hs' y (by simp [hop, Op.operands]) _ hy
    simp only [Fa.den] at e1 e2
    obtain ⟨inf, hinf, hz, hs1, hby⟩ := he.hi
    have hB : (Instr.sliceBounds true m cap (some (.int kd (a0 : Int))) none none).run P w = .ok (a0, m, cap) w := by
      unfold Instr.sliceBounds
      simp [run_sliceBound_ok (P := P) (w := w) (Int.natCast_nonneg a0) (show (a0 : Int) ≤ m by omega)]
    refine ⟨.slice (if cap = a0 then B else B.map (·.add (a0 * sz))) (m - a0) (cap - a0), w, ?_, Below.refl _ _, any_den _ _⟩
    have hr : (Instr.sliceAt t (.slice B m cap) (some (.int kd (a0 : Int))) none none).run P w = .ok (.slice (if cap = a0 then B else B.map (·.add (a0 * sz))) (m - a0) (cap - a0)) w := by
      simp [Instr.sliceAt, run_underlying he.ht, Instr.slice, hB, sizeOf, typeInfo, hinf, hs1]
    simp only [execOp, hop, Option.map_none, Option.map_some, e1, e2, Sem.run_bind, hr, Result.andThen_ok, Sem.run_pure]) h
theorem Plan.indexC {t e : TypeId} {z : Value} {bytes sz m cap β o0 off : Nat} {x y : Operand} {kd : IntKind} {j : Nat} (ho : ops[i]? = some o) (hop : o.op = .indexAddr t x y)
    (hg : wantB ops E o = some true) (hx : opF E x = some (.ex (.slice (some ⟨β, o0, none⟩) m cap))) (hy : opF E y = some (.ex (.int kd (j : Int)))) (he : Elt P t e z sz bytes) (h1 : j < m) (hq : o0 + j * sz = off)
    (h : Plan P ops Q n I d k (i + 1) (setE o.dst (.ex (.pointer (some ⟨β, off, none⟩))) E)) : Plan P ops Q n I d (k + 1) i E :=
  Plan.indexEx (ad := ⟨β, o0, none⟩) (q := j * sz) ho hop hg hx hy he (by omega) (by omega) (by rw [Int.toNat_natCast]) (by rw [add_at, hq]; exact h)
theorem Nrm.idle {Q' : Act → World → Prop} {I' : World → Prop} (hI : ∀ w, I w → I' w) (h : Nrm n I' Q' E) : Nrm n I Q' E := fun a w h1 h2 h3 => h a w (hI w h1) h2 h3
end
end Go.Free
end

section
namespace Go.Free
open Go.RowKit
section
variable {P : Program} {ops : Array Oper} {Q : Exit → Act → World → Prop} {n : Nat} {I : World → Prop} {k i : Nat} {E : Env} {o : Oper} {d : Bool} {A : Nat → Prop} {H : List Chunk} {key : Nat}
theorem J.heap0 {c : Code} (key : Nat) (A : Nat → Prop) (h : J P n I c Q ((key, heap A []) :: E)) : J P n I c Q E := fun a w h1 h2 h3 =>
  h a w h1 h2 (heap_put h3 (φ := fun _ _ => False) ⟨fun q c hq => by simp at hq, fun _ _ _ e => e.elim, fun _ _ e => e.elim⟩ (fun _ _ e => e.elim))
end
end Go.Free
end

section
namespace Go.Free
open Go.RowKit
section
variable {P : Program} {ops : Array Oper} {Q : Exit → Act → World → Prop} {n : Nat} {I : World → Prop} {k i : Nat} {E : Env} {o : Oper} {d : Bool} {A : Nat → Prop} {H : List Chunk} {key : Nat}
theorem J.fresh {c : Code} (hk : look E key = some (heap A H)) (hA : Own I A) (h : ∀ B, (∀ b, B ≤ b → A b) → J P n (fun w => I w ∧ B ≤ w.heap.size) c Q ((key, heap (fun b => A b ∧ b < B) H) :: E)) : J P n I c Q E := fun a w h1 h2 h3 => by
  obtain ⟨φ, hL, hLA⟩ := h3 key _ hk
  exact h w.heap.size (hA.fresh w h1) a w ⟨h1, Nat.le_refl _⟩ h2 (heap_put h3 hL (fun q b hb => ⟨hLA q b hb, hL.lt hb⟩))
theorem J.idle {c : Code} {I' : World → Prop} (hI : ∀ w, I w → I' w) (h : J P n I' c Q E) : J P n I c Q E := fun a w h1 h2 h3 => h a w (hI w h1) h2 h3
theorem hFresh {B : Nat} (hI : ∀ w w', I w → Below w.heap.size w w' → I w') : ∀ w w', (I w ∧ B ≤ w.heap.size) → Below w.heap.size w w' → (I w' ∧ B ≤ w'.heap.size) := fun _ _ h hb => ⟨hI _ _ h.1 hb, Nat.le_trans h.2 hb.size⟩
theorem Plan.seeC {t sz q : Nat} {v : Value} {c : Chunk} {xs : List Value} (ht : tidy ops n = true) (hI : ∀ w w', I w → Below w.heap.size w w' → I w') (hv : look E t = some (.ex v)) (hk : look E key = some (heap A H)) (hqH : H[q]? = some c) (hr : ∀ w F, c.holds w F → rowH sz xs w v)
    (h : Plan P ops Q n I false k i ((t, row sz xs) :: E)) : Plan P ops Q n I false k i E := Plan.ghost ht hI fun a w h1 h3 => by
  obtain ⟨φ, hL, _⟩ := h3 key _ hk
  have e1 := h3 t _ hv
  simp only [Fa.den] at e1
  exact ⟨_, derive_sat h3 (by rw [e1]; exact hr w _ (hL.holds q _ hqH)), h⟩
end
end Go.Free
end

section
namespace Go.Free
open Go.RowKit
section
variable {P : Program} {ops : Array Oper} {Q : Exit → Act → World → Prop} {n : Nat} {I : World → Prop} {k i : Nat} {E : Env} {o : Oper} {d : Bool} {A : Nat → Prop} {H : List Chunk} {key : Nat}
theorem Plan.fieldPtr {s : TypeId} {x : Operand} {f : Nat} {fs : Array Field} {fld : Field} {g : Fa} {cs us : List Value} (ho : ops[i]? = some o) (hop : o.op = .fieldAddr s x f) (hg : wantB ops E o = some true)
    (hx : opF E x = some g) (hs : Sub I g (ptrF cs)) (hu : P.underlying s = some (.struct fs)) (hf : fs[f]? = some fld) (hi : ((P.info? fld.type).map fun i => decide (0 < i.size)) = some true) (hus : (cs.drop fld.offset).take us.length = us)
    (h : Plan P ops Q n I d k (i + 1) (setE o.dst (ptrF us) E)) : Plan P ops Q n I d (k + 1) i E :=
  Plan.step ho (Step.run ho hg fun a w hI hs' => by
    obtain ⟨ad, e1, hc⟩ := hs w _ hI (hs' x (by simp [hop, Op.operands]) _ hx)
    obtain ⟨inf, hi1, hi2⟩ : ∃ inf, P.info? fld.type = some inf ∧ ¬ inf.size = 0 := by
      cases hinf : P.info? fld.type with
      | none => rw [hinf] at hi; cases hi
      | some inf => rw [hinf] at hi; exact ⟨inf, rfl, by simp at hi; omega⟩
    refine ⟨.pointer (some (ad.add fld.offset)), w, ?_, Below.refl _ _, ⟨_, rfl, fun j u hu => ?_⟩⟩
    · simp [execOp, hop, e1, Instr.fieldAt, Instr.sureAddr, run_underlying hu, hf, fieldPlace, sizeOf, typeInfo, hi1, hi2]
    · rw [← hus, List.getElem?_take] at hu
      split at hu
      · rw [List.getElem?_drop] at hu
        rw [add_add]; exact hc _ u hu
      · cases hu) h
theorem Plan.loadAggP {t : TypeId} {u : TypeDesc} {x : Operand} {g : Fa} {cs : List Value} (ho : ops[i]? = some o) (hop : o.op = .load t x) (hg : wantB ops E o = some true)
    (hx : opF E x = some g) (hs : Sub I g (ptrF cs)) (hu : P.underlying t = some u) (hna : aggB u = true) (hi : (P.info? t).map (·.size) = some cs.length)
    (h : Plan P ops Q n I d k (i + 1) (setE o.dst (.ex (.agg cs.toArray)) E)) : Plan P ops Q n I d (k + 1) i E := by
  obtain ⟨inf, hi1, hi2⟩ : ∃ inf, P.info? t = some inf ∧ inf.size = cs.length := by
    cases hinf : P.info? t with
    | none => rw [hinf] at hi; cases hi
    | some inf => rw [hinf] at hi; exact ⟨inf, rfl, by simpa using hi⟩
  exact Plan.loadAgg ho hop hg hx hs hu hna hi1 hi2 h
end
end Go.Free
end

section
namespace Go.Free
open Go.RowKit
def litOf : Value → Lit
  | .int k n => .int k n
  | .bool b => .bool b
  | .string s => .string s.data.toList
  | _ => .bool false
theorem CellsOk.split : ∀ {a b : List Kd} {c : List Value}, CellsOk (a ++ b) c → CellsOk a (c.take a.length) ∧ CellsOk b (c.drop a.length)
  | [], _, _, h => ⟨by simp [CellsOk], by simpa using h⟩
  | k :: a, b, _, ⟨v, r, h1, h2, h3⟩ => by
    subst h1
    obtain ⟨e1, e2⟩ := CellsOk.split h3
    exact ⟨⟨v, _, by simp, h2, e1⟩, by simpa using e2⟩
theorem litOf_inj {l : List Kd} : ∀ {xs ys : List Value}, CellsOk l xs → CellsOk l ys → xs.map litOf = ys.map litOf → xs = ys := by
  induction l with
  | nil => intro xs ys h1 h2 _; simp only [CellsOk] at h1 h2; rw [h1, h2]
  | cons k l ih =>
    intro xs ys ⟨v, r, h1, h2, h3⟩ ⟨u, s, g1, g2, g3⟩ he
    subst h1 g1
    simp only [List.map_cons, List.cons.injEq] at he
    rw [ih h3 g3 he.2]
    congr 1
    have h4 := he.1
    cases k with
    | int q =>
      obtain ⟨n, rfl, _⟩ := h2
      obtain ⟨m, rfl, _⟩ := g2
      simpa [litOf] using h4
    | str =>
      obtain ⟨n, rfl, _⟩ := h2
      obtain ⟨m, rfl, _⟩ := g2
      simp only [litOf, Lit.string.injEq] at h4
      obtain ⟨⟨n⟩⟩ := n
      obtain ⟨⟨m⟩⟩ := m
      simp only at h4
      rw [h4]
    | bool =>
      obtain ⟨n, rfl⟩ := h2
      obtain ⟨m, rfl⟩ := g2
      simpa [litOf] using h4
section
variable {P : Program}
theorem keyLits_fs {n : Nat} {cs : List Value} (hg : ∀ t l cs, P.keyTypeAt n t = true → flatT P n t = some l → CellsOk l cs → P.keyLits n t cs = some (cs.map litOf)) :
    ∀ (fs : List Field) (acc : Nat) (l : List Kd), flatFs P (flatT P n) fs acc = some l → (∀ f ∈ fs, P.keyTypeAt n f.type = true) → acc + l.length ≤ cs.length → CellsOk l ((cs.drop acc).take l.length) →
      ∃ ls, fs.mapM (fun f => P.keyLits n f.type ((cs.drop f.offset).take (P.cellsOf f.type))) = some ls ∧ ls.flatten = ((cs.drop acc).take l.length).map litOf
  | [], acc, l, h, _, _, _ => by simp only [flatFs, Option.some.injEq] at h; subst h; exact ⟨[], by simp, by simp⟩
  | f :: fs, acc, l, h, hk, hl, hc => by
    simp only [flatFs] at h
    cases hga : flatT P n f.type with
    | none => rw [hga] at h; cases h
    | some a =>
      rw [hga] at h
      simp only at h
      split at h
      · rename_i hcond
        cases hr : flatFs P (flatT P n) fs (acc + a.length) with
        | none => rw [hr] at h; cases h
        | some b =>
          rw [hr] at h
          simp only [Option.map_some, Option.some.injEq] at h
          subst h
          rw [List.length_append] at hl hc
          obtain ⟨h1, h2⟩ := hc.split
          rw [List.take_take, Nat.min_eq_left (by omega)] at h1
          rw [List.drop_take, List.drop_drop, show a.length + b.length - a.length = b.length by omega] at h2
          obtain ⟨ls, e1, e2⟩ := keyLits_fs hg fs _ b hr (fun f' hf' => hk f' (List.mem_cons_of_mem _ hf')) (by omega) h2
          have h3 := hg f.type a _ (hk f List.mem_cons_self) hga h1
          refine ⟨((cs.drop acc).take a.length).map litOf :: ls, ?_, ?_⟩
          · simp only [List.mapM_cons, Option.bind_eq_bind, Option.pure_def]
            rw [hcond.1, ← hcond.2, h3, e1]; rfl
          · rw [List.flatten_cons, e2, List.length_append, List.take_add, List.drop_drop, List.map_append]
      · cases h
theorem keyLits_flat : ∀ (n : Nat) (t : TypeId) (l : List Kd) (cs : List Value), P.keyTypeAt n t = true → flatT P n t = some l → CellsOk l cs → P.keyLits n t cs = some (cs.map litOf)
  | 0, _, _, _, h, _, _ => by simp [Program.keyTypeAt] at h
  | n + 1, t, l, cs, hk, h, hc => by
    unfold flatT at h
    unfold Program.keyTypeAt at hk
    unfold Program.keyLits
    cases hu : P.underlying t with
    | none => rw [hu] at h; cases h
    | some d =>
      rw [hu] at h hk
      cases d <;> simp only [reduceCtorEq, Option.some.injEq] at h
      case bool =>
        subst h
        obtain ⟨v, r, rfl, ⟨b, rfl⟩, h2⟩ := hc
        simp only [CellsOk] at h2; subst h2
        rfl
      case int k =>
        subst h
        obtain ⟨v, r, rfl, ⟨b, rfl, hw⟩, h2⟩ := hc
        simp only [CellsOk] at h2; subst h2
        simp [hw, litOf]
      case string =>
        subst h
        obtain ⟨v, r, rfl, ⟨b, rfl, hw⟩, h2⟩ := hc
        simp only [CellsOk] at h2; subst h2
        simp [hw, litOf]
      case struct fs =>
        simp only [Bool.and_eq_true, Array.all_eq_true_iff_forall_mem] at hk
        split at h
        · rename_i l' hl'
          split at h
          · rename_i hlen
            cases h
            have hcl := hc.length
            obtain ⟨ls, e1, e2⟩ := keyLits_fs (cs := cs) (fun t l cs h1 h2 h3 => keyLits_flat n t l cs h1 h2 h3) fs.toList 0 l hl' (fun f hf => (hk.1.1 f (by simpa using hf)).2) (by omega)
              (by rw [List.drop_zero, List.take_of_length_le (by omega)]; exact hc)
            rw [List.drop_zero, List.take_of_length_le (by omega)] at e2
            have hnm : (fs.all fun x => x.name != "_") = true := by
              rw [Array.all_eq_true_iff_forall_mem]
              exact fun f hf => (hk.1.1 f hf).1
            simp only [hcl, hlen, hnm, and_self, if_true, e1, Option.map_some, e2]
          · cases h
        · cases h
      case array q e =>
        simp only at hk
        split at h
        · rename_i l' hl'
          split at h
          · rename_i hlen
            cases h
            have hcl : cs.length = P.cellsOf t := by rw [hc.length, List.length_flatten, List.map_replicate, List.sum_replicate_nat, hlen.2]
            have key : ∀ j (c : List Value), CellsOk (List.replicate j l').flatten c → ∀ o, (∀ i, i < j → ((cs.drop ((o + i) * P.cellsOf e)).take (P.cellsOf e)) = (c.drop (i * P.cellsOf e)).take (P.cellsOf e)) →
                ∃ ls, (List.range' o j).mapM (fun i => P.keyLits n e ((cs.drop (i * P.cellsOf e)).take (P.cellsOf e))) = some ls ∧ ls.flatten = c.map litOf := by
              intro j
              induction j with
              | zero =>
                intro c hc o _
                simp only [List.replicate_zero, List.flatten_nil, CellsOk] at hc
                subst hc
                exact ⟨[], by simp, by simp⟩
              | succ j ih =>
                intro c hc o hs
                rw [List.replicate_succ, List.flatten_cons] at hc
                obtain ⟨h1, h2⟩ := hc.split
                rw [hlen.1] at h1 h2
                obtain ⟨ls, e1, e2⟩ := ih _ h2 (o + 1) (fun i hi => by
                  have := hs (i + 1) (by omega)
                  rw [show o + 1 + i = o + (i + 1) by omega, this, List.drop_drop, Nat.add_mul, Nat.one_mul, Nat.add_comm])
                have h0 := hs 0 (by omega)
                rw [Nat.add_zero, Nat.zero_mul, List.drop_zero] at h0
                refine ⟨(c.take (P.cellsOf e)).map litOf :: ls, ?_, ?_⟩
                · rw [List.range'_succ, List.mapM_cons, e1, h0, keyLits_flat n e l' _ hk hl' h1]; rfl
                · rw [List.flatten_cons, e2, ← List.map_append, List.take_append_drop]
            obtain ⟨ls, e1, e2⟩ := key q cs hc 0 (fun i _ => by rw [Nat.zero_add])
            rw [← List.range_eq_range'] at e1
            simp only [hcl, if_true, e1, Option.map_some, e2]
          · cases h
        · cases h
theorem run_eq_flat {w : World} {n : Nat} {t : TypeId} {l : List Kd} {xs ys : List Value} {r : Bool} (hn : n ≤ 10000) (hk : P.keyTypeAt n t = true) (hf : flatT P n t = some l) (hx : CellsOk l xs) (hy : CellsOk l ys)
    (fx : (Value.agg xs.toArray).formed P t = true) (fy : (Value.agg ys.toArray).formed P t = true) (hr : r = true ↔ xs = ys) : (Op.equalIn 10000 t (.agg xs.toArray) (.agg ys.toArray)).run P w = .ok r w := by
  obtain ⟨r', h1, h2⟩ := run_equalIn_deep (10000 - n) n t hk w n n (.agg xs.toArray) (.agg ys.toArray) _ _ fx fy (by simpa [Value.cells] using keyLits_flat n t l xs hk hf hx) (by simpa [Value.cells] using keyLits_flat n t l ys hk hf hy)
  rw [show 10000 - n + n = 10000 by omega] at h1
  rw [h1]
  congr 1
  rw [Bool.eq_iff_iff, h2, hr]
  exact ⟨fun e => litOf_inj hx hy e, fun e => by rw [e]⟩
variable {ops : Array Oper} {Q : Exit → Act → World → Prop} {n : Nat} {I : World → Prop} {k i : Nat} {E : Env} {o : Oper} {d : Bool}
theorem Plan.eqAgg {op : BinOp} {t yt : TypeId} {x y : Operand} {m : Nat} {l : List Kd} {xs ys : List Value} {r v : Bool} (ho : ops[i]? = some o) (hop : o.op = .binOp op t x y yt) (hg : wantB ops E o = some true)
    (hx : opF E x = some (.ex (.agg xs.toArray))) (hy : opF E y = some (.ex (.agg ys.toArray))) (hn : m ≤ 10000) (hk : P.keyTypeAt m t = true) (hf : flatT P m t = some l) (hm : P.eqGuardType P.depth t = false)
    (h1 : CellsOk l xs) (h2 : CellsOk l ys) (fx : ∀ zs : Array Value, zs.size = l.length → (Value.agg zs).formed P t = true) (hr : r = true ↔ xs = ys) (hv : (op = .eql ∧ v = r) ∨ (op = .neq ∧ v = !r))
    (h : Plan P ops Q n I d k (i + 1) (setE o.dst (.ex (.bool v)) E)) : Plan P ops Q n I d (k + 1) i E :=
  Plan.step ho (Step.run ho hg fun a w hI hs' => by
    have e1 := hs' x (by simp [hop, Op.operands]) _ hx
    have e2 := hs' y (by simp [hop, Op.operands]) _ hy
    simp only [Fa.den] at e1 e2
    have hr' := run_eq_flat (P := P) (w := w) hn hk hf h1 h2 (fx _ (by simp [h1.length])) (fx _ (by simp [h2.length])) hr
    refine ⟨.bool v, w, ?_, Below.refl _ _, by simp [Fa.den]⟩
    rcases hv with ⟨rfl, rfl⟩ | ⟨rfl, rfl⟩
    · simp only [execOp, hop, e1, e2, Sem.run_bind, run_eqGuard_agg w .eql t x y _ _ hm, Result.andThen_ok, run_eql_struct, hr', Sem.run_pure]
    · simp only [execOp, hop, e1, e2, Sem.run_bind, run_eqGuard_agg w .neq t x y _ _ hm, Result.andThen_ok, run_neq_struct, hr', Sem.run_pure]) h
end
end Go.Free
end

section
namespace Go.Free
open Go.RowKit
theorem beq_decide {α : Type} [BEq α] [LawfulBEq α] {p q : α} {P : Prop} [Decidable P] (h : p = q ↔ P) : (p == q) = decide P := by
  by_cases e : p = q
  · rw [decide_eq_true (h.1 e)]; simpa using e
  · rw [decide_eq_false (fun x => e (h.2 x))]; simpa using e
theorem bne_decide {α : Type} [BEq α] [LawfulBEq α] {p q : α} {P : Prop} [Decidable P] (h : p ≠ q ↔ P) : (p != q) = decide P := by
  by_cases e : p = q
  · rw [decide_eq_false (fun x => h.2 x e)]; simpa using e
  · rw [decide_eq_true (h.1 e)]; simpa using e
section
variable {P : Program} {ops : Array Oper} {Q : Exit → Act → World → Prop} {n : Nat} {I : World → Prop} {k i : Nat} {E : Env} {o : Oper} {d : Bool} {A : Nat → Prop} {H : List Chunk} {key : Nat}
theorem J.condND {c : Operand} {x y : Code} {p : Prop} [Decidable p] (hc : opF E c = some (.ex (.bool (!decide p)))) (ht : ¬ p → J P n I x Q E) (hf : p → J P n I y Q E) : J P n I (.cond c x y) Q E :=
  J.cond hc (fun h => ht (by simpa using h)) (fun h => hf (by simpa using h))
theorem Plan.splitND {t : Nat} {p : Prop} [Decidable p] (ht : ¬ p → Plan P ops Q n I d k i ((t, .ex (.bool true)) :: E)) (hf : p → Plan P ops Q n I d k i ((t, .ex (.bool false)) :: E)) : Plan P ops Q n I d k i ((t, .ex (.bool (!decide p))) :: E) := by
  by_cases h : p
  · have e : (!decide p) = false := by simpa using h
    rw [e]; exact hf h
  · have e : (!decide p) = true := by simpa using h
    rw [e]; exact ht h
theorem Plan.indexArr {t e : TypeId} {x y : Operand} {β o0 off len sz : Nat} {kd : IntKind} {j : Int} (ho : ops[i]? = some o) (hop : o.op = .indexAddr t x y) (hg : wantB ops E o = some true)
    (hx : opF E x = some (.ex (.pointer (some ⟨β, o0, none⟩)))) (hy : opF E y = some (.ex (.int kd j))) (hu : P.underlying t = some (.array len e)) (hi : (P.info? e).map (·.size) = some sz) (h0 : 0 ≤ j) (h1 : j < len) (hq : o0 + j.toNat * sz = off)
    (h : Plan P ops Q n I d k (i + 1) (setE o.dst (.ex (.pointer (some ⟨β, off, none⟩))) E)) : Plan P ops Q n I d (k + 1) i E :=
  Plan.step ho (Step.run ho hg fun a w hI hs' => by
    have e1 := hs' x (by simp [hop, Op.operands]) _ hx
    have e2 := hs' y (by simp [hop, Op.operands]) _ hy
    simp only [Fa.den] at e1 e2
    obtain ⟨inf, hi1, hi2⟩ : ∃ inf, P.info? e = some inf ∧ inf.size = sz := by
      cases hinf : P.info? e with
      | none => rw [hinf] at hi; cases hi
      | some inf => rw [hinf] at hi; exact ⟨inf, rfl, by simpa using hi⟩
    refine ⟨.pointer (some ⟨β, off, none⟩), w, ?_, Below.refl _ _, by simp [Fa.den]⟩
    simp [execOp, hop, e1, e2, Instr.indexAt, Instr.sureAddr, asIntOf, run_underlying hu, h0, h1, sizeOf, typeInfo, hi1, hi2, add_at, hq]) h
theorem Plan.indexAgg {t e : TypeId} {u : TypeDesc} {x y : Operand} {len : Nat} {kd : IntKind} {j : Int} {vs : List Value} {v : Value} (ho : ops[i]? = some o) (hop : o.op = .index t x y) (hg : wantB ops E o = some true)
    (hx : opF E x = some (.ex (.agg vs.toArray))) (hy : opF E y = some (.ex (.int kd j))) (hu : P.underlying t = some (.array len e)) (hi : (P.info? e).map (·.size) = some 1) (hue : P.underlying e = some u) (hna : aggB u = false) (h0 : 0 ≤ j) (h1 : j < len) (hv : vs[j.toNat]? = some v)
    (h : Plan P ops Q n I d k (i + 1) (setE o.dst (.ex v) E)) : Plan P ops Q n I d (k + 1) i E :=
  Plan.step ho (Step.run ho hg fun a w hI hs' => by
    have e1 := hs' x (by simp [hop, Op.operands]) _ hx
    have e2 := hs' y (by simp [hop, Op.operands]) _ hy
    simp only [Fa.den] at e1 e2
    obtain ⟨inf, hi1, hi2⟩ : ∃ inf, P.info? e = some inf ∧ inf.size = 1 := by
      cases hinf : P.info? e with
      | none => rw [hinf] at hi; cases hi
      | some inf => rw [hinf] at hi; exact ⟨inf, rfl, by simpa using hi⟩
    refine ⟨v, w, ?_, Below.refl _ _, by simp [Fa.den]⟩
    have hagg : (isAgg e).run P w = .ok false w := by
      cases u <;> simp [aggB] at hna <;> simp [isAgg, run_underlying hue]
    simp [execOp, hop, e1, e2, Instr.index, part, asIntOf, run_underlying hu, h0, h1, sizeOf, typeInfo, hi1, hi2, hagg, hv]) h
end
end Go.Free
end

section
namespace Go.Free
open Go.RowKit
section
variable {P : Program} {n : Nat} {I : World → Prop} {E : Env} {A : Nat → Prop} {H : List Chunk} {key : Nat}
theorem obj_whole {β : Nat} {cs : List Value} : (obj β cs).reads β 0 cs := obj_reads (by simp)
theorem cell_load {w : World} {t : TypeId} {u : TypeDesc} {β : Nat} {c : Chunk} {cs : List Value} {F : Nat → Prop} (hc : c.holds w F) (hr : c.reads β 0 cs) (hu : P.underlying t = some u) (hna : aggB u = true) (hi : (P.info? t).map (·.size) = some cs.length) :
    (loadVar t ⟨β, 0, none⟩).run P w = .ok (.agg cs.toArray) w := by
  obtain ⟨inf, hi1, hi2⟩ : ∃ inf, P.info? t = some inf ∧ inf.size = cs.length := by
    cases hinf : P.info? t with
    | none => rw [hinf] at hi; cases hi
    | some inf => rw [hinf] at hi; exact ⟨inf, rfl, by simpa using hi⟩
  have hagg : (isAgg t).run P w = .ok true w := by
    cases u <;> simp [aggB] at hna <;> simp [isAgg, run_underlying hu]
  have hl := run_loadCellsFrom (P := P) ⟨β, 0, none⟩ w cs.length 0 #[] cs rfl (fun j u hu => by rw [Nat.zero_add, add_at]; exact hr w F hc j u hu)
  simp [loadVar, hagg, sizeOf, typeInfo, hi1, hi2, loadCells, hl]
theorem Nrm.retCT {fn : Func} {R : Nat → Fa} {w0 : World} {t u q β : Nat} {ty : TypeId} {td : TypeDesc} {c : Chunk} {cs : List Value} (hr : fn.results = #[.cell t ty, .tmp u]) (hI : ∀ w, I w → Below w0.heap.size w0 w)
    (hl : look E t = some (.ex (ptr β))) (hk : look E key = some (heap A H)) (hq : H[q]? = some c) (hrd : c.reads β 0 cs) (hu : P.underlying ty = some td) (hna : aggB td = true) (hi : (P.info? ty).map (·.size) = some cs.length)
    (hs : ∀ B, B ≤ w0.heap.size → ∃ f g, R B = .tup [.ex (.agg cs.toArray), f] ∧ look E u = some g ∧ Sub I g f) : Nrm n I (FnPost P fn R w0 .ret) E := fun a w h1 h2 h3 => by
  obtain ⟨φ, hL, _⟩ := h3 key _ hk
  have hrun := cell_load (P := P) (hL.holds q _ hq) hrd hu hna hi
  have hv := h3 t _ hl
  simp only [Fa.den] at hv
  have hv' : a.tmps.getD t undef = ptr β := hv
  have hasz : (asAddr (a.tmps[t]?.getD undef)).run P w = .ok ⟨β, 0, none⟩ w := by rw [← Array.getD_eq_getD_getElem?, hv']; rfl
  refine ⟨h2.defers, .tuple #[.agg cs.toArray, a.slot u], ?_, hI w h1, fun B hB => ?_⟩
  · simp [results, hr, hasz, hrun, Act.slot]
  · obtain ⟨f, g, e1, e2, e3⟩ := hs B hB
    rw [e1]
    simp only [Fa.den]
    exact ⟨[_, _], rfl, ⟨_, _, rfl, rfl, ⟨_, _, rfl, e3 w _ h1 (h3 u g e2), rfl⟩⟩⟩
end
end Go.Free
end

section
namespace Go.Free
open Go.RowKit
section
variable {P : Program} {ops : Array Oper} {n : Nat} {I : World → Prop} {Q : Exit → Act → World → Prop} {E : Env}
def Qd (Q : Exit → Act → World → Prop) (K : Act → World → Prop) : Exit → Act → World → Prop
  | .normal => K
  | e => Q e
theorem letsOut_Qd {K : Act → World → Prop} (h : LetsOut (Qd Q K)) : LetsOut Q := h
theorem wpOp_Qd {K K' : Act → World → Prop} {i : Nat} {a : Act} {w : World} (h : wpOp P ops (Qd Q K) i K' a w) : wpOp P ops Q i K' a w := by
  unfold wpOp at *
  split
  · rename_i ho; simpa only [ho] using h
  · rename_i o ho
    simp only [ho] at h
    split
    · rename_i hw
      simp only [hw, if_true] at h
      refine h.imp (fun h => ?_) (fun h => ⟨h.1, letsOut_Qd h.2⟩)
      unfold Oper.wp at *
      generalize (execOp a.eval o).run P w = r at *
      cases r with
      | ok x w' =>
        cases x <;> simp only [Oper.upon] at h ⊢ <;>
          first
            | exact h
            | exact Calls.mono h (fun e w'' he => by cases e <;> first | exact he | exact letsOut_Qd he)
      | halt x w' => cases x <;> simp only [Oper.upon] at h ⊢ <;> exact h
    · rename_i hw
      simp only [hw] at h; exact h
def D (P : Program) (ops : Array Oper) (Q : Exit → Act → World → Prop) (n : Nat) (I : World → Prop) (fuel : Nat) (listed : Array Bool) (E : Env) : Prop :=
  ∀ a w, I w → Sh n a → Sat E a w → wpAny P .any ops Q fuel listed a w
theorem D.step {fuel : Nat} {listed : Array Bool} (l : List Nat) (hr : Region.ready .any ops listed = l) (hl : l ≠ []) (ht : tidy ops n = true) (hI : ∀ w w', I w → Below w.heap.size w w' → I w')
    (h : ∀ i ∈ l, Plan P ops (Qd Q (wpAny P .any ops Q fuel (listed.setIfInBounds i true))) n I false 1 i E) : D P ops Q n I (fuel + 1) listed E := by
  intro a w h1 h2 h3
  refine ⟨fun e => absurd (hr.symm.trans e) hl, fun i hi => ?_⟩
  rw [hr] at hi
  rcases h i hi with ⟨F, hst, hp⟩ | ⟨_, heff⟩
  · refine wpOp_Qd (wpOp_mono ?_ (hst a w h1 h2 (fun t _ f hf => h3 t f hf)))
    rintro a' w' ⟨v, rfl, hb, hF⟩
    exact hp _ w' (hI _ _ h1 hb) (h2.put _ _) (h3.step ht h2 hb hF)
  · refine wpOp_Qd (wpOp_mono ?_ (heff a w h1 h2 h3))
    rintro a' w' ⟨E', hK, g1, g2, g3⟩
    exact hK a' w' g1 g2 g3
theorem D.one {fuel : Nat} {listed : Array Bool} (i : Nat) (hr : Region.ready .any ops listed = [i]) (ht : tidy ops n = true) (hI : ∀ w w', I w → Below w.heap.size w w' → I w')
    (h : Plan P ops (Qd Q (wpAny P .any ops Q fuel (listed.setIfInBounds i true))) n I false 1 i E) : D P ops Q n I (fuel + 1) listed E :=
  D.step [i] hr (by simp) ht hI fun j hj => by simp only [List.mem_singleton] at hj; subst hj; exact h
theorem D.two {fuel : Nat} {listed : Array Bool} (i j : Nat) (hr : Region.ready .any ops listed = [i, j]) (ht : tidy ops n = true) (hI : ∀ w w', I w → Below w.heap.size w w' → I w')
    (h : Plan P ops (Qd Q (wpAny P .any ops Q fuel (listed.setIfInBounds i true))) n I false 1 i E)
    (h2 : Plan P ops (Qd Q (wpAny P .any ops Q fuel (listed.setIfInBounds j true))) n I false 1 j E) : D P ops Q n I (fuel + 1) listed E :=
  D.step [i, j] hr (by simp) ht hI fun m hm => by
    rcases List.mem_cons.1 hm with rfl | hm
    · exact h
    · simp only [List.mem_singleton] at hm; subst hm; exact h2
theorem D.go {fuel i : Nat} {listed : Array Bool} (h : D P ops Q n I fuel listed E) : Plan P ops (Qd Q (wpAny P .any ops Q fuel listed)) n I false 0 i E := h
theorem D.done {fuel : Nat} {listed : Array Bool} (hr : Region.ready .any ops listed = []) (h : Plan P ops Q n I false 0 0 E) : D P ops Q n I fuel listed E := by
  intro a w h1 h2 h3
  cases fuel with
  | zero => exact ⟨hr, h a w h1 h2 h3⟩
  | succ k => exact ⟨fun _ => h a w h1 h2 h3, fun i hi => by rw [hr] at hi; cases hi⟩
theorem J.draw {id : Nat} (hm : P.follows .mixedOrders = true) (hI : ∀ w w', I w → Below w.heap.size w w' → I w') (h : D P ops Q n I ops.size (Array.replicate ops.size false) E) : J P n I (.region id ops true) Q E := fun a w h1 h2 h3 => by
  refine wp_region_any hm ?_
  have hb0 : Below w.heap.size w { w with drawn := w.drawn + 1 } := (Below.refl _ _).drew
  exact h a _ (hI _ _ h1 hb0) h2 (fun t f hf => Fa.mono f w _ _ hb0 (h3 t f hf))
end
/-! ### Contracts over worlds beyond one that is known -/
def exIn (wO : World) (v : Value) : Fa := .is ⟨fun w x => x = v ∧ Below wO.heap.size wO w, fun _ _ _ hb ⟨h1, h2⟩ => ⟨h1, h2.trans (hb.mono h2.size)⟩⟩
theorem Sub.exIn {I : World → Prop} {wO : World} {v : Value} (h : ∀ w, I w → Below wO.heap.size wO w) : Sub I (.ex v) (Free.exIn wO v) := fun w x hI hx => ⟨hx, h w hI⟩
theorem Sub.inEx {I : World → Prop} {wO : World} {v : Value} : Sub I (Free.exIn wO v) (.ex v) := fun w x _ hx => hx.1
theorem Sub.known {I : World → Prop} {wO : World} {v : Value} {f : Fa} (h : ∀ w, I w → Below wO.heap.size wO w) (hv : f.den wO v) : Sub I (.ex v) f := fun w x hI hx => by
  simp only [Fa.den] at hx
  subst hx
  exact Fa.mono f wO w _ (h w hI) hv
theorem SpcC.intro2 {P : Program} {f : FuncId} {fn : Func} {body : Code} {As : List Fa} {c : Chunk} {X : Type} {ok : X → Prop} {R : X → Fa} {c' : X → Chunk} (hf : P.funcs[f]? = some fn) (hb : fn.body = some body) (hsz : As.length ≤ fn.ntmps)
    (h : ∀ w0 F args, Fa.dens As w0 args → c.holds w0 F → J P fn.ntmps (fun w => Kept F w0 w) body (FnPostC P fn ok R c' w0 F) ((1000, heap (fun b => F b ∨ w0.heap.size ≤ b) [c]) :: envNow As 0)) : SpcC P f As c ok R c' := by
  intro w args F hd hc
  have hlen : args.length = As.length := dens_len w As args hd
  refine calls_of_wp hf hb ?_
  refine wp_mono (h w F args hd hc _ w (Kept.refl _ _) ⟨by simp [hlen]; omega, rfl⟩ ?_) ?_
  · intro t f' hf'
    simp only [look] at hf'
    by_cases ht : 1000 = t
    · rw [if_pos ht] at hf'
      cases hf'
      exact ⟨_, Lies.one hc, fun q b hb => .inl hb.2⟩
    · rw [if_neg ht] at hf'
      exact envNow_sat (vs := args) hd (fun j v hj => frame_args j v hj) t f' hf'
  · rintro e a w' hq
    cases e <;> simp only [FnPostC] at hq <;> first | exact hq.elim | skip
    all_goals
      obtain ⟨h1, v, x, h2, h3⟩ := hq
      exact ⟨h1, v, h2, v, x, rfl, h3⟩
theorem exIn_below {wO w : World} {v : Value} {fs : List Fa} {args : List Value} (h : Fa.dens (exIn wO v :: fs) w args) : Below wO.heap.size wO w := by
  simp only [Fa.dens] at h
  obtain ⟨y, ys, rfl, h1, _⟩ := h
  exact h1.2
theorem kept_beyond {wO w1 w : World} {F : Nat → Prop} (h : Below wO.heap.size wO w1) (hF : ∀ b, F b → wO.heap.size ≤ b) (hk : Kept F w1 w) : Below wO.heap.size wO w :=
  ⟨hk.os.trans h.os, hk.tape.trans h.tape, hk.output.trans h.output, Nat.le_trans h.size hk.size, fun k hlt => by
    rw [hk.block k (Nat.lt_of_lt_of_le hlt h.size) (fun hf => absurd (hF k hf) (by omega)), h.block k hlt]⟩
section
variable {P : Program} {n : Nat} {I : World → Prop} {Q : Exit → Act → World → Prop} {E : Env} {A : Nat → Prop} {H : List Chunk} {key : Nat}
theorem J.inA {c : Code} {q β : Nat} {c1 : Chunk} (hk : look E key = some (heap A H)) (hq : H[q]? = some c1) (hf : ∀ w F, c1.holds w F → F β) (h : A β → J P n I c Q E) : J P n I c Q E := fun a w h1 h2 h3 => by
  obtain ⟨φ, hL, hA⟩ := h3 key _ hk
  exact h (hA q β (hf w _ (hL.holds q _ hq))) a w h1 h2 h3
theorem obj_in {β : Nat} {cs : List Value} (w : World) (F : Nat → Prop) (h : (obj β cs).holds w F) : F β := (h.2 β).2 rfl
theorem J.nameOld {c : Code} {t : Nat} {wO : World} {f : Fa} (hf : look E t = some (.old wO f)) (h : ∀ u, f.den wO u → J P n I c Q ((t, .ex u) :: E)) : J P n I c Q E := fun a w h1 h2 h3 => by
  have hv := h3 t _ hf
  simp only [Fa.den] at hv
  refine h (a.slot t) hv a w h1 h2 fun s g hs => ?_
  simp only [look] at hs
  by_cases ht : t = s
  · subst ht; simp only [if_true, Option.some.injEq] at hs; subst hs; simp [Fa.den]
  · rw [if_neg ht] at hs; exact h3 s g hs
theorem Nrm.retCc {fn : Func} {X : Type} {ok : X → Prop} {R : X → Fa} {c' : X → Chunk} {w0 : World} {F : Nat → Prop} {t q β : Nat} {ty : TypeId} {td : TypeDesc} {c : Chunk} {cs : List Value} (x : X) (hr : fn.results = #[.cell t ty])
    (hl : look E t = some (.ex (ptr β))) (hk : look E key = some (heap (fun b => F b ∨ w0.heap.size ≤ b) H)) (hq : H[q]? = some c) (hrd : c.reads β 0 cs) (hu : P.underlying ty = some td) (hna : aggB td = true) (hi : (P.info? ty).map (·.size) = some cs.length)
    (hok : ok x) (hs : R x = .ex (.agg cs.toArray)) (he : Ent (allC H) (c' x)) : Nrm n (fun w => Kept F w0 w) (FnPostC P fn ok R c' w0 F .ret) E := fun a w h1 h2 h3 => by
  obtain ⟨φ, hL, hA⟩ := h3 key _ hk
  obtain ⟨G, g1, g2⟩ := he w _ hL.all
  have hrun := cell_load (P := P) (hL.holds q _ hq) hrd hu hna hi
  have hv := h3 t _ hl
  simp only [Fa.den] at hv
  have hv' : a.tmps.getD t undef = ptr β := hv
  have hasz : (asAddr (a.tmps[t]?.getD undef)).run P w = .ok ⟨β, 0, none⟩ w := by rw [← Array.getD_eq_getD_getElem?, hv']; rfl
  refine ⟨h2.defers, .agg cs.toArray, x, ?_, hok, h1, by rw [hs]; simp only [Fa.den], G, g1, fun b hb => by obtain ⟨q, hq⟩ := g2 b hb; exact hA q b hq⟩
  simp [results, hr, hasz, hrun]
end
end Go.Free
end

section
namespace Go.Free
open Go.RowKit
def lookV : List (Nat × Value) → Nat → Option Value
  | [], _ => none
  | (u, v) :: r, i => if u = i then some v else lookV r i
def substO (us : List (Nat × Value)) (i : Nat) (o : Oper) : Oper :=
  match lookV us i with
  | some v => { o with op := .assign (.const v), guard := none, pos := "given" }
  | none => o
def substL (us : List (Nat × Value)) : Nat → List Oper → List Oper
  | _, [] => []
  | k, o :: r => substO us k o :: substL us (k + 1) r
def subst (us : List (Nat × Value)) (ops : Array Oper) : Array Oper := (substL us 0 ops.toList).toArray
theorem substL_get (us : List (Nat × Value)) : ∀ (l : List Oper) (k i : Nat), (substL us k l)[i]? = (l[i]?).map (substO us (k + i))
  | [], k, i => by simp [substL]
  | o :: r, k, 0 => by simp [substL]
  | o :: r, k, i + 1 => by
    simp only [substL, List.getElem?_cons_succ]
    rw [substL_get us r (k + 1) i, show k + 1 + i = k + (i + 1) by omega]
theorem subst_get (us : List (Nat × Value)) (ops : Array Oper) (i : Nat) : (subst us ops)[i]? = (ops[i]?).map (substO us i) := by
  unfold subst
  rw [List.getElem?_toArray, substL_get, Array.getElem?_toList, Nat.zero_add]
theorem substL_length (us : List (Nat × Value)) : ∀ (l : List Oper) (k : Nat), (substL us k l).length = l.length
  | [], _ => rfl
  | o :: r, k => by simp [substL, substL_length us r (k + 1)]
theorem subst_dst (us : List (Nat × Value)) (ops : Array Oper) (i : Nat) : dst (subst us ops) i = dst ops i := by
  unfold dst
  rw [subst_get]
  cases ops[i]? with
  | none => rfl
  | some o => simp only [Option.map_some, Option.bind_some, substO]; split <;> rfl
theorem subst_before (us : List (Nat × Value)) (ops : Array Oper) : Region.before (subst us ops) = Region.before ops := by
  have key : ∀ (l : List Oper) (k : Nat) (acc : Array Nat), (substL us k l).foldl (fun acc o => acc.push (o.after.foldl (fun s e => if Region.binds .any e then s ||| 2 ^ e.on ||| acc.getD e.on 0 else s) 0)) acc =
      l.foldl (fun acc o => acc.push (o.after.foldl (fun s e => if Region.binds .any e then s ||| 2 ^ e.on ||| acc.getD e.on 0 else s) 0)) acc := by
    intro l
    induction l with
    | nil => intro k acc; rfl
    | cons o l ih =>
      intro k acc
      simp only [substL, List.foldl_cons]
      have ha : (substO us k o).after = o.after := by unfold substO; split <;> rfl
      rw [ha, ih]
  unfold Region.before
  rw [← Array.foldl_toList, ← Array.foldl_toList]
  unfold subst
  rw [List.toList_toArray]
  exact key _ _ _
def looseB (us : List (Nat × Value)) (ops : Array Oper) (n : Nat) : Bool :=
  (ops.all fun o => o.pos != "given") && us.all fun p =>
    match dst ops p.1 with
    | none => false
    | some d => decide (d < n) && (List.range ops.size).all fun j => (j == p.1 || dst ops j != some d) && (!(looks (subst us ops) j).contains d || ((Region.before ops).getD j 0).testBit p.1)
theorem lookV_mem {us : List (Nat × Value)} {i : Nat} {v : Value} (h : lookV us i = some v) : (i, v) ∈ us := by
  induction us with
  | nil => cases h
  | cons p r ih =>
    obtain ⟨u, x⟩ := p
    simp only [lookV] at h
    by_cases he : u = i
    · rw [if_pos he] at h; cases h; subst he; exact List.mem_cons_self
    · rw [if_neg he] at h; exact List.mem_cons_of_mem _ (ih h)
theorem given_pos {o : Oper} {d : Nat} {v : Value} (h : given o = some (d, v)) : o.pos = "given" := by
  unfold given at h
  split at h
  · split at h
    · rename_i hp; simpa using hp
    · cases h
  · cases h
theorem gv_subst {us : List (Nat × Value)} {ops : Array Oper} {n : Nat} (hB : looseB us ops n = true) {u d : Nat} {v : Value} (h : gv (subst us ops) u = some (d, v)) : lookV us u = some v ∧ dst ops u = some d := by
  unfold gv at h
  rw [subst_get] at h
  cases ho : ops[u]? with
  | none => rw [ho] at h; cases h
  | some o =>
    rw [ho] at h
    have h' : given (substO us u o) = some (d, v) := h
    simp only [looseB, Bool.and_eq_true] at hB
    unfold substO at h'
    cases hl : lookV us u with
    | none =>
      rw [hl] at h'
      have h1 := Array.all_eq_true_iff_forall_mem.1 hB.1 o (Array.mem_of_getElem? ho)
      rw [bne_iff_ne] at h1
      exact absurd (given_pos h') h1
    | some v' =>
      rw [hl] at h'
      obtain ⟨h1, h2, _⟩ := given_spec h'
      simp only [Op.assign.injEq, Operand.const.injEq] at h2
      exact ⟨by rw [h2], by simp only [dst, ho, Option.bind_some]; exact h1⟩
theorem subst_rel {us : List (Nat × Value)} {ops : Array Oper} {n : Nat} (hB : looseB us ops n = true) (ht : tidy ops n = true) (ht2 : tidy (subst us ops) n = true) : Rel ops (subst us ops) n := by
  have hB' := hB
  simp only [looseB, Bool.and_eq_true, List.all_eq_true] at hB'
  have hsz : (subst us ops).size = ops.size := by unfold subst; rw [List.size_toArray, substL_length, Array.length_toList]
  have hall : ∀ u d v, gv (subst us ops) u = some (d, v) → d < n ∧ ∀ j, (j ≠ u → dst ops j ≠ some d) ∧ (d ∈ looks (subst us ops) j → ((Region.before ops).getD j 0).testBit u = true) := fun u d v hg => by
    obtain ⟨h1, h2⟩ := gv_subst hB hg
    have h3 := hB'.2 (u, v) (lookV_mem h1)
    simp only [h2, Bool.and_eq_true, decide_eq_true_eq, List.all_eq_true, List.mem_range] at h3
    refine ⟨h3.1, fun j => ?_⟩
    by_cases hj : j < ops.size
    · have h4 := h3.2 j hj
      simp only [Bool.or_eq_true, beq_iff_eq, bne_iff_ne, ne_eq, Bool.not_eq_true', List.contains_eq_mem, decide_eq_false_iff_not] at h4
      refine ⟨fun hne => ?_, fun hm => ?_⟩
      · rcases h4.1 with h5 | h5
        · exact absurd h5 hne
        · exact h5
      · rcases h4.2 with h5 | h5
        · exact absurd hm h5
        · exact h5
    · refine ⟨fun _ => by simp [dst, Array.getElem?_eq_none (show ops.size ≤ j by omega)], fun hm => ?_⟩
      have : (subst us ops)[j]? = none := Array.getElem?_eq_none (by omega)
      simp [looks, this] at hm
  refine ⟨hsz, fun i hf => ?_, subst_dst us ops, subst_before us ops, ht2, ht, ⟨fun u d v hg => (hall u d v hg).1, fun u d v hg j hne => by rw [subst_dst]; exact ((hall u d v hg).2 j).1 hne, fun u d v hg j hm => by rw [subst_before]; exact ((hall u d v hg).2 j).2 hm⟩⟩
  rw [subst_get]
  cases ho : ops[i]? with
  | none => rfl
  | some o =>
    simp only [Option.map_some, Option.some.injEq]
    cases hl : lookV us i with
    | none => simp [substO, hl]
    | some v =>
      exfalso
      have h3 := hB'.2 (i, v) (lookV_mem hl)
      cases hd : dst ops i with
      | none => simp [hd] at h3
      | some d =>
        have hod : o.dst = some d := by simpa [dst, ho] using hd
        have : gv (subst us ops) i = some (d, v) := by
          unfold gv
          rw [subst_get, ho]
          simp [substO, hl, given, hod]
        rw [free_of this] at hf; cases hf
def factsU (ops : Array Oper) : List (Nat × Value) → Env
  | [] => []
  | (u, v) :: r => match dst ops u with | some d => (d, .ex v) :: factsU ops r | none => factsU ops r
def aheadU (ops : Array Oper) (us : List (Nat × Value)) (i : Nat) : List (Nat × Value) := us.filter fun p => ((Region.before ops).getD i 0).testBit p.1
def putU (ops : Array Oper) : List (Nat × Value) → Act → Act
  | [], a => a
  | (u, v) :: r, a => (putU ops r a).put (dst ops u) v
theorem putU_sh {ops : Array Oper} {n : Nat} {a : Act} (h : Sh n a) : ∀ us, Sh n (putU ops us a)
  | [] => h
  | (u, v) :: r => (putU_sh h r).put _ _
section
variable {P : Program} {ops : Array Oper} {Q : Exit → Act → World → Prop} {n : Nat} {I : World → Prop} {Es E : Env} {us : List (Nat × Value)}
def Gives (P : Program) (ops : Array Oper) (Q : Exit → Act → World → Prop) (n : Nat) (I : World → Prop) (us : List (Nat × Value)) (Es : Env) : List (Nat × Value) → Prop
  | [] => True
  | (u, v) :: r => (barB ops u = false ∧ ∀ d, dst ops u = some d → Plan P ops (Qd Q (fun a _ => a.slot d = v)) n I true 1 u (factsU ops (aheadU ops us u) ++ Es)) ∧ Gives P ops Q n I us Es r
theorem Gives.mem {r : List (Nat × Value)} (h : Gives P ops Q n I us Es r) {u : Nat} {v : Value} (hm : (u, v) ∈ r) : barB ops u = false ∧ ∀ d, dst ops u = some d → Plan P ops (Qd Q (fun a _ => a.slot d = v)) n I true 1 u (factsU ops (aheadU ops us u) ++ Es) := by
  induction r with
  | nil => cases hm
  | cons p r ih =>
    obtain ⟨u', v'⟩ := p
    rcases List.mem_cons.1 hm with he | hm
    · cases he; exact h.1
    · exact ih h.2 hm
theorem look_factsU {t : Nat} {f : Fa} : ∀ {l : List (Nat × Value)}, look (factsU ops l ++ E) t = some f → (∃ u v, (u, v) ∈ l ∧ dst ops u = some t ∧ f = .ex v) ∨ look E t = some f
  | [], h => .inr h
  | (u, v) :: r, h => by
    simp only [factsU] at h
    cases hd : dst ops u with
    | none =>
      rw [hd] at h
      exact (look_factsU h).imp (fun ⟨u', v', hm, h1⟩ => ⟨u', v', List.mem_cons_of_mem _ hm, h1⟩) id
    | some d =>
      rw [hd] at h
      simp only [List.cons_append, look] at h
      by_cases hdt : d = t
      · rw [if_pos hdt] at h
        cases h
        exact .inl ⟨u, v, List.mem_cons_self, by rw [hd, hdt], rfl⟩
      · rw [if_neg hdt] at h
        exact (look_factsU h).imp (fun ⟨u', v', hm, h1⟩ => ⟨u', v', List.mem_cons_of_mem _ hm, h1⟩) id
theorem look_factsIn {t u : Nat} {v : Value} {f : Fa} : ∀ {l : List (Nat × Value)}, (u, v) ∈ l → dst ops u = some t → look (factsU ops l ++ E) t = some f → ∃ u v, (u, v) ∈ l ∧ dst ops u = some t ∧ f = .ex v
  | (u2, v2) :: r, hm, hd, h => by
    simp only [factsU] at h
    cases hd2 : dst ops u2 with
    | none =>
      rw [hd2] at h
      rcases List.mem_cons.1 hm with he | hm
      · cases he; rw [hd] at hd2; cases hd2
      · obtain ⟨u', v', h1, h2⟩ := look_factsIn hm hd h
        exact ⟨u', v', List.mem_cons_of_mem _ h1, h2⟩
    | some d2 =>
      rw [hd2] at h
      simp only [List.cons_append, look] at h
      by_cases hdt : d2 = t
      · rw [if_pos hdt] at h
        cases h
        exact ⟨u2, v2, List.mem_cons_self, by rw [hd2, hdt], rfl⟩
      · rw [if_neg hdt] at h
        rcases List.mem_cons.1 hm with he | hm
        · cases he; rw [hd] at hd2; cases hd2; exact absurd rfl hdt
        · obtain ⟨u', v', h1, h2⟩ := look_factsIn hm hd h
          exact ⟨u', v', List.mem_cons_of_mem _ h1, h2⟩
def onceB : List (Nat × Value) → Bool
  | [] => true
  | (u, _) :: r => r.all (fun p => p.1 != u) && onceB r
theorem lookV_of {l : List (Nat × Value)} (h : onceB l = true) {u : Nat} {v : Value} (hm : (u, v) ∈ l) : lookV l u = some v := by
  induction l with
  | nil => cases hm
  | cons p r ih =>
    obtain ⟨u', v'⟩ := p
    simp only [onceB, Bool.and_eq_true, List.all_eq_true] at h
    simp only [lookV]
    rcases List.mem_cons.1 hm with he | hm
    · cases he; rw [if_pos rfl]
    · have := h.1 _ hm
      rw [if_neg (fun e => by rw [e] at this; simp at this)]
      exact ih h.2 hm
theorem gv_of (hB : looseB us ops n = true) (h1 : onceB us = true) {u : Nat} {v : Value} (hm : (u, v) ∈ us) : ∃ d, dst ops u = some d ∧ gv (subst us ops) u = some (d, v) := by
  have hB' := hB
  simp only [looseB, Bool.and_eq_true, List.all_eq_true] at hB'
  have h3 := hB'.2 (u, v) hm
  cases hd : dst ops u with
  | none => simp [hd] at h3
  | some d =>
    refine ⟨d, rfl, ?_⟩
    cases ho : ops[u]? with
    | none => simp [dst, ho] at hd
    | some o =>
      have hod : o.dst = some d := by simpa [dst, ho] using hd
      unfold gv
      rw [subst_get, ho]
      simp [substO, lookV_of h1 hm, given, hod]
theorem putU_slot (R : Rel ops (subst us ops) n) (hB : looseB us ops n = true) (h1 : onceB us = true) {a : Act} (hsh : Sh n a) : ∀ {l : List (Nat × Value)}, (∀ p ∈ l, p ∈ us) → ∀ t, (∀ u v, (u, v) ∈ l → dst ops u ≠ some t) → (putU ops l a).slot t = a.slot t
  | [], _, _, _ => rfl
  | (u, v) :: r, hl, t, ht => by
    have h2 := putU_slot R hB h1 hsh (fun p hp => hl p (List.mem_cons_of_mem _ hp)) t (fun u v hm => ht u v (List.mem_cons_of_mem _ hm))
    simp only [putU]
    cases hd : dst ops u with
    | none => exact h2
    | some d => rw [slot_put_ne _ (fun e => ht u v List.mem_cons_self (by rw [hd, e]))]; exact h2
theorem putU_val (R : Rel ops (subst us ops) n) (hB : looseB us ops n = true) (h1 : onceB us = true) {a : Act} (hsh : Sh n a) : ∀ {l : List (Nat × Value)}, (∀ p ∈ l, p ∈ us) → ∀ u v d, (u, v) ∈ l → dst ops u = some d → (putU ops l a).slot d = v
  | (u', v') :: r, hl, u, v, d, hm, hd => by
    simp only [putU]
    obtain ⟨d', hd', hg'⟩ := gv_of hB h1 (hl _ (List.mem_cons_self (a := (u', v'))))
    rw [hd']
    by_cases hdd : d' = d
    · subst hdd
      rw [slot_put_same (putU_sh hsh r) (R.free.lt _ _ _ hg')]
      obtain ⟨d2, hd2, hg2⟩ := gv_of hB h1 (hl _ hm)
      rw [hd] at hd2; cases hd2
      by_cases huu : u = u'
      · subst huu; rw [hg'] at hg2; cases hg2; rfl
      · exact absurd (by rw [subst_dst]; exact hd) (R.free.one u' d' v' hg' u huu)
    · rw [slot_put_ne _ hdd]
      rcases List.mem_cons.1 hm with he | hm
      · cases he; rw [hd] at hd'; cases hd'; exact absurd rfl hdd
      · exact putU_val R hB h1 hsh (fun p hp => hl p (List.mem_cons_of_mem _ hp)) u v d hm hd
def stillB (ops : Array Oper) : Env → Bool
  | [] => true
  | (t, f) :: r => keeps f && ((List.range ops.size).all fun j => dst ops j != some t) && stillB ops r
theorem still_of : ∀ {Es : Env}, stillB ops Es = true → ∀ t f, look Es t = some f → (∀ w w' v, f.den w v → f.den w' v) ∧ ∀ j, dst ops j ≠ some t
  | [], _, t, f, h => by simp [look] at h
  | (s, g) :: r, hB, t, f, h => by
    simp only [stillB, Bool.and_eq_true, List.all_eq_true, List.mem_range] at hB
    simp only [look] at h
    by_cases hst : s = t
    · rw [if_pos hst] at h
      cases h
      subst hst
      refine ⟨fun w w' v hd => keeps_den hB.1.1 hd, fun j hj => ?_⟩
      have hlt : j < ops.size := by
        rcases Nat.lt_or_ge j ops.size with h' | h'
        · exact h'
        · simp [dst, Array.getElem?_eq_none h'] at hj
      have := hB.1.2 j hlt
      rw [bne_iff_ne] at this
      exact this hj
    · rw [if_neg hst] at h
      exact still_of hB.2 t f h
theorem J.loose {id : Nat} (us : List (Nat × Value)) (Es : Env) (hm : P.follows .mixedOrders = true) (hI : ∀ w w', I w → Below w.heap.size w w' → I w') (ht : tidy ops n = true) (ht2 : tidy (subst us ops) n = true) (hB : looseB us ops n = true) (h1 : onceB us = true) (hst : stillB ops Es = true)
    (hL : ¬ LetsOut Q) (hQ : ∀ c a b w, Q (.panic c) a w → Q (.panic c) b w) (hE : Weak I E Es) (hG : Gives P ops Q n I us Es us)
    (h : Plan P (subst us ops) Q n I true (subst us ops).size 0 (factsU ops us ++ E)) : J P n I (.region id ops true) Q E := fun a w hw ha hs => by
  have R := subst_rel hB ht ht2
  refine wp_region_any hm ?_
  have hb0 : Below w.heap.size w { w with drawn := w.drawn + 1 } := (Below.refl _ _).drew
  have hw0 := hI _ _ hw hb0
  have hs0 : Sat E a { w with drawn := w.drawn + 1 } := fun t f hf => Fa.mono f w _ _ hb0 (hs t f hf)
  have hsame : ∀ p ∈ us, p ∈ us := fun _ h => h
  refine loose_run (Es := Es) R (fun _ => hL) (fun _ => hQ) hI (still_of hst) ?_ ops.size _ a _ (putU ops us a) (List.range' 0 ops.size) (factsU ops us ++ E)
    ⟨by simp, start_closed, hw0, ha, putU_sh ha us, planL_of _ _ _ (by rw [← R.size]; exact h), ?_, List.pairwise_lt_range', fun i hi => by simp [List.mem_range'] at hi; omega, fun i hi _ => ?_, ?_, ?_, fun u d v _ hl => absurd hl (by rw [start_facts]; simp), fun _ => hE.sat hw0 hs0, ?_⟩ start_count
  · intro u d v hg b w2 hw2 hb2 hEs hah
    obtain ⟨hl, hd⟩ := gv_subst hB hg
    obtain ⟨hbar, hpl⟩ := hG.mem (lookV_mem hl)
    have hsat : Sat (factsU ops (aheadU ops us u) ++ Es) b w2 := fun t f hf => by
      rcases look_factsU hf with ⟨u', v', hm', hd', rfl⟩ | hf'
      · simp only [aheadU, List.mem_filter] at hm'
        obtain ⟨d2, hd2, hg2⟩ := gv_of hB h1 hm'.1
        rw [hd'] at hd2; cases hd2
        simp only [Fa.den]
        exact hah u' t v' hg2 hm'.2
      · exact hEs t f hf'
    rcases hpl d hd with ⟨F, hstp, hfin⟩ | ⟨hb, _⟩
    · refine wpOp_Qd (wpOp_mono ?_ (hstp b w2 hw2 hb2 fun t _ f hf => hsat t f hf))
      rintro a' w' ⟨v', rfl, hbel, hF⟩
      have hv := hfin _ w' (hI _ _ hw2 hbel) (hb2.put _ _) (hsat.step ht hb2 hbel hF)
      simp only [Qd] at hv
      rw [hd, slot_put_same hb2 (tidy_dst ht hd)] at hv
      rw [hd, hv]
      exact ⟨rfl, hbel⟩
    · have := hb.resolve_left (by simp)
      rw [hbar] at this; cases this
  · intro t f hf
    by_cases hu : ∃ u v, (u, v) ∈ us ∧ dst ops u = some t
    · obtain ⟨u, v, hm', hd⟩ := hu
      obtain ⟨u', v', hm2, hd', rfl⟩ := look_factsIn hm' hd hf
      simp only [Fa.den]
      exact putU_val R hB h1 ha hsame u' v' t hm2 hd'
    · rcases look_factsU hf with ⟨u', v', hm2, hd', rfl⟩ | hf'
      · exact absurd ⟨u', v', hm2, hd'⟩ hu
      · rw [putU_slot R hB h1 ha hsame t (fun u v hm' hd => hu ⟨u, v, hm', hd⟩)]
        exact hs0 t f hf'
  · rw [start_facts]
    simp [List.mem_range']; exact hi
  · intro t htt
    exact (putU_slot R hB h1 ha hsame t (fun u v hm' hd => by
      obtain ⟨d, hd2, hg⟩ := gv_of hB h1 hm'
      rw [hd] at hd2; cases hd2
      exact htt u _ v hg rfl)).symm
  · intro u d v hg
    obtain ⟨hl, hd⟩ := gv_subst hB hg
    exact putU_val R hB h1 ha hsame u v d (lookV_mem hl) hd
  · intro hno
    cases hus : us with
    | nil => rfl
    | cons p r =>
      exfalso
      obtain ⟨u, v⟩ := p
      obtain ⟨d, _, hg⟩ := gv_of hB h1 (by rw [hus]; exact List.mem_cons_self : (u, v) ∈ us)
      have := free_of hg
      rw [hno u] at this; cases this
end
end Go.Free
end

section
namespace Go.Free
open Go.RowKit
def fullF (xs : List Value) : Fa := .is ⟨fun w v => ∃ A m, v = .slice A m m ∧ rowH 1 xs w v, fun _ _ _ hb ⟨A, m, h1, h2⟩ => ⟨A, m, h1, rowH_mono hb h2⟩⟩
theorem Sub.full {I : World → Prop} {xs : List Value} : Sub I (fullF xs) (row 1 xs) := fun _ _ _ ⟨_, _, _, h⟩ => h
section
variable {P : Program} {ops : Array Oper} {Q : Exit → Act → World → Prop} {n : Nat} {I : World → Prop} {k i : Nat} {E : Env} {o : Oper} {d : Bool}
end
end Go.Free
end

section
namespace Go.Free
open Go.RowKit
section
variable {P : Program} {ops : Array Oper} {Q : Exit → Act → World → Prop} {n : Nat} {I : World → Prop} {k i : Nat} {E : Env} {o : Oper} {d : Bool}
end
end Go.Free
end

section
namespace Go.Free
open Go.RowKit
def blk (g e : Nat) (cs : List Value) : Chunk := ⟨fun w F => w.heap[g]? = some (.cells cs.toArray e (0, 0)) ∧ ∀ b, F b ↔ b = g,
  fun w F b h hb => by rw [(h.2 b).1 hb]; exact (Array.getElem?_eq_some_iff.1 h.1).1,
  fun w w' F h hk => ⟨by rw [hk g ((h.2 g).2 rfl)]; exact h.1, h.2⟩⟩
theorem Ent.blkEq {g e : Nat} {xs ys : List Value} (h : xs = ys) : Ent (blk g e xs) (blk g e ys) := h ▸ Ent.refl _
theorem blk_cell {g e : Nat} {cs : List Value} {w : World} {F : Nat → Prop} (h : (blk g e cs).holds w F) {j : Nat} {u : Value} (hu : cs[j]? = some u) : w.cell? ⟨g, j, none⟩ = some u := by
  simp only [World.cell?, h.1, Option.isSome_none, Bool.false_eq_true, if_false]
  rw [List.getElem?_toArray]; exact hu
theorem blk_reads {g e off : Nat} {cs us : List Value} (h : (cs.drop off).take us.length = us) : (blk g e cs).reads g off us := fun w F hh j u hu => by
  refine blk_cell hh ?_
  have hj : j < us.length := (List.getElem?_eq_some_iff.1 hu).1
  rw [← h] at hu
  rw [List.getElem?_take_of_lt hj, List.getElem?_drop] at hu
  exact hu
theorem blk_pat {g e off : Nat} {cs vs : List Value} (h : off + vs.length ≤ cs.length) : (blk g e cs).pat g off vs (blk g e (cs.take off ++ vs ++ cs.drop (off + vs.length))) := fun w F ⟨hh, hF⟩ =>
  ⟨(hF g).2 rfl, cs.toArray, e, hh, by simpa using h, fun w' hw => ⟨by simpa using hw, hF⟩⟩
theorem row_blk {e sz g n cap : Nat} {xs : List Value} : Ent (rowC e sz (some ⟨g, 0, none⟩) n cap xs) (exC fun rest => purC ((xs ++ rest).length = cap * sz ∧ xs.length = n * sz ∧ n ≤ cap ∧ cap ≤ 9223372036854775807) (blk g e (xs ++ rest))) := fun w F ⟨hh, hF⟩ => by
  rcases hh.2 with ⟨h0, _⟩ | ⟨g', cp, cur, hv, _, hg, h1, h2, h3, h4⟩
  · cases h0
  · cases hv
    have e1 : xs ++ cur.toList.drop (n * sz) = cur.toList := by rw [← h4]; exact List.take_append_drop _ _
    exact ⟨F, ⟨cur.toList.drop (n * sz), ⟨by rw [e1, Array.length_toList, h3], hh.1, h1, by simpa [maxLen] using h2⟩, by rw [e1, Array.toArray_toList]; exact hg, fun b => (hF b).trans ⟨fun h => (by cases h; rfl), fun h => (by subst h; rfl)⟩⟩, fun _ hb => hb⟩
theorem blk_row {e sz g n cap : Nat} {xs rest : List Value} (h1 : (xs ++ rest).length = cap * sz) (h2 : xs.length = n * sz) (h3 : n ≤ cap) (h4 : cap ≤ 9223372036854775807) : Ent (blk g e (xs ++ rest)) (rowC e sz (some ⟨g, 0, none⟩) n cap xs) := fun w F ⟨hh, hF⟩ =>
  ⟨F, ⟨⟨h2, .inr ⟨g, cap, _, rfl, Nat.zero_le _, hh, h3, by simpa [maxLen] using h4, by simpa using h1, by simp [← h2]⟩⟩, fun b => (hF b).trans ⟨fun h => (by subst h; rfl), fun h => (by cases h; rfl)⟩⟩, fun _ hb => hb⟩
theorem row_room {e sz n cap : Nat} {B : Option Addr} {xs : List Value} {w : World} {F : Nat → Prop} (h : (rowC e sz B n cap xs).holds w F) : xs.length = n * sz ∧ n ≤ cap ∧ cap ≤ 9223372036854775807 ∧ (B = none → n = 0 ∧ cap = 0) ∧ (∀ ad, B = some ad → ad = ⟨ad.block, 0, none⟩) := by
  refine ⟨h.1.1, ?_⟩
  rcases h.1.2 with ⟨hv, hn⟩ | ⟨g, cp, cur, hv, _, hg, h1, h2, h3, h4⟩
  · cases hv; exact ⟨Nat.le_refl _, by omega, fun _ => ⟨hn, rfl⟩, fun ad h => (by cases h)⟩
  · cases hv; exact ⟨h1, by simpa [maxLen] using h2, fun h => (by cases h), fun ad h => (by cases h; rfl)⟩
section
variable {P : Program} {ops : Array Oper} {Q : Exit → Act → World → Prop} {n : Nat} {I : World → Prop} {k i : Nat} {E : Env} {o : Oper} {d : Bool} {A : Nat → Prop} {H : List Chunk} {key : Nat}
theorem Plan.capE {t e : TypeId} {x : Operand} {B : Option Addr} {m cap : Nat} (ho : ops[i]? = some o) (hop : o.op = .call { callee := .builtin .cap, args := #[x], argTypes := #[t] }) (hg : wantB ops E o = some true)
    (hx : opF E x = some (.ex (.slice B m cap))) (hu : P.underlying t = some (.slice e)) (h : Plan P ops Q n I d k (i + 1) (setE o.dst (.ex (.int .i64 cap)) E)) : Plan P ops Q n I d (k + 1) i E :=
  Plan.step ho (Step.run ho hg fun a w _ hs' => by
    have e1 := hs' x (by simp [hop, Op.operands, Call.operands]) _ hx
    simp only [Fa.den] at e1
    refine ⟨.int .i64 cap, w, ?_, Below.refl _ _, by simp [Fa.den]⟩
    simp [execOp, hop, resolve, invoke, builtin, e1, Builtin.cap_, run_underlying hu, goInt]) h
theorem run_append_zeros {w : World} {t tn ty e : TypeId} {z : Value} {sz bytes m cap k0 : Nat} {kd : IntKind} {g : Nat} {olds : List Value} (he : Elt P t e z sz bytes) (hn : P.underlying tn = some (.int kd)) (hlo : olds.length = m * sz) (holds : ∀ j v, olds[j]? = some v → w.cell? ⟨g, j, none⟩ = some v)
    (hgt : cap < m + k0) (hk : 0 < k0) (hlim : (m + k0) * bytes ≤ 140737488355328) :
    (Builtin.append_ #[t, tn] ty #[.slice (some ⟨g, 0, none⟩) m cap, .int .i64 k0]).run P w = .ok (.slice (some ⟨w.heap.size, 0, none⟩) (m + k0) (grownCap w (m + k0) cap e))
      (w.drew.alloc (.cells (olds.toArray ++ Builtin.zeroCells z.cells k0 ++ Builtin.zeroCells z.cells (grownCap w (m + k0) cap e - (m + k0))) e)) := by
  obtain ⟨inf, hi, hz, hsz, hby⟩ := he.hi
  have hpos := he.hs
  have hbp := he.hb
  have h63 : m + k0 ≤ 140737488355328 := Nat.le_trans (Nat.le_mul_of_pos_right _ hbp) hlim
  have hk63 : k0 * bytes ≤ 140737488355328 := Nat.le_trans (Nat.mul_le_mul_right _ (by omega)) hlim
  have hw : IntKind.i64.wrap (k0 : Int) = k0 := IntWalk.i64_in _ (by omega)
  have hn1 : ¬ (m + k0 ≤ cap) := by omega
  have h63' : ¬ (9223372036854775807 < ((m : Int) + (k0 : Int))) := by omega
  have hfit := growslice_fits (need := m + k0) (old := cap) (bytes := bytes) hgt hlim
  have h48' : ¬ (281474976710656 < Builtin.nextslicecap (m + k0) cap * inf.bytes) := by rw [hby]; omega
  have hfo := run_firstCells_some (P := P) w.drew inf.size m ⟨g, 0, none⟩ m cap olds (by rw [hsz]; exact hlo) (by intro j v hj; rw [add_at, Nat.zero_add]; simpa using holds j v hj)
  have hneg : ¬ ((k0 : Int) < 0) := by omega
  have hbig : ¬ ((281474976710656 : Int) < (k0 : Int) * (inf.bytes : Int)) := by
    rw [hby, ← Int.natCast_mul]; omega
  have hnz : ¬ (k0 * inf.size = 0) := by rw [hsz]; exact Nat.mul_ne_zero (by omega) (by omega)
  simp [Builtin.append_, run_underlying he.ht, run_underlying hn, asInt, asIntOf, hw, hneg, hbig, sizeOf, typeInfo, zeroValue, hi, hz, hn1, h63', h48', Question.forced, hfo, hnz, newRow, grownCap]
theorem zeroCells_length {z : Value} {sz k0 : Nat} (hz : z.cells.size = sz) : (Builtin.zeroCells z.cells k0).toList.length = k0 * sz := by
  simp [Builtin.zeroCells, hz]
theorem Plan.appendZ {x y : Operand} {t tn e : TypeId} {z : Value} {sz bytes m cap k0 g q : Nat} {kn : IntKind} {cs : List Value} (ho : ops[i]? = some o) (hop : o.op = .call { callee := .builtin .append, args := #[x, y], argTypes := #[t, tn] })
    (hg : wantB ops E o = some true) (hd : ∀ d, o.dst = some d → d < n) (hx : opF E x = some (.ex (.slice (some ⟨g, 0, none⟩) m cap))) (hy : opF E y = some (.ex (.int .i64 (k0 : Int)))) (he : Elt P t e z sz bytes) (hn : P.underlying tn = some (.int kn))
    (hk : look E key = some (heap A H)) (hA : Own I A) (hqH : H[q]? = some (blk g e cs)) (hm : m * sz ≤ cs.length) (hgt : cap < m + k0) (hk0 : 0 < k0) (hlim : (m + k0) * bytes ≤ 140737488355328)
    (h : ∀ β cap' rest, m + k0 ≤ cap' → cap' ≤ 9223372036854775807 → rest.length = (cap' - m) * sz → Plan P ops Q n I d k (i + 1) (setE o.dst (.ex (.slice (some ⟨β, 0, none⟩) (m + k0) cap')) ((key, heap A (H ++ [blk β e (cs.take (m * sz) ++ rest)])) :: sieve E)))
    (hq : d = false ∨ barB ops i = true := by first | exact .inl rfl | exact .inr (by kernel_rfl)) : Plan P ops Q n I d (k + 1) i E :=
  Plan.turnRun ho hg hd hk hA (fun a w φ _ _ hs' hL hLA hfr => by
    have e1 := hs' x (by simp [hop, Op.operands, Call.operands]) _ hx
    have e2 := hs' y (by simp [hop, Op.operands, Call.operands]) _ hy
    simp only [Fa.den] at e1 e2
    have hc := hL.holds q _ hqH
    have hb0 := he.hb
    have hrun := run_append_zeros (P := P) (w := w) (ty := o.type) (g := g) (cap := cap) (olds := cs.take (m * sz)) he hn (by rw [List.length_take]; omega) (fun j v hj => by
      have hlt : j < m * sz := by
        have := (List.getElem?_eq_some_iff.1 hj).1
        rw [List.length_take] at this; omega
      rw [List.getElem?_take_of_lt hlt] at hj
      exact blk_cell hc hj) hgt hk0 hlim
    have hge := grownCap_ge w (m + k0) cap e
    have h63 : m + k0 ≤ 140737488355328 := Nat.le_trans (Nat.le_mul_of_pos_right _ hb0) hlim
    have hcm : grownCap w (m + k0) cap e ≤ maxLen := grownCap_le_maxLen w _ _ _ (by simp only [maxLen]; omega)
    obtain ⟨rest, hrest⟩ : ∃ rest, rest = (Builtin.zeroCells z.cells k0).toList ++ (Builtin.zeroCells z.cells (grownCap w (m + k0) cap e - (m + k0))).toList := ⟨_, rfl⟩
    have hcells : (cs.take (m * sz)).toArray ++ Builtin.zeroCells z.cells k0 ++ Builtin.zeroCells z.cells (grownCap w (m + k0) cap e - (m + k0)) = (cs.take (m * sz) ++ rest).toArray := by
      apply Array.ext'; rw [hrest]; simp
    rw [hcells] at hrun
    have hb : Below w.heap.size w (w.drew.alloc (.cells (cs.take (m * sz) ++ rest).toArray e)) := ⟨rfl, rfl, rfl, by simp, fun k hk => Below.heap_alloc w.drew _ k hk⟩
    have hnew := heap_alloc_new w.drew (.cells (cs.take (m * sz) ++ rest).toArray e)
    have hsz2 : w.drew.heap.size = w.heap.size := rfl
    rw [hsz2] at hnew
    have hL' := hL.add (c' := blk w.heap.size e (cs.take (m * sz) ++ rest)) (F := fun b => b = w.heap.size) hb ⟨hnew, fun b => Iff.rfl⟩ (fun b e => Nat.le_of_eq e.symm)
    have hrl : rest.length = (grownCap w (m + k0) cap e - m) * sz := by
      rw [hrest, List.length_append, zeroCells_length he.hz, zeroCells_length he.hz, ← Nat.add_mul]; congr 1; omega
    refine ⟨.slice (some ⟨w.heap.size, 0, none⟩) (m + k0) (grownCap w (m + k0) cap e), w.drew.alloc (.cells (cs.take (m * sz) ++ rest).toArray e), .ex (.slice (some ⟨w.heap.size, 0, none⟩) (m + k0) (grownCap w (m + k0) cap e)), _, _, .inl ?_, .ofBelow hb, hL', fun q b hb => ?_, by simp [Fa.den], h w.heap.size _ rest hge (by simpa [maxLen] using hcm) hrl⟩
    · simp only [execOp, hop, resolve, invoke, builtin, List.map_toArray, List.map_cons, List.map_nil, e1, e2, Sem.run_bind, Sem.run_pure, Result.andThen_ok, hrun]
    · by_cases he : q = H.length
      · simp only [if_pos he] at hb; exact hfr b (Nat.le_of_eq hb.symm)
      · simp only [if_neg he] at hb; exact hLA q b hb) hq
theorem run_copy_blk {w : World} {t ty e : TypeId} {z : Value} {sz bytes g d0 dl dc sl sc g2 s0 cnt : Nat} {cs news : List Value} {F : Nat → Prop} (he : Elt P t e z sz bytes) (hc : (blk g e cs).holds w F) (hcnt : Nat.min sl dl = cnt) (hnl : news.length = cnt * sz)
    (hn : ∀ j u, news[j]? = some u → w.cell? ⟨g2, s0 + j, none⟩ = some u) (h1 : ∀ u ∈ news, u.oneCell' = true) (hr : d0 + news.length ≤ cs.length) :
    (Builtin.copy_ #[t, t] ty #[.slice (some ⟨g, d0, none⟩) dl dc, .slice (some ⟨g2, s0, none⟩) sl sc]).run P w = .ok (.int .i64 cnt) (w.setRow g (cs.take d0 ++ news ++ cs.drop (d0 + news.length)).toArray) := by
  obtain ⟨inf, hi, hz, hsz, hby⟩ := he.hi
  have hf := run_firstCells_some (P := P) w inf.size cnt ⟨g2, s0, none⟩ sl sc news (by rw [hsz]; exact hnl) (fun j v hj => by rw [add_at]; exact hn j v hj)
  have hst := run_storeCells_at P g d0 e news 0 cs.toArray w hc.1 (by simpa using hr) h1
  simp only [Nat.add_zero] at hst
  simp only [Builtin.copy_, List.getElem?_toArray, List.getElem?_cons_zero, List.getElem?_cons_succ, Sem.run_bind, run_underlying he.ht, Result.andThen_ok, Builtin.lenOf, Sem.run_pure, hcnt, sizeOf, typeInfo, hi]
  simp [hi, hf, hst, goInt]
theorem Plan.copyC {x y : Operand} {t e : TypeId} {z : Value} {sz bytes g d0 dl dc sl sc g2 s0 cnt q q2 : Nat} {c2 : Chunk} {cs news : List Value} (ho : ops[i]? = some o) (hop : o.op = .call { callee := .builtin .copy, args := #[x, y], argTypes := #[t, t] })
    (hg : wantB ops E o = some true) (hd : ∀ d, o.dst = some d → d < n) (hx : opF E x = some (.ex (.slice (some ⟨g, d0, none⟩) dl dc))) (hy : opF E y = some (.ex (.slice (some ⟨g2, s0, none⟩) sl sc))) (he : Elt P t e z sz bytes)
    (hk : look E key = some (heap A H)) (hA : Own I A) (hqH : H[q]? = some (blk g e cs)) (hqH2 : H[q2]? = some c2) (hr2 : c2.reads g2 s0 news) (hcnt : Nat.min sl dl = cnt) (hnl : news.length = cnt * sz) (h1 : ∀ u ∈ news, u.oneCell' = true) (hr : d0 + news.length ≤ cs.length)
    (h : Plan P ops Q n I d k (i + 1) (setE o.dst (.ex (.int .i64 cnt)) ((key, heap A (H.set q (blk g e (cs.take d0 ++ news ++ cs.drop (d0 + news.length))))) :: sieve E)))
    (hq : d = false ∨ barB ops i = true := by first | exact .inl rfl | exact .inr (by kernel_rfl)) : Plan P ops Q n I d (k + 1) i E :=
  Plan.turnRun ho hg hd hk hA (fun a w φ _ _ hs' hL hLA hfr => by
    have e1 := hs' x (by simp [hop, Op.operands, Call.operands]) _ hx
    have e2 := hs' y (by simp [hop, Op.operands, Call.operands]) _ hy
    simp only [Fa.den] at e1 e2
    have hc := hL.holds q _ hqH
    have hn2 := hr2 w _ (hL.holds q2 _ hqH2)
    have hrun := run_copy_blk (P := P) (ty := o.type) (dc := dc) (sc := sc) he hc hcnt hnl hn2 h1 hr
    obtain ⟨w', hw'⟩ : ∃ w', w' = w.setRow g (cs.take d0 ++ news ++ cs.drop (d0 + news.length)).toArray := ⟨_, rfl⟩
    rw [← hw'] at hrun
    have hK : Kept (φ q) w w' := by
      subst hw'
      exact ⟨rfl, rfl, rfl, by simp, fun kk _ hkk => setRow_other w g kk _ (fun e => hkk (by rw [e]; exact (hc.2 g).2 rfl))⟩
    have hc2 : (blk g e (cs.take d0 ++ news ++ cs.drop (d0 + news.length))).holds w' (φ q) := ⟨by subst hw'; exact setRow_heap w g cs.toArray _ e _ hc.1, hc.2⟩
    have hqlt : q < H.length := (List.getElem?_eq_some_iff.1 hqH).1
    refine ⟨.int .i64 cnt, w', .ex (.int .i64 cnt), _, _, .inl ?_, hK.mono (fun b _ hb => hLA q b hb), hL.upd hqlt hK hc2 (fun b hb => .inl hb), wide (H := H) hLA hfr (fun b hb => .inl hb), by simp [Fa.den], h⟩
    simp only [execOp, hop, resolve, invoke, builtin, List.map_toArray, List.map_cons, List.map_nil, e1, e2, Sem.run_bind, Sem.run_pure, Result.andThen_ok, hrun]) hq
theorem Plan.clearC {x : Operand} {t e : TypeId} {z : Value} {sz bytes g d0 m c q : Nat} {cs : List Value} (ho : ops[i]? = some o) (hop : o.op = .call { callee := .builtin .clear, args := #[x], argTypes := #[t] }) (hdst : o.dst = none)
    (hg : wantB ops E o = some true) (hx : opF E x = some (.ex (.slice (some ⟨g, d0, none⟩) m c))) (he : Elt P t e z sz bytes)
    (hk : look E key = some (heap A H)) (hA : Own I A) (hqH : H[q]? = some (blk g e cs)) (hz1 : ∀ u ∈ z.cells.toList, u.oneCell' = true) (hr : d0 + m * sz ≤ cs.length)
    (h : ∀ zs : List Value, zs.length = m * sz → Plan P ops Q n I d k (i + 1) ((key, heap A (H.set q (blk g e (cs.take d0 ++ zs ++ cs.drop (d0 + m * sz))))) :: sieve E))
    (hq : d = false ∨ barB ops i = true := by first | exact .inl rfl | exact .inr (by kernel_rfl)) : Plan P ops Q n I d (k + 1) i E :=
  Plan.turnRun ho hg (by rw [hdst]; intro _ e; cases e) hk hA (fun a w φ _ _ hs' hL hLA hfr => by
    have e1 := hs' x (by simp [hop, Op.operands, Call.operands]) _ hx
    simp only [Fa.den] at e1
    obtain ⟨inf, hi, hzz, hsz, hby⟩ := he.hi
    have hc := hL.holds q _ hqH
    have hzl := zeroCells_length (z := z) (k0 := m) he.hz
    have hzo : ∀ u ∈ (Builtin.zeroCells z.cells m).toList, u.oneCell' = true := fun u hu => by
      simp only [Builtin.zeroCells, Array.toList_map, List.mem_map] at hu
      obtain ⟨j, hj, rfl⟩ := hu
      have hp : 0 < z.cells.size := by rw [he.hz]; exact he.hs
      have hlt : j % z.cells.size < z.cells.size := Nat.mod_lt _ hp
      have e2 : z.cells[j % z.cells.size]! = z.cells[j % z.cells.size] := by simp [hlt]
      rw [e2]
      exact hz1 _ (by simp)
    have hst := run_storeCells_at P g d0 e (Builtin.zeroCells z.cells m).toList 0 cs.toArray w hc.1 (by rw [hzl]; simpa using hr) hzo
    simp only [Nat.add_zero] at hst
    rw [hzl] at hst
    obtain ⟨w', hw'⟩ : ∃ w', w' = w.setRow g (cs.take d0 ++ (Builtin.zeroCells z.cells m).toList ++ cs.drop (d0 + m * sz)).toArray := ⟨_, rfl⟩
    have hcc : (blk g e (cs.take d0 ++ (Builtin.zeroCells z.cells m).toList ++ cs.drop (d0 + m * sz))).holds w' (φ q) := ⟨by subst hw'; exact setRow_heap w g cs.toArray _ e _ hc.1, hc.2⟩
    have hK : Kept (φ q) w w' := by
      subst hw'
      exact ⟨rfl, rfl, rfl, by simp, fun kk _ hkk => setRow_other w g kk _ (fun e => hkk (by rw [e]; exact (hc.2 g).2 rfl))⟩
    have hqlt : q < H.length := (List.getElem?_eq_some_iff.1 hqH).1
    by_cases hm : m = 0
    · subst hm
      have hz0 : (Builtin.zeroCells z.cells 0).toList = [] := List.eq_nil_of_length_eq_zero (by rw [hzl, Nat.zero_mul])
      have hp := h (Builtin.zeroCells z.cells 0).toList hzl
      rw [hz0, List.append_nil, Nat.zero_mul, show d0 + 0 = d0 from rfl, List.take_append_drop] at hp
      refine ⟨.tuple #[], w, .ex (.tuple #[]), _, _, .inl ?_, Kept.refl _ _, hL.upd hqlt (Kept.refl _ _) hc (fun b hb => .inl hb), wide (H := H) hLA hfr (fun b hb => .inl hb), by simp [Fa.den], by rw [hdst]; exact hp⟩
      simp [execOp, hop, resolve, invoke, builtin, e1, Builtin.clear_, run_underlying he.ht]
    · refine ⟨.tuple #[], w', .ex (.tuple #[]), _, _, .inl ?_, hK.mono (fun b _ hb => hLA q b hb), hL.upd hqlt hK hcc (fun b hb => .inl hb), wide (H := H) hLA hfr (fun b hb => .inl hb), by simp [Fa.den], by rw [hdst]; exact h _ hzl⟩
      have hst' : (storeCells ⟨g, d0, none⟩ (Builtin.zeroCells z.cells m).toList).run P w = .ok () w' := by
        rw [hw']; simpa using hst
      simp [execOp, hop, resolve, invoke, builtin, e1, Builtin.clear_, run_underlying he.ht, zeroValue, typeInfo, hi, hzz, hm, hst']) hq
theorem Plan.callFn {f : FuncId} {x : Operand} {xs : List Operand} {ts : Array TypeId} {caps : Array Value} {vs : List Value} {r : Value} {fn : Func} (ho : ops[i]? = some o) (hop : o.op = .call { callee := .value x, args := xs.toArray, argTypes := ts }) (hg : wantB ops E o = some true)
    (hx : opF E x = some (.ex (.func (.func f) #[] caps))) (hxs : ∀ (a : Act) (w : World), (∀ y, y ∈ xs → ∀ g, opF E y = some g → g.den w (a.eval y)) → xs.map a.eval = vs)
    (hf : P.funcs[f]? = some fn) (hbody : fn.body.isNone = false) (hname : (fn.name == "runtime.NumGoroutine") = false)
    (hc : ∀ w, I w → Calls P f (vs.toArray ++ caps) w fun e w' => e = .returned r ∧ Below w.heap.size w w')
    (h : Plan P ops Q n I d k (i + 1) (setE o.dst (.ex r) E)) : Plan P ops Q n I d (k + 1) i E :=
  Plan.step ho (fun a w hI hsh hs => by
    unfold wpOp
    simp only [ho, wantB_spec ho hsh (fun t ht => hs t (.inl ht)) hg, if_true]
    refine .inl ?_
    unfold Oper.wp
    have e1 := opF_den (a := a) (w := w) ho (by simp [hop, Op.operands, Call.operands]) (fun t ht => hs t (.inl ht)) hx
    simp only [Fa.den] at e1
    have e2 := hxs a w (fun y hy g hg => opF_den ho (by simp [hop, Op.operands, Call.operands, hy]) (fun t ht => hs t (.inl ht)) hg)
    have hrun : (execOp a.eval o).run P w = .ok (.enter f (vs.toArray ++ caps)) w := by
      have hn : ¬ fn.name = "runtime.NumGoroutine" := by simpa using hname
      have hb : ¬ fn.body = none := by intro e; rw [e] at hbody; cases hbody
      simp [execOp, hop, resolve, invoke, callFunc, Deferred.ofValue, e1, hf, hb, hn, ← e2]
    rw [hrun]
    simp only [Oper.upon]
    refine (hc w hI).mono ?_
    rintro e w' ⟨rfl, hb⟩
    exact ⟨r, by rw [dst_of ho], hb, by simp [Fa.den]⟩) h
theorem Plan.boxP {t : TypeId} {x : Operand} {v : Value} (ho : ops[i]? = some o) (hop : o.op = .box t x) (hg : wantB ops E o = some true) (hx : opF E x = some (.ex v))
    (h : Plan P ops Q n I d k (i + 1) (setE o.dst (ptrF v.cells.toList) E)) : Plan P ops Q n I d (k + 1) i E :=
  Plan.step ho (Step.run ho hg fun a w _ hs' => by
    have e1 := hs' x (by simp [hop, Op.operands]) _ hx
    simp only [Fa.den] at e1
    have hb : Below w.heap.size w (w.alloc (.cells v.cells t)) := (Below.refl _ _).alloc (Nat.le_refl _) _
    refine ⟨ptr w.heap.size, w.alloc (.cells v.cells t), ?_, hb, ⟨⟨w.heap.size, 0, none⟩, rfl, fun j u hu => ?_⟩⟩
    · simp [execOp, hop, e1, Instr.box, newVar, newRow]
    · rw [add_at]
      simp only [World.cell?, heap_alloc_new w (.cells v.cells t), Option.isSome_none, Bool.false_eq_true, if_false, Nat.zero_add]
      rw [← Array.getElem?_toList]; exact hu) h
theorem vals1 {x : Operand} {u : Value} (h1 : opF E x = some (.ex u)) : ∀ (a : Act) (w : World), (∀ y, y ∈ [x] → ∀ g, opF E y = some g → g.den w (a.eval y)) → [x].map a.eval = [u] := fun a w h => by
  have e1 := h x (by simp) _ h1
  simp only [Fa.den] at e1
  simp [e1]
theorem vals2 {x y : Operand} {u v : Value} (h1 : opF E x = some (.ex u)) (h2 : opF E y = some (.ex v)) : ∀ (a : Act) (w : World), (∀ z, z ∈ [x, y] → ∀ g, opF E z = some g → g.den w (a.eval z)) → [x, y].map a.eval = [u, v] := fun a w h => by
  have e1 := h x (by simp) _ h1
  have e2 := h y (by simp) _ h2
  simp only [Fa.den] at e1 e2
  simp [e1, e2]
theorem Spc.fnCalls {f : FuncId} {As : List Fa} {r : Value} {vs : List Value} {caps : Array Value} (h : Spc P f As fun _ => .ex r) (hd : ∀ w, I w → Fa.dens As w (vs ++ caps.toList)) : ∀ w, I w → Calls P f (vs.toArray ++ caps) w fun e w' => e = .returned r ∧ Below w.heap.size w w' := fun w hI => by
  have h1 := h w _ (hd w hI)
  have e : (vs ++ caps.toList).toArray = vs.toArray ++ caps := by apply Array.ext'; simp
  rw [e] at h1
  refine h1.mono ?_
  rintro e w' ⟨v, rfl, hb, hR⟩
  have := hR 0 (Nat.zero_le _)
  simp only [Fa.den] at this
  exact ⟨by rw [this], hb⟩
theorem Plan.callG {f : FuncId} {xs : List Operand} {ts : Array TypeId} {fs : List Fa} {c : Chunk} (D : Chunk) {X : Type} {ok : X → Prop} {R : X → Fa} {c' : X → Chunk} {fn : Func} (H' : X → List Chunk) (ho : ops[i]? = some o)
    (hop : o.op = .call { callee := .value (.func f), args := xs.toArray, argTypes := ts }) (hg : wantB ops E o = some true) (hc : SpcC P f fs c ok R c')
    (hf : P.funcs[f]? = some fn) (hbody : fn.body.isNone = false) (hname : (fn.name == "runtime.NumGoroutine") = false) (hd : ∀ d, o.dst = some d → d < n)
    (hx : Opnds I E xs fs) (hk : look E key = some (heap A H)) (hA : Own I A) (hsp : Ent (allC H) (Free.sepC c D)) (hjn : ∀ x, Ent (Free.sepC (c' x) D) (allC (H' x)))
    (h : ∀ x, ok x → Plan P ops Q n I d k (i + 1) (setE o.dst (R x) ((key, heap A (H' x)) :: sieve E))) (hq : d = false ∨ barB ops i = true := by first | exact .inl rfl | exact .inr (by kernel_rfl)) : Plan P ops Q n I d (k + 1) i E :=
  Plan.turn ho hg hd hk hA (fun a w φ hI hs hs' hL hLA hfr hsh => by
    unfold wpOp
    simp only [ho, wantB_spec ho hsh (fun t _ f hf => hs t f hf) hg, if_true]
    refine .inl ?_
    unfold Oper.wp
    have hrun : (execOp a.eval o).run P w = .ok (.enter f (xs.map a.eval).toArray) w := by
      have hn : ¬ fn.name = "runtime.NumGoroutine" := by simpa using hname
      have hb : ¬ fn.body = none := by intro e; rw [e] at hbody; cases hbody
      simp [execOp, hop, resolve, invoke, callFunc, Deferred.ofValue, Act.eval, hf, hb, hn]
    rw [hrun]
    simp only [Oper.upon]
    have hden := Opnds.dens (a := a) hI hx (fun x hxm f hf => hs' x (by simp [hop, Op.operands, Call.operands, hxm]) f hf)
    obtain ⟨G0, hG0, hG0s⟩ := hsp w _ hL.all
    obtain ⟨Gc, Gd, hG, hdis, hcH, hdH⟩ := hG0
    refine (hc w _ Gc hden hcH).mono ?_
    rintro e w' ⟨v, x, rfl, hok, hK, hR, F', hF', hFb⟩
    have hdH' : D.holds w' Gd := D.keep hdH hK (fun b hb hc => hdis b hc hb)
    obtain ⟨G2, hG2, hG2s⟩ := hjn x w' (fun b => F' b ∨ Gd b) ⟨F', Gd, fun b => Iff.rfl, fun b hb hb2 => by
      rcases hFb b hb with h1 | h1
      · exact hdis b h1 hb2
      · have := D.lt w Gd b hdH hb2; omega, hF', hdH'⟩
    obtain ⟨φ', hL', hφ'⟩ := Lies.ofAll hG2
    have hin : ∀ b, Gc b ∨ Gd b → A b := fun b hb => by
      obtain ⟨q, hq⟩ := hG0s b ((hG b).2 hb)
      exact hLA q b hq
    refine ⟨v, R x, H' x, φ', rfl, hK.mono (fun b _ hb => hin b (.inl hb)), hL', fun q b hb => ?_, hR, h x hok⟩
    rcases hG2s b (hφ' q b hb) with h1 | h1
    · rcases hFb b h1 with h2 | h2
      · exact hin b (.inl h2)
      · exact hfr b h2
    · exact hin b (.inr h1)) hq
theorem Plan.overlapsC {f : FuncId} {x y : Operand} {ts : Array TypeId} {tS tR e g g2 o1 o2 la ca lb cb q q2 : Nat} {cs cs2 : List Value} {z : Value} {sz bytes : Nat} {fn : Func} (ho : ops[i]? = some o) (hop : o.op = .call { callee := .value (.func f), args := #[x, y], argTypes := ts }) (hg : wantB ops E o = some true)
    (hf : P.funcs[f]? = some fn) (hbody : fn.body.isNone = true) (hname : (fn.name == "runtime.NumGoroutine") = false) (hnx : Extern.findNext fn = none) (hfi : Extern.find fn = some (Extern.SlicesOverlaps.overlaps #[tS, tS] #[tR]))
    (hx : opF E x = some (.ex (.slice (some ⟨g, o1, none⟩) la ca))) (hy : opF E y = some (.ex (.slice (some ⟨g2, o2, none⟩) lb cb))) (he : Elt P tS e z sz bytes)
    (hk : look E key = some (heap A H)) (hqH : H[q]? = some (blk g e cs)) (hqH2 : H[q2]? = some (blk g2 e cs2)) (hne : q ≠ q2) (hcs : cs2.length ≠ 0) (hkn : n ≤ key)
    (h : Plan P ops Q n I d k (i + 1) (setE o.dst (.ex (.bool false)) E)) : Plan P ops Q n I d (k + 1) i E :=
  Plan.step ho (Step.runK ho hg fun a w hI hs' hK => by
    have e1 := hs' x (by simp [hop, Op.operands, Call.operands]) _ hx
    have e2 := hs' y (by simp [hop, Op.operands, Call.operands]) _ hy
    simp only [Fa.den] at e1 e2
    obtain ⟨φ, hL, _⟩ := hK key hkn _ hk
    have h1 := hL.holds q _ hqH
    have h2 := hL.holds q2 _ hqH2
    have hgg : g ≠ g2 := fun he => hne (hL.apart q q2 g ((h1.2 g).2 rfl) ((h2.2 g).2 he))
    obtain ⟨inf, hi, hz, hsz, hby⟩ := he.hi
    refine ⟨.bool false, w, ?_, Below.refl _ _, by simp [Fa.den]⟩
    have hov := Lib.run_overlaps_apart (P := P) w tS tR e he.ht sz (fun w => by simp [sizeOf, typeInfo, hi, hsz]) ⟨g, o1, none⟩ ⟨g2, o2, none⟩ la ca lb cb hgg e e cs.length cs2.length
      (by simp [World.shape?, h1.1]) (by simp [World.shape?, h2.1]) hcs (by simp [World.frozen?, h1.1]) (by simp [World.frozen?, h1.1])
    have hcf := run_callFunc_extern hf hname hbody hnx hfi #[.slice (some ⟨g, o1, none⟩) la ca, .slice (some ⟨g2, o2, none⟩) lb cb] w
    rw [hov] at hcf
    have e0 : a.eval (.func f) = .func (.func f) #[] #[] := rfl
    simp [execOp, hop, resolve, invoke, Deferred.ofValue, e0, e1, e2, hcf]) h
end
end Go.Free
end

section
namespace Go.Free
open Go.RowKit
section
variable {P : Program} {ops : Array Oper} {Q : Exit → Act → World → Prop} {n : Nat} {I : World → Prop} {k i : Nat} {E : Env} {o : Oper} {d : Bool} {A : Nat → Prop} {H : List Chunk} {key : Nat}
theorem Plan.slice3 {t e : TypeId} {z : Value} {sz bytes : Nat} {x y y2 y3 : Operand} {m cap a0 b0 c0 : Nat} {B : Option Addr} {kd kd2 kd3 : IntKind} (ho : ops[i]? = some o) (hop : o.op = .slice t x (some y) (some y2) (some y3))
    (hg : wantB ops E o = some true) (hx : opF E x = some (.ex (.slice B m cap))) (he : Elt P t e z sz bytes) (hy : opF E y = some (.ex (.int kd (a0 : Int)))) (hy2 : opF E y2 = some (.ex (.int kd2 (b0 : Int)))) (hy3 : opF E y3 = some (.ex (.int kd3 (c0 : Int)))) (h1 : a0 ≤ b0) (h2 : b0 ≤ c0) (h3 : c0 ≤ cap)
    (h : Plan P ops Q n I d k (i + 1) (setE o.dst Fa.any E)) : Plan P ops Q n I d (k + 1) i E :=
  Plan.step ho (Step.run ho hg fun a w hI hs' => by
    have e1 := hs' x (by simp [hop, Op.operands]) _ hx
    have e2 := hs' y (by simp [hop, Op.operands]) _ hy
    have e3 := hs' y2 (by simp [hop, Op.operands]) _ hy2
    have e4 := hs' y3 (by simp [hop, Op.operands]) _ hy3
    simp only [Fa.den] at e1 e2 e3 e4
    obtain ⟨inf, hinf, hz, hs1, hby⟩ := he.hi
    have hB : (Instr.sliceBounds true m cap (some (.int kd (a0 : Int))) (some (.int kd2 (b0 : Int))) (some (.int kd3 (c0 : Int)))).run P w = .ok (a0, b0, c0) w := by
      unfold Instr.sliceBounds
      simp [run_sliceBound_ok (P := P) (w := w) (Int.natCast_nonneg c0) (show (c0 : Int) ≤ cap by omega), run_sliceBound_ok (P := P) (w := w) (Int.natCast_nonneg b0) (show (b0 : Int) ≤ c0 by omega), run_sliceBound_ok (P := P) (w := w) (Int.natCast_nonneg a0) (show (a0 : Int) ≤ b0 by omega)]
    refine ⟨.slice (if c0 = a0 then B else B.map (·.add (a0 * sz))) (b0 - a0) (c0 - a0), w, ?_, Below.refl _ _, any_den _ _⟩
    have hr : (Instr.sliceAt t (.slice B m cap) (some (.int kd (a0 : Int))) (some (.int kd2 (b0 : Int))) (some (.int kd3 (c0 : Int)))).run P w = .ok (.slice (if c0 = a0 then B else B.map (·.add (a0 * sz))) (b0 - a0) (c0 - a0)) w := by
      simp [Instr.sliceAt, run_underlying he.ht, Instr.slice, hB, sizeOf, typeInfo, hinf, hs1]
    simp only [execOp, hop, Option.map_some, e1, e2, e3, e4, Sem.run_bind, hr, Result.andThen_ok, Sem.run_pure]) h
theorem Plan.sliceLoB {t e : TypeId} {z : Value} {sz bytes : Nat} {x y : Operand} {m cap a0 β o0 : Nat} {kd : IntKind} (ho : ops[i]? = some o) (hop : o.op = .slice t x (some y) none none)
    (hg : wantB ops E o = some true) (hx : opF E x = some (.ex (.slice (some ⟨β, o0, none⟩) m cap))) (he : Elt P t e z sz bytes) (hy : opF E y = some (.ex (.int kd (a0 : Int)))) (ha : a0 ≤ m)
    (h : Plan P ops Q n I d k (i + 1) (setE o.dst (.ex (.slice (some ⟨β, if cap = a0 then o0 else o0 + a0 * sz, none⟩) (m - a0) (cap - a0))) E)) : Plan P ops Q n I d (k + 1) i E :=
  Plan.step ho (Step.run ho hg fun a w hI hs' => by
    have e1 := hs' x (by simp [hop, Op.operands]) _ hx
    have e2 := hs' y (by simp [hop, Op.operands]) _ hy
    simp only [Fa.den] at e1 e2
    obtain ⟨inf, hinf, hz, hs1, hby⟩ := he.hi
    have hB : (Instr.sliceBounds true m cap (some (.int kd (a0 : Int))) none none).run P w = .ok (a0, m, cap) w := by
      unfold Instr.sliceBounds
      simp [run_sliceBound_ok (P := P) (w := w) (Int.natCast_nonneg a0) (show (a0 : Int) ≤ m by omega)]
    refine ⟨.slice (some ⟨β, if cap = a0 then o0 else o0 + a0 * sz, none⟩) (m - a0) (cap - a0), w, ?_, Below.refl _ _, by simp [Fa.den]⟩
    have hr : (Instr.sliceAt t (.slice (some ⟨β, o0, none⟩) m cap) (some (.int kd (a0 : Int))) none none).run P w = .ok (.slice (some ⟨β, if cap = a0 then o0 else o0 + a0 * sz, none⟩) (m - a0) (cap - a0)) w := by
      by_cases hc : cap = a0
      · subst hc
        simp [Instr.sliceAt, run_underlying he.ht, Instr.slice, hB, sizeOf, typeInfo, hinf, hs1]
      · simp [Instr.sliceAt, run_underlying he.ht, Instr.slice, hB, sizeOf, typeInfo, hinf, hs1, hc, add_at]
    simp only [execOp, hop, Option.map_none, Option.map_some, e1, e2, Sem.run_bind, hr, Result.andThen_ok, Sem.run_pure]) h
theorem Plan.sliceMid {t e : TypeId} {z : Value} {sz bytes : Nat} {x y y2 : Operand} {m cap a0 b0 β o0 : Nat} {kd kd2 : IntKind} (ho : ops[i]? = some o) (hop : o.op = .slice t x (some y) (some y2) none)
    (hg : wantB ops E o = some true) (hx : opF E x = some (.ex (.slice (some ⟨β, o0, none⟩) m cap))) (he : Elt P t e z sz bytes) (hy : opF E y = some (.ex (.int kd (a0 : Int)))) (hy2 : opF E y2 = some (.ex (.int kd2 (b0 : Int)))) (ha : a0 ≤ b0) (hb : b0 ≤ cap) (hc : a0 < cap)
    (h : Plan P ops Q n I d k (i + 1) (setE o.dst (.ex (.slice (some ⟨β, o0 + a0 * sz, none⟩) (b0 - a0) (cap - a0))) E)) : Plan P ops Q n I d (k + 1) i E :=
  Plan.step ho (Step.run ho hg fun a w hI hs' => by
    have e1 := hs' x (by simp [hop, Op.operands]) _ hx
    have e2 := hs' y (by simp [hop, Op.operands]) _ hy
    have e3 := hs' y2 (by simp [hop, Op.operands]) _ hy2
    simp only [Fa.den] at e1 e2 e3
    obtain ⟨inf, hinf, hz, hs1, hby⟩ := he.hi
    have hB : (Instr.sliceBounds true m cap (some (.int kd (a0 : Int))) (some (.int kd2 (b0 : Int))) none).run P w = .ok (a0, b0, cap) w := by
      unfold Instr.sliceBounds
      simp [run_sliceBound_ok (P := P) (w := w) (Int.natCast_nonneg b0) (show (b0 : Int) ≤ cap by omega), run_sliceBound_ok (P := P) (w := w) (Int.natCast_nonneg a0) (show (a0 : Int) ≤ b0 by omega)]
    refine ⟨.slice (some ⟨β, o0 + a0 * sz, none⟩) (b0 - a0) (cap - a0), w, ?_, Below.refl _ _, by simp [Fa.den]⟩
    have hr : (Instr.sliceAt t (.slice (some ⟨β, o0, none⟩) m cap) (some (.int kd (a0 : Int))) (some (.int kd2 (b0 : Int))) none).run P w = .ok (.slice (some ⟨β, o0 + a0 * sz, none⟩) (b0 - a0) (cap - a0)) w := by
      have hne : ¬ cap = a0 := by omega
      simp [Instr.sliceAt, run_underlying he.ht, Instr.slice, hB, sizeOf, typeInfo, hinf, hs1, hne, add_at]
    simp only [execOp, hop, Option.map_none, Option.map_some, e1, e2, e3, Sem.run_bind, hr, Result.andThen_ok, Sem.run_pure]) h
theorem Plan.appendBlk {x y : Operand} {t e : TypeId} {z : Value} {sz bytes g m cap sl sc g2 s0 q q2 : Nat} {c2 : Chunk} {cs news : List Value} (ho : ops[i]? = some o) (hop : o.op = .call { callee := .builtin .append, args := #[x, y], argTypes := #[t, t] })
    (hg : wantB ops E o = some true) (hd : ∀ d, o.dst = some d → d < n) (hx : opF E x = some (.ex (.slice (some ⟨g, 0, none⟩) m cap))) (hy : opF E y = some (.ex (.slice (some ⟨g2, s0, none⟩) sl sc))) (he : Elt P t e z sz bytes)
    (hk : look E key = some (heap A H)) (hA : Own I A) (hqH : H[q]? = some (blk g e cs)) (hqH2 : H[q2]? = some c2) (hr2 : c2.reads g2 s0 news) (hnl : news.length = sl * sz) (h1 : ∀ u ∈ news, u.oneCell' = true) (hroom : m + sl ≤ cap) (hr : m * sz + news.length ≤ cs.length)
    (h : Plan P ops Q n I d k (i + 1) (setE o.dst (.ex (.slice (some ⟨g, 0, none⟩) (m + sl) cap)) ((key, heap A (H.set q (blk g e (cs.take (m * sz) ++ news ++ cs.drop (m * sz + news.length))))) :: sieve E)))
    (hq : d = false ∨ barB ops i = true := by first | exact .inl rfl | exact .inr (by kernel_rfl)) : Plan P ops Q n I d (k + 1) i E :=
  Plan.turnRun ho hg hd hk hA (fun a w φ _ _ hs' hL hLA hfr => by
    have e1 := hs' x (by simp [hop, Op.operands, Call.operands]) _ hx
    have e2 := hs' y (by simp [hop, Op.operands, Call.operands]) _ hy
    simp only [Fa.den] at e1 e2
    obtain ⟨inf, hi, hz, hsz, hby⟩ := he.hi
    have hc := hL.holds q _ hqH
    have hn2 := hr2 w _ (hL.holds q2 _ hqH2)
    have hrun := run_append_room (P := P) (w := w) t o.type e inf he.ht hi g m cap cs.toArray hc.1 ⟨g2, s0, none⟩ sl sc news (by rw [hsz]; exact hnl) (fun j u hj => by rw [add_at]; exact hn2 j u hj) h1 hroom (by rw [hsz]; simpa using hr)
    rw [hsz] at hrun
    simp only [List.toList_toArray] at hrun
    obtain ⟨w', hw'⟩ : ∃ w', w' = w.setRow g (cs.take (m * sz) ++ news ++ cs.drop (m * sz + news.length)).toArray := ⟨_, rfl⟩
    rw [← hw'] at hrun
    have hK : Kept (φ q) w w' := by
      subst hw'
      exact ⟨rfl, rfl, rfl, by simp, fun kk _ hkk => setRow_other w g kk _ (fun e => hkk (by rw [e]; exact (hc.2 g).2 rfl))⟩
    have hc2 : (blk g e (cs.take (m * sz) ++ news ++ cs.drop (m * sz + news.length))).holds w' (φ q) := ⟨by subst hw'; exact setRow_heap w g cs.toArray _ e _ hc.1, hc.2⟩
    have hqlt : q < H.length := (List.getElem?_eq_some_iff.1 hqH).1
    refine ⟨.slice (some ⟨g, 0, none⟩) (m + sl) cap, w', .ex (.slice (some ⟨g, 0, none⟩) (m + sl) cap), _, _, .inl ?_, hK.mono (fun b _ hb => hLA q b hb), hL.upd hqlt hK hc2 (fun b hb => .inl hb), wide (H := H) hLA hfr (fun b hb => .inl hb), by simp [Fa.den], h⟩
    simp only [execOp, hop, resolve, invoke, builtin, List.map_toArray, List.map_cons, List.map_nil, e1, e2, Sem.run_bind, Sem.run_pure, Result.andThen_ok, hrun]) hq
end
end Go.Free
end

section
namespace Go.Free
open Go.RowKit
def tight (B e sz m : Nat) (cs : List Value) : Fa := .is ⟨fun w v => ownH B e sz cs w v ∧ ∃ g, v = .slice (some ⟨g, 0, none⟩) m m, fun _ _ _ hb h => ⟨ownH_mono hb h.1, h.2⟩⟩
section
variable {P : Program} {ops : Array Oper} {Q : Exit → Act → World → Prop} {n : Nat} {I : World → Prop} {k i : Nat} {E : Env} {o : Oper} {d : Bool} {A : Nat → Prop} {H : List Chunk} {key : Nat}
theorem lit_tight {t e : TypeId} {z : Value} {sz bytes B m : Nat} {ps : List (Nat × Operand)} {vs : List Value} {a : Act} {w : World} (hop : o.op = .buildSlice t m ps.toArray)
    (he : Elt P t e z sz bytes) (hv : litVals E ps 0 = some vs) (hs : ∀ x, x ∈ o.op.operands → ∀ f, opF E x = some f → f.den w (a.eval x)) (hB : B ≤ w.heap.size)
    (hm : vs.length = m) (hsz : ∀ v ∈ vs, v.cells.size = sz) (hlim : m * sz ≤ 16777216) : ∃ v w', (execOp a.eval o).run P w = .ok (.value v) w' ∧ Below w.heap.size w w' ∧ ownH B e sz (flat vs) w' v ∧ ∃ g, v = .slice (some ⟨g, 0, none⟩) m m := by
    obtain ⟨inf, hi, hz, hs1, hby⟩ := he.hi
    have hps := litVals_spec (a := a) (w := w) hv (fun p hp f hf => hs p.2 (by
      simp only [hop, Op.operands, List.mem_toArray, List.mem_map]
      exact ⟨p, hp, rfl⟩) f hf)
    have hpos := he.hs
    obtain ⟨cs0, hcs0⟩ : ∃ cs0 : Array Value, cs0 = (Array.range (m * sz)).map (fun j => (if m * sz = 0 then (#[] : Array Value) else z.cells)[j % (if m * sz = 0 then (#[] : Array Value) else z.cells).size]!) := ⟨_, rfl⟩
    have hsize0 : cs0.size = m * sz := by rw [hcs0]; simp
    obtain ⟨cs', hf, hl⟩ := fill_numbered (sz := sz) vs 0 cs0 hsz (by rw [hsize0, Nat.zero_add, hm]; exact Nat.le_refl _)
    have hl' : cs'.toList = flat vs := by
      rw [hl]
      simp only [Nat.zero_mul, List.take_zero, List.nil_append, Nat.zero_add, hm]
      rw [List.drop_of_length_le (by rw [Array.length_toList, hsize0]; exact Nat.le_refl _), List.append_nil]
    have hsz' : cs'.size = m * sz := by rw [← Array.length_toList, hl', flat_length hsz, hm]
    refine ⟨.slice (some ⟨w.heap.size, 0, none⟩) m m, w.alloc (.cells cs' e), ?_, ((Below.refl _ _).alloc (Nat.le_refl _) _), ?_, _, rfl⟩
    · have hrun : (Instr.buildSlice t m (numbered vs 0).toArray).run P w = .ok (.slice (some ⟨w.heap.size, 0, none⟩) m m) (w.alloc (.cells cs' e)) := by
        unfold Instr.buildSlice
        have hle : ¬ (m * sz > 2 ^ 24) := by omega
        by_cases h0 : m * sz = 0
        · simp only [h0, if_true] at hcs0
          simp [run_underlying he.ht, sizeOf, typeInfo, hi, hs1, h0, newRow]
          rw [hcs0] at hf
          simp at hf
          simp [hf]
        · simp only [h0, if_false] at hcs0
          have hf' := hf
          rw [hcs0] at hf'
          simp [run_underlying he.ht, sizeOf, typeInfo, hi, hs1, hle, h0, newRow, zeroValue, hz]
          rw [hf']
          simp
      have hmap : (ps.toArray.map fun (p : Nat × Operand) => (p.1, a.eval p.2)) = (numbered vs 0).toArray := by rw [← hps]; simp
      simp only [execOp, hop]
      rw [show (ps.toArray.map fun (x : Nat × Operand) => match x with | (i, x) => (i, a.eval x)) = (numbered vs 0).toArray from hmap]
      simp only [Sem.run_bind, hrun, Result.andThen_ok, Sem.run_pure]
    · refine ⟨Nat.le_trans (hB) (by simp), m, ?_⟩
      have := World.ownsRow_lit (base := B) (e := e) (size := sz) w cs' m (hB) (by simp only [maxLen]; have : m ≤ m * sz := Nat.le_mul_of_pos_right _ hpos; omega) hsz'
      rw [hl'] at this
      exact this
theorem Plan.litTight {t e : TypeId} {z : Value} {sz bytes B m : Nat} {ps : List (Nat × Operand)} {vs : List Value} (ho : ops[i]? = some o) (hop : o.op = .buildSlice t m ps.toArray)
    (hg : wantB ops E o = some true) (he : Elt P t e z sz bytes) (hv : litVals E ps 0 = some vs) (hB : ∀ w, I w → B ≤ w.heap.size)
    (hm : vs.length = m) (hsz : ∀ v ∈ vs, v.cells.size = sz) (hlim : m * sz ≤ 16777216)
    (h : Plan P ops Q n I d k (i + 1) (setE o.dst (tight B e sz m (flat vs)) E)) : Plan P ops Q n I d (k + 1) i E :=
  Plan.step ho (Step.run ho hg fun a w hI hs => by
    obtain ⟨v, w', h1, h2, h3⟩ := lit_tight (B := B) (a := a) (w := w) hop he hv hs (hB w hI) hm hsz hlim
    exact ⟨v, w', h1, h2, by simpa only [tight, Fa.den] using h3⟩) h
theorem Plan.appendTight {x y : Operand} {t e : TypeId} {z : Value} {sz bytes B m m2 c2 β off q : Nat} {c : Chunk} {xs news : List Value} {f : Fa} (ho : ops[i]? = some o) (hop : o.op = .call { callee := .builtin .append, args := #[x, y], argTypes := #[t, t] })
    (hg : wantB ops E o = some true) (hx : opF E x = some f) (hfs : Sub I f (tight B e sz m xs)) (hy : opF E y = some (.ex (.slice (some ⟨β, off, none⟩) m2 c2))) (he : Elt P t e z sz bytes)
    (hk : look E key = some (heap A H)) (hqH : H[q]? = some c) (hr : c.reads β off news) (hl : news.length = m2 * sz) (hm2 : 0 < m2) (hmc : m2 ≤ c2) (hcM : c2 ≤ 9223372036854775807) (hkn : n ≤ key)
    (h1 : ∀ u ∈ news, u.oneCell' = true) (hlim : (xs.length + news.length) * bytes ≤ 140737488355328 * sz)
    (h : Plan P ops Q n I d k (i + 1) (setE o.dst (own B e sz (xs ++ news)) E)) : Plan P ops Q n I d (k + 1) i E :=
  Plan.step ho (Step.runK ho hg fun a w hI hs' hK => by
    have e1 := hfs w _ hI (hs' x (by simp [hop, Op.operands, Call.operands]) _ hx)
    have e2 := hs' y (by simp [hop, Op.operands, Call.operands]) _ hy
    simp only [tight, Fa.den] at e1 e2
    obtain ⟨hown, g, hv⟩ := e1
    obtain ⟨φ, hL, _⟩ := hK key hkn _ hk
    have hc := hr w (φ q) (hL.holds q c hqH)
    have hrow : rowH sz news w (.slice (some ⟨β, off, none⟩) m2 c2) := ⟨_, _, _, rfl, hmc, hcM, hl, (fun e => by cases e), fun j u hu => ⟨_, rfl, by rw [add_at]; exact hc j u hu⟩⟩
    rw [hv] at hown
    obtain ⟨v', w', hrun, h2, h3⟩ := run_append_rows (ty := o.type) he hown hrow h1 hlim
    obtain ⟨inf, hi, hz, hsz, hby⟩ := he.hi
    obtain ⟨hB, m', hm'⟩ := hown
    have hlen := hm'.1
    have hmm : m' = m := by
      rcases hm'.2 with ⟨h0, _⟩ | ⟨g', cp, cur, hv', _⟩
      · cases h0
      · simp only [Value.slice.injEq] at hv'; exact hv'.2.1.symm
    subst hmm
    have hpos := he.hs
    have hnm : (m' + m2) * bytes ≤ 140737488355328 := by
      have e3 : (xs.length + news.length) = (m' + m2) * sz := by rw [hlen, hl, Nat.add_mul]
      rw [e3, Nat.mul_assoc, Nat.mul_comm sz bytes, ← Nat.mul_assoc] at hlim
      exact Nat.le_of_mul_le_mul_right hlim hpos
    have h63 : m' + m2 ≤ maxLen := by
      have := he.hb
      have h4 : m' + m2 ≤ (m' + m2) * bytes := Nat.le_mul_of_pos_right _ this
      simp only [maxLen]; omega
    have hg2 := run_append_grow (P := P) w t o.type e inf z he.ht hi hz ⟨g, 0, none⟩ m' m' xs (by rw [hsz]; exact hlen) (hm'.cells (g := g) rfl) ⟨β, off, none⟩ m2 c2 news (by rw [hsz]; exact hl) (fun j u hu => by rw [add_at]; exact hc j u hu) (by omega) (by have := h63; simp only [maxLen] at this; omega) (growslice_fits (by omega) (by rw [hby]; exact hnm))
    have hrun0 := hrun
    rw [hg2] at hrun
    simp only [Result.ok.injEq] at hrun
    obtain ⟨hv1, hw1⟩ := hrun
    refine ⟨v', w', ?_, ⟨h3.os, h3.tape, h3.output, h3.size, fun b hb => ?_⟩, by simpa only [own, Fa.den] using h2⟩
    · simp only [execOp, hop, resolve, invoke, builtin, List.map_toArray, List.map_cons, List.map_nil, Sem.run_bind, Sem.run_pure, Result.andThen_ok, hv, e2, hrun0]
    · rw [← hw1]
      exact (World.grownBy_alloc w.drew _ none).block b (by simpa using hb) (by simp)) h
theorem Plan.sliceArr {t e : TypeId} {x : Operand} {β o0 len : Nat} {sz : Nat} (ho : ops[i]? = some o) (hop : o.op = .slice t x none none none) (hg : wantB ops E o = some true)
    (hx : opF E x = some (.ex (.pointer (some ⟨β, o0, none⟩)))) (hu : P.underlying t = some (.array len e)) (hi : (P.info? e).map (·.size) = some sz)
    (h : Plan P ops Q n I d k (i + 1) (setE o.dst (.ex (.slice (some ⟨β, o0, none⟩) len len)) E)) : Plan P ops Q n I d (k + 1) i E :=
  Plan.step ho (Step.run ho hg fun a w hI hs' => by
    have e1 := hs' x (by simp [hop, Op.operands]) _ hx
    simp only [Fa.den] at e1
    obtain ⟨inf, hi1, hi2⟩ : ∃ inf, P.info? e = some inf ∧ inf.size = sz := by
      cases hinf : P.info? e with
      | none => rw [hinf] at hi; cases hi
      | some inf => rw [hinf] at hi; exact ⟨inf, rfl, by simpa using hi⟩
    refine ⟨.slice (some ⟨β, o0, none⟩) len len, w, ?_, Below.refl _ _, by simp [Fa.den]⟩
    have hB : (Instr.sliceBounds false len len none none none).run P w = .ok (0, len, len) w := by
      unfold Instr.sliceBounds
      simp
    have hA : (⟨β, o0, none⟩ : Addr).add 0 = ⟨β, o0, none⟩ := by rw [add_at]; simp
    simp [execOp, hop, e1, Instr.sliceAt, run_underlying hu, Instr.sureAddr, hB, sizeOf, typeInfo, hi1, hi2, hA]) h
theorem J.seeC {cd : Code} {t sz q : Nat} {v : Value} {c : Chunk} {xs : List Value} (hv : look E t = some (.ex v)) (hk : look E key = some (heap A H)) (hqH : H[q]? = some c) (hr : ∀ w F, c.holds w F → rowH sz xs w v)
    (h : J P n I cd Q ((t, row sz xs) :: E)) : J P n I cd Q E := fun a w h1 h2 h3 => by
  obtain ⟨φ, hL, _⟩ := h3 key _ hk
  have e1 := h3 t _ hv
  simp only [Fa.den] at e1
  exact h a w h1 h2 (derive_sat h3 (by rw [e1]; exact hr w _ (hL.holds q _ hqH)))
end
end Go.Free
end

section
namespace Go.Free
open Go.RowKit
theorem SpcC.introLow {P : Program} {f : FuncId} {fn : Func} {body : Code} {As : List Fa} {c : Chunk} {X : Type} {ok : X → Prop} {R : X → Fa} {c' : X → Chunk} (hf : P.funcs[f]? = some fn) (hb : fn.body = some body) (hsz : As.length ≤ fn.ntmps)
    (h : ∀ w0 F, J P fn.ntmps (fun w => Kept F w0 w) body (FnPostC P fn ok R c' w0 F) ((1000, heap (fun b => (F b ∨ w0.heap.size ≤ b) ∧ b < w0.heap.size) [c]) :: envNow As 0)) : SpcC P f As c ok R c' := by
  intro w args F hd hc
  have hlen : args.length = As.length := dens_len w As args hd
  refine calls_of_wp hf hb ?_
  refine wp_mono (h w F _ w (Kept.refl _ _) ⟨by simp [hlen]; omega, rfl⟩ ?_) ?_
  · intro t f' hf'
    simp only [look] at hf'
    by_cases ht : 1000 = t
    · rw [if_pos ht] at hf'
      cases hf'
      exact ⟨_, Lies.one hc, fun q b hb => ⟨.inl hb.2, c.lt w F b hc hb.2⟩⟩
    · rw [if_neg ht] at hf'
      exact envNow_sat (vs := args) hd (fun j v hj => frame_args j v hj) t f' hf'
  · rintro e a w' hq
    cases e <;> simp only [FnPostC] at hq <;> first | exact hq.elim | skip
    all_goals
      obtain ⟨h1, v, x, h2, h3⟩ := hq
      exact ⟨h1, v, h2, v, x, rfl, h3⟩
section
variable {P : Program} {ops : Array Oper} {Q : Exit → Act → World → Prop} {n : Nat} {I : World → Prop} {k i : Nat} {E : Env} {o : Oper} {d : Bool} {A : Nat → Prop} {H : List Chunk} {key : Nat}
theorem J.unlow {c : Code} {B : Nat} (hk : look E key = some (heap (fun b => A b ∧ b < B) H)) (h : J P n I c Q ((key, heap A H) :: E)) : J P n I c Q E := fun a w h1 h2 h3 => by
  obtain ⟨φ, hL, hLA⟩ := h3 key _ hk
  exact h a w h1 h2 (heap_put h3 hL fun q b hb => (hLA q b hb).1)
theorem Plan.turnW {A0 : Nat → Prop} (ho : ops[i]? = some o) (hg : wantB ops E o = some true) (hd : ∀ d, o.dst = some d → d < n) (hk : look E key = some (heap A0 H)) (hA : Own I A)
    (h : ∀ a w φ, I w → Sat E a w → (∀ x, x ∈ o.op.operands → ∀ f, opF E x = some f → f.den w (a.eval x)) → Lies H φ w → (∀ q b, φ q b → A0 b) → (∀ b, w.heap.size ≤ b → A b) → Sh n a →
      wpOp P ops Q i (fun a' w' => ∃ v F H' φ', a' = a.put o.dst v ∧ Kept A w w' ∧ Lies H' φ' w' ∧ (∀ q b, φ' q b → A b) ∧ F.den w' v ∧ Plan P ops Q n I d k (i + 1) (setE o.dst F ((key, heap A H') :: sieve E))) a w)
    (hq : d = false ∨ barB ops i = true) : Plan P ops Q n I d (k + 1) i E := by
  refine .inr ⟨hq, ?_⟩
  intro a w hI hsh hs
  obtain ⟨φ, hL, hLA⟩ := hs key _ hk
  refine wpOp_mono ?_ (h a w φ hI hs (fun x hx f hf => opF_den ho hx (fun t _ f hf => hs t f hf) hf) hL hLA (hA.fresh w hI) hsh)
  rintro a' w' ⟨v, F, H', φ', rfl, hK, hL', hLA', hF, hp⟩
  refine ⟨_, hp, hA.turn w w' hI hK, hsh.put _ _, ?_⟩
  have hs' : Sat ((key, heap A H') :: sieve E) a w' := by
    intro t f hf
    simp only [look] at hf
    by_cases ht : key = t
    · rw [if_pos ht] at hf; cases hf; exact ⟨φ', hL', hLA'⟩
    · rw [if_neg ht] at hf; exact sieve_sat hs w' t f hf
  intro t f hf
  cases hdst : o.dst with
  | none => rw [hdst] at hf; exact hs' t f hf
  | some dd =>
    rw [hdst] at hf
    simp only [setE, look] at hf
    by_cases hdt : dd = t
    · subst hdt
      simp only [if_true, Option.some.injEq] at hf
      subst hf
      rw [slot_put_same hsh (hd dd hdst)]
      exact hF
    · rw [if_neg hdt] at hf
      rw [slot_put_ne a hdt]
      have : look ((key, heap A H') :: sieve E) t = some f := by simpa only [look] using hf
      exact hs' t f this
theorem Plan.callOwn {f : FuncId} {xs : List Operand} {ts : Array TypeId} {fs : Nat → List Fa} {c1 : Chunk} {X : Type} {ok : X → Prop} {R : X → Fa} {c' : X → Chunk} {fn : Func} {q t B e sz m : Nat} {cs : List Value} {ft : Fa} (ho : ops[i]? = some o)
    (hop : o.op = .call { callee := .value (.func f), args := xs.toArray, argTypes := ts }) (hg : wantB ops E o = some true) (hc : ∀ g, SpcC P f (fs g) (Free.sepC c1 (rowC e sz (some ⟨g, 0, none⟩) m m cs)) ok R c')
    (hf : P.funcs[f]? = some fn) (hbody : fn.body.isNone = false) (hname : (fn.name == "runtime.NumGoroutine") = false) (hd : ∀ d, o.dst = some d → d < n) (ht : look E t = some ft) (hts : Sub I ft (Free.tight B e sz m cs))
    (hx : ∀ g, Opnds I ((t, .ex (.slice (some ⟨g, 0, none⟩) m m)) :: E) xs (fs g)) (hk : look E key = some (heap (fun b => A b ∧ b < B) H)) (hA : Own I A) (hAB : ∀ b, B ≤ b → A b) (hqH : H[q]? = some c1)
    (h : ∀ x, ok x → Plan P ops Q n I d k (i + 1) (setE o.dst (R x) ((key, heap A (H.set q (c' x))) :: sieve E))) (hq : d = false ∨ barB ops i = true := by first | exact .inl rfl | exact .inr (by kernel_rfl)) : Plan P ops Q n I d (k + 1) i E :=
  Plan.turnW ho hg hd hk hA (fun a w φ hI hs hs' hL hLA hfr hsh => by
    unfold wpOp
    simp only [ho, wantB_spec ho hsh (fun t _ f hf => hs t f hf) hg, if_true]
    refine .inl ?_
    unfold Oper.wp
    have hrun : (execOp a.eval o).run P w = .ok (.enter f (xs.map a.eval).toArray) w := by
      have hn : ¬ fn.name = "runtime.NumGoroutine" := by simpa using hname
      have hb : ¬ fn.body = none := by intro e; rw [e] at hbody; cases hbody
      simp [execOp, hop, resolve, invoke, callFunc, Deferred.ofValue, Act.eval, hf, hb, hn]
    rw [hrun]
    simp only [Oper.upon]
    have htight := hts w _ hI (hs t ft ht)
    simp only [Free.tight, Fa.den] at htight
    obtain ⟨⟨hBw, n0, hown⟩, g, hv⟩ := htight
    rw [hv] at hown
    have hn0 : n0 = m := by
      rcases hown.2 with ⟨h0, _⟩ | ⟨g', cp, cur, h0, _⟩
      · cases h0
      · cases h0; rfl
    subst hn0
    have hgB : B ≤ g := (hown.lt g rfl).1
    have hgw : g < w.heap.size := (hown.lt g rfl).2
    have hrow : (rowC e sz (some ⟨g, 0, none⟩) n0 n0 cs).holds w (fun b => b = g) := by
      refine ⟨⟨hown.1, ?_⟩, fun b => ⟨fun h => (by subst h; rfl), fun h => (by cases h; rfl)⟩⟩
      rcases hown.2 with h0 | ⟨g', cp, cur, h0, _, r⟩
      · exact .inl h0
      · exact .inr ⟨g', cp, cur, h0, Nat.zero_le _, r⟩
    have hden := Opnds.dens (a := a) (w := w) hI (hx g) (fun x hxm f hf => by
      have hxo : x ∈ o.op.operands := by simp [hop, Op.operands, Call.operands, hxm]
      cases x with
      | tmp s =>
        simp only [opF, look] at hf
        by_cases hts : t = s
        · rw [if_pos hts] at hf
          cases hf
          subst hts
          simp only [Fa.den, Act.eval]
          exact hv
        · rw [if_neg hts] at hf
          exact hs' _ hxo f hf
      | const v => exact hs' _ hxo f hf
      | global v => exact hs' _ hxo f hf
      | func v => exact hs' _ hxo f hf)
    have hdis : ∀ p b, φ p b → b ≠ g := fun p b hb e => by have := (hLA p b hb).2; omega
    refine (hc g w _ (fun b => φ q b ∨ b = g) hden ⟨φ q, fun b => b = g, fun b => Iff.rfl, fun b h1 h2 => hdis q b h1 h2, hL.holds q _ hqH, hrow⟩).mono ?_
    rintro e' w' ⟨v, x, rfl, hok, hK, hR, F', hF', hFb⟩
    have hqlt : q < H.length := (List.getElem?_eq_some_iff.1 hqH).1
    refine ⟨v, R x, H.set q (c' x), fun p b => if p = q then F' b else φ p b, rfl, hK.mono (fun b _ hb => ?_), ⟨fun p (c : Chunk) hp => ?_, fun p p' b hp hp' => ?_, fun p b hp => ?_⟩, fun p b hb => ?_, hR, h x hok⟩
    · rcases hb with hb | rfl
      · exact (hLA q b hb).1
      · exact hAB _ hgB
    · by_cases he : p = q
      · subst he
        rw [List.getElem?_set_self hqlt] at hp
        cases hp
        simpa using hF'
      · rw [List.getElem?_set_ne (Ne.symm he)] at hp
        simp only [if_neg he]
        exact c.keep (hL.holds p c hp) hK fun b h1 h2 => h2.elim (fun h2 => he (hL.apart p q b h1 h2)) (hdis p b h1)
    · have key : ∀ p b, p ≠ q → F' b → ¬ φ p b := fun p b hne h1 h2 => by
        rcases hFb b h1 with (h3 | h3) | h3
        · exact hne (hL.apart p q b h2 h3)
        · exact hdis p b h2 h3
        · have := hL.lt h2; omega
      by_cases he : p = q
      · by_cases he' : p' = q
        · rw [he, he']
        · simp only [if_pos he] at hp
          simp only [if_neg he'] at hp'
          exact absurd hp' (key p' b he' hp)
      · by_cases he' : p' = q
        · simp only [if_neg he] at hp
          simp only [if_pos he'] at hp'
          exact absurd hp (key p b he hp')
        · simp only [if_neg he] at hp
          simp only [if_neg he'] at hp'
          exact hL.apart p p' b hp hp'
    · rw [List.length_set]
      by_cases he : p = q
      · omega
      · simp only [if_neg he] at hp
        exact hL.bound p b hp
    · by_cases he : p = q
      · simp only [if_pos he] at hb
        rcases hFb b hb with (h3 | h3) | h3
        · exact (hLA q b h3).1
        · subst h3; exact hAB _ hgB
        · exact hfr b h3
      · simp only [if_neg he] at hb
        exact (hLA p b hb).1) hq
variable {us : List (Nat × Value)} {Es : Env}
theorem Gives.nil : Gives P ops Q n I us Es [] := trivial
theorem Gives.cons {u dd : Nat} {v : Value} {r : List (Nat × Value)} (Eu : Env) (hb : barB ops u = false) (hd : dst ops u = some dd) (hE : factsU ops (aheadU ops us u) ++ Es = Eu) (h : Plan P ops (Qd Q (fun a _ => a.slot dd = v)) n I true 1 u Eu) (hr : Gives P ops Q n I us Es r) : Gives P ops Q n I us Es ((u, v) :: r) :=
  ⟨⟨hb, fun d' hd' => by rw [hd] at hd'; cases hd'; rw [hE]; exact h⟩, hr⟩
theorem Plan.gives {dd : Nat} {v : Value} {d : Bool} (h : look E dd = some (.ex v)) : Plan P ops (Qd Q (fun a _ => a.slot dd = v)) n I d 0 i E := fun a w h1 h2 h3 => by
  have := h3 dd _ h
  simpa only [Fa.den, Qd] using this
theorem J.loose2 {id m : Nat} {vops : Array Oper} {E0 : Env} (us : List (Nat × Value)) (Es : Env) (hm : P.follows .mixedOrders = true) (hI : ∀ w w', I w → Below w.heap.size w w' → I w') (hv : subst us ops = vops) (hs : vops.size = m) (hE0 : factsU ops us = E0) (ht : tidy ops n = true) (ht2 : tidy vops n = true) (hB : looseB us ops n = true) (h1 : onceB us = true) (hst : stillB ops Es = true)
    (hL : ¬ LetsOut Q) (hQ : ∀ c a b w, Q (.panic c) a w → Q (.panic c) b w) (hE : Weak I E Es) (hG : Gives P ops Q n I us Es us)
    (h : Plan P vops Q n I true m 0 (E0 ++ E)) : J P n I (.region id ops true) Q E := by
  subst hv hs hE0
  exact J.loose us Es hm hI ht ht2 hB h1 hst hL hQ hE hG h
end
end Go.Free
end

section
namespace Go.Free
open Go.RowKit
section
variable {P : Program} {ops : Array Oper} {Q : Exit → Act → World → Prop} {n : Nat} {I : World → Prop} {k i : Nat} {E : Env} {o : Oper} {d : Bool} {A : Nat → Prop} {H : List Chunk} {key : Nat}
theorem Plan.callRO {f : FuncId} {xs : List Operand} {ts : Array TypeId} {fs : List Fa} {fn : Func} {c : Chunk} {e sz : Nat} {cs : List Value} {R : Nat → Fa} (ho : ops[i]? = some o)
    (hop : o.op = .call { callee := .value (.func f), args := xs.toArray, argTypes := ts }) (hg : wantB ops E o = some true) (hc : SpcR P f fs c R) (hR : ∀ B, R B = Free.own B e sz cs)
    (hf : P.funcs[f]? = some fn) (hbody : fn.body.isNone = false) (hname : (fn.name == "runtime.NumGoroutine") = false) (hd : ∀ d, o.dst = some d → d < n)
    (hx : Opnds I E xs fs) (hk : look E key = some (heap A H)) (hA : Own I A) (hH : Ent (allC H) c)
    (h : ∀ B m cap, m * sz = cs.length → Plan P ops Q n I d k (i + 1) (setE o.dst (.ex (.slice B m cap)) ((key, heap A (H ++ [rowC e sz B m cap cs])) :: sieve E))) (hq : d = false ∨ barB ops i = true := by first | exact .inl rfl | exact .inr (by kernel_rfl)) : Plan P ops Q n I d (k + 1) i E :=
  Plan.turn ho hg hd hk hA (fun a w φ hI hs hs' hL hLA hfr hsh => by
    unfold wpOp
    simp only [ho, wantB_spec ho hsh (fun t _ f hf => hs t f hf) hg, if_true]
    refine .inl ?_
    unfold Oper.wp
    have hrun : (execOp a.eval o).run P w = .ok (.enter f (xs.map a.eval).toArray) w := by
      have hn : ¬ fn.name = "runtime.NumGoroutine" := by simpa using hname
      have hb : ¬ fn.body = none := by intro e; rw [e] at hbody; cases hbody
      simp [execOp, hop, resolve, invoke, callFunc, Deferred.ofValue, Act.eval, hf, hb, hn]
    rw [hrun]
    simp only [Oper.upon]
    have hden := Opnds.dens (a := a) hI hx (fun x hxm f hf => hs' x (by simp [hop, Op.operands, Call.operands, hxm]) f hf)
    obtain ⟨G, hG, _⟩ := hH w _ hL.all
    refine (hc w _ G hden hG).mono ?_
    rintro ev w' ⟨v, rfl, hB, hRR⟩
    have h0 := hRR w.heap.size (Nat.le_refl _)
    rw [hR] at h0
    obtain ⟨_, m, hm⟩ := h0
    have hsl : ∃ B cap, v = .slice B m cap := by
      rcases hm.2 with ⟨h1, hm0⟩ | ⟨g, cp, cur, h1, _⟩
      · exact ⟨_, _, by rw [h1, hm0]⟩
      · exact ⟨_, _, h1⟩
    obtain ⟨B, cap, rfl⟩ := hsl
    have hm0 : w'.ownsRow 0 e sz (.slice B m cap) m cs := by
      refine ⟨hm.1, ?_⟩
      rcases hm.2 with h1 | ⟨g, cp, cur, hv, hb, r⟩
      · exact .inl h1
      · exact .inr ⟨g, cp, cur, hv, Nat.zero_le _, r⟩
    have hF : ∀ b, (Value.slice B m cap).ownBlock = some b → w.heap.size ≤ b := fun b hb => (hm.lt b hb).1
    refine ⟨.slice B m cap, .ex (.slice B m cap), H ++ [rowC e sz B m cap cs], _, rfl, .ofBelow hB, hL.add hB (c' := rowC e sz B m cap cs) ⟨hm0, fun _ => Iff.rfl⟩ hF, fun q b hb => ?_, by simp [Fa.den], h B m cap hm.1.symm⟩
    by_cases he : q = H.length
    · simp only [if_pos he] at hb; exact hfr b (hF b hb)
    · simp only [if_neg he] at hb; exact hLA q b hb) hq
theorem Plan.callFR {f : FuncId} {x : Operand} {xs : List Operand} {ts : Array TypeId} {caps : List Value} {fs : List Fa} {c : Chunk} {R : Nat → Fa} {fn : Func} {B : Nat} (ho : ops[i]? = some o)
    (hop : o.op = .call { callee := .value x, args := xs.toArray, argTypes := ts }) (hg : wantB ops E o = some true) (hxf : opF E x = some (.ex (.func (.func f) #[] caps.toArray))) (hc : SpcR P f (fs ++ caps.map .ex) c R)
    (hf : P.funcs[f]? = some fn) (hbody : fn.body.isNone = false) (hname : (fn.name == "runtime.NumGoroutine") = false) (hB : ∀ w, I w → B ≤ w.heap.size)
    (hx : Opnds I E xs fs) (hk : look E key = some (heap A H)) (hH : Ent (allC H) c) (hkn : n ≤ key)
    (h : Plan P ops Q n I d k (i + 1) (setE o.dst (R B) E)) : Plan P ops Q n I d (k + 1) i E :=
  Plan.step (F := R B) ho (fun a w hI hsh hs => by
    unfold wpOp
    simp only [ho, wantB_spec ho hsh (fun t ht => hs t (.inl ht)) hg, if_true]
    refine .inl ?_
    unfold Oper.wp
    have e1 := opF_den (a := a) (w := w) ho (by simp [hop, Op.operands, Call.operands]) (fun t ht => hs t (.inl ht)) hxf
    simp only [Fa.den] at e1
    have hrun : (execOp a.eval o).run P w = .ok (.enter f ((xs.map a.eval).toArray ++ caps.toArray)) w := by
      have hn : ¬ fn.name = "runtime.NumGoroutine" := by simpa using hname
      have hb : ¬ fn.body = none := by intro e; rw [e] at hbody; cases hbody
      simp [execOp, hop, resolve, invoke, callFunc, Deferred.ofValue, e1, hf, hb, hn]
    rw [hrun]
    simp only [Oper.upon]
    obtain ⟨φ, hL, _⟩ := hs key (.inr hkn) _ hk
    obtain ⟨G, hG, _⟩ := hH w _ hL.all
    have hden := Opnds.dens (a := a) hI hx (fun x hxm f hf => opF_den ho (by simp [hop, Op.operands, Call.operands, hxm]) (fun t ht => hs t (.inl ht)) hf)
    have happ : ∀ {fs : List Fa} {vs : List Value}, Fa.dens fs w vs → Fa.dens (fs ++ caps.map .ex) w (vs ++ caps) := by
      intro fs
      induction fs with
      | nil =>
        intro vs h
        simp only [Fa.dens] at h
        subst h
        simp only [List.nil_append]
        clear hrun e1 hxf hc
        induction caps with
        | nil => simp [Fa.dens]
        | cons u r ih => exact ⟨_, _, rfl, by simp [Fa.den], ih⟩
      | cons f fs ih =>
        intro vs h
        simp only [Fa.dens] at h
        obtain ⟨v, r, rfl, h1, h2⟩ := h
        exact ⟨v, _, rfl, h1, ih h2⟩
    have hcc := hc w _ G (happ hden) hG
    rw [show (xs.map a.eval ++ caps).toArray = (xs.map a.eval).toArray ++ caps.toArray by simp] at hcc
    refine hcc.mono ?_
    rintro e w' ⟨v, rfl, hb, hR⟩
    exact ⟨v, by rw [dst_of ho], hb, hR B (hB w hI)⟩) h
theorem Plan.callRG {f : FuncId} {xs : List Operand} {ts : Array TypeId} {fs : List Fa} {c : Chunk} {R : Nat → Fa} {fn : Func} {B : Nat} (ho : ops[i]? = some o)
    (hop : o.op = .call { callee := .value (.func f), args := xs.toArray, argTypes := ts }) (hg : wantB ops E o = some true) (hc : SpcR P f fs c R)
    (hf : P.funcs[f]? = some fn) (hbody : fn.body.isNone = false) (hname : (fn.name == "runtime.NumGoroutine") = false) (hB : ∀ w, I w → B ≤ w.heap.size)
    (hx : Opnds I E xs fs) (hk : look E key = some (heap A H)) (hH : Ent (allC H) c) (hkn : n ≤ key)
    (h : Plan P ops Q n I d k (i + 1) (setE o.dst (R B) E)) : Plan P ops Q n I d (k + 1) i E :=
  Plan.step (F := R B) ho (fun a w hI hsh hs => by
    unfold wpOp
    simp only [ho, wantB_spec ho hsh (fun t ht => hs t (.inl ht)) hg, if_true]
    refine .inl ?_
    unfold Oper.wp
    have hrun : (execOp a.eval o).run P w = .ok (.enter f (xs.map a.eval).toArray) w := by
      have hn : ¬ fn.name = "runtime.NumGoroutine" := by simpa using hname
      have hb : ¬ fn.body = none := by intro e; rw [e] at hbody; cases hbody
      simp [execOp, hop, resolve, invoke, callFunc, Deferred.ofValue, Act.eval, hf, hb, hn]
    rw [hrun]
    simp only [Oper.upon]
    obtain ⟨φ, hL, _⟩ := hs key (.inr hkn) _ hk
    obtain ⟨G, hG, _⟩ := hH w _ hL.all
    have hden := Opnds.dens (a := a) hI hx (fun x hxm f hf => opF_den ho (by simp [hop, Op.operands, Call.operands, hxm]) (fun t ht => hs t (.inl ht)) hf)
    refine (hc w _ G hden hG).mono ?_
    rintro e w' ⟨v, rfl, hb, hR⟩
    exact ⟨v, by rw [dst_of ho], hb, hR B (hB w hI)⟩) h
theorem Plan.makeFn {f : FuncId} {cs : List Operand} {caps : List Value} (ho : ops[i]? = some o) (hop : o.op = .makeFunc (.func f) #[] cs.toArray) (hg : wantB ops E o = some true)
    (hxs : ∀ (a : Act) (w : World), (∀ y, y ∈ cs → ∀ g, opF E y = some g → g.den w (a.eval y)) → cs.map a.eval = caps)
    (h : Plan P ops Q n I d k (i + 1) (setE o.dst (.ex (.func (.func f) #[] caps.toArray)) E)) : Plan P ops Q n I d (k + 1) i E :=
  Plan.step ho (Step.run ho hg fun a w hI hs' => by
    have h1 := hxs a w (fun y hy g hg => hs' y (by simp [hop, Op.operands, hy]) g hg)
    refine ⟨.func (.func f) #[] caps.toArray, w, ?_, Below.refl _ _, by simp [Fa.den]⟩
    simp [execOp, hop, Instr.makeFunc, ← h1]) h
end
end Go.Free
end
