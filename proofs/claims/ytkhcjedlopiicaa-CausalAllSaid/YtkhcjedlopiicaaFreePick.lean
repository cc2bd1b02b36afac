/-
  Some of the heap's chunks, told in whatever order; calls that turn some of them, and calls that read some.
-/
import Derived.Test.YtkhcjedlopiicaaFreeOwn2
set_option linter.unusedSimpArgs false
set_option linter.unusedVariables false
set_option maxRecDepth 20000
namespace Go.Free
open Go.RowKit
def pick (H : List Chunk) (qs : List Nat) : List Chunk := qs.map fun q => (H[q]?).getD emp
def nodupB : List Nat → Bool
  | [] => true
  | q :: r => r.all (fun p => p != q) && nodupB r
theorem nodup_at {qs : List Nat} (h : nodupB qs = true) : ∀ {i j q : Nat}, qs[i]? = some q → qs[j]? = some q → i = j := by
  induction qs with
  | nil => intro i j q hi; simp at hi
  | cons p r ih =>
    simp only [nodupB, Bool.and_eq_true, List.all_eq_true, bne_iff_ne, ne_eq] at h
    intro i j q hi hj
    cases i with
    | zero =>
      cases j with
      | zero => rfl
      | succ j =>
        simp only [List.getElem?_cons_zero, Option.some.injEq] at hi
        subst hi
        exact absurd rfl (h.1 p (List.mem_of_getElem? (by simpa using hj)))
    | succ i =>
      cases j with
      | zero =>
        simp only [List.getElem?_cons_zero, Option.some.injEq] at hj
        subst hj
        exact absurd rfl (h.1 p (List.mem_of_getElem? (by simpa using hi)))
      | succ j => exact congrArg (· + 1) (ih h.2 (q := q) (by simpa using hi) (by simpa using hj))
theorem Lies.pick {H : List Chunk} {φ : Nat → Nat → Prop} {w : World} (h : Lies H φ w) (qs : List Nat) (hn : nodupB qs = true) : Lies (Free.pick H qs) (fun i b => ∃ q, qs[i]? = some q ∧ φ q b) w := by
  refine ⟨fun i c hi => ?_, fun i j b ⟨q, h1, h2⟩ ⟨q', h3, h4⟩ => ?_, fun i b ⟨q, h1, h2⟩ => ?_⟩
  · simp only [Free.pick, List.getElem?_map, Option.map_eq_some_iff] at hi
    obtain ⟨q, hq, rfl⟩ := hi
    have hF : (fun b => ∃ q', qs[i]? = some q' ∧ φ q' b) = φ q := by
      funext b; apply propext
      exact ⟨fun ⟨q', h1, h2⟩ => by rw [hq] at h1; cases h1; exact h2, fun hb => ⟨q, hq, hb⟩⟩
    rw [hF]
    cases hH : H[q]? with
    | none => exact fun b hb => by have := h.bound q b hb; have := List.getElem?_eq_none_iff.1 hH; omega
    | some c => exact h.holds q c hH
  · have := h.apart q q' b h2 h4
    subst this
    exact nodup_at hn h1 h3
  · simp only [Free.pick, List.length_map]
    exact (List.getElem?_eq_some_iff.1 h1).1
theorem Ent.pickC {H H' : List Chunk} (qs : List Nat) (hp : Free.pick H qs = H') (hn : nodupB qs = true) : Ent (allC H) (allC H') := fun w F h => by
  obtain ⟨φ, hL, hF⟩ := Lies.ofAll h
  subst hp
  exact ⟨_, (hL.pick qs hn).all, fun b ⟨i, q, _, hb⟩ => hF q b hb⟩
theorem Ent.assocR {c d e : Chunk} : Ent (sepC (sepC c d) e) (sepC c (sepC d e)) := fun w F ⟨G, K, h1, h2, ⟨G1, G2, g1, g2, g3, g4⟩, h4⟩ =>
  ⟨F, ⟨G1, fun b => G2 b ∨ K b, fun b => (h1 b).trans ⟨fun h => h.elim (fun h => ((g1 b).1 h).elim .inl (fun h => .inr (.inl h))) (fun h => .inr (.inr h)), fun h => h.elim (fun h => .inl ((g1 b).2 (.inl h))) (fun h => h.elim (fun h => .inl ((g1 b).2 (.inr h))) .inr)⟩,
    fun b hb hc => hc.elim (g2 b hb) (h2 b ((g1 b).2 (.inl hb))), g3, G2, K, fun b => Iff.rfl, fun b hb hc => h2 b ((g1 b).2 (.inr hb)) hc, g4, h4⟩, fun _ h => h⟩
theorem Ent.assocL {c d e : Chunk} : Ent (sepC c (sepC d e)) (sepC (sepC c d) e) := fun w F ⟨G, K, h1, h2, h3, K1, K2, k1, k2, k3, k4⟩ =>
  ⟨F, ⟨fun b => G b ∨ K1 b, K2, fun b => (h1 b).trans ⟨fun h => h.elim (fun h => .inl (.inl h)) (fun h => ((k1 b).1 h).elim (fun h => .inl (.inr h)) .inr), fun h => h.elim (fun h => h.elim .inl (fun h => .inr ((k1 b).2 (.inl h)))) (fun h => .inr ((k1 b).2 (.inr h)))⟩,
    fun b hb hc => hb.elim (fun hb => h2 b hb ((k1 b).2 (.inr hc))) (fun hb => k2 b hb hc), ⟨G, K1, fun b => Iff.rfl, fun b hb hc => h2 b hb ((k1 b).2 (.inl hc)), h3, k3⟩, k4⟩, fun _ h => h⟩
theorem Ent.splitC : ∀ {H1 H2 : List Chunk}, Ent (allC (H1 ++ H2)) (sepC (allC H1) (allC H2))
  | [], H2 => fun w F h => ⟨F, ⟨fun _ => False, F, fun b => ⟨.inr, fun h => h.elim (fun e => e.elim) id⟩, fun _ e _ => e, fun _ e => e, h⟩, fun _ h => h⟩
  | c :: r, H2 => (Ent.sep (Ent.refl c) (Ent.splitC (H1 := r))).trans Ent.assocL
theorem Ent.joinC : ∀ {H1 H2 : List Chunk}, Ent (sepC (allC H1) (allC H2)) (allC (H1 ++ H2))
  | [], H2 => Ent.right
  | c :: r, H2 => Ent.assocR.trans (Ent.sep (Ent.refl c) (Ent.joinC (H1 := r)))
theorem nodupB_app {qs rs : List Nat} (h : nodupB (qs ++ rs) = true) : nodupB qs = true := by
  induction qs with
  | nil => rfl
  | cons q r ih =>
    simp only [List.cons_append, nodupB, Bool.and_eq_true, List.all_append] at h ⊢
    exact ⟨h.1.1, ih h.2⟩
theorem Sub.heap {I : World → Prop} {A : Nat → Prop} {H H' : List Chunk} (he : Ent (allC H) (allC H')) : Sub I (Free.heap A H) (Free.heap A H') := fun w v _ hh => by
  obtain ⟨φ, hL, hA⟩ := hh
  obtain ⟨G, g1, g2⟩ := he w _ hL.all
  obtain ⟨φ', hL', hF⟩ := Lies.ofAll g1
  exact ⟨φ', hL', fun q b hb => by obtain ⟨p, hp⟩ := g2 b (hF q b hb); exact hA p b hp⟩
section
variable {P : Program} {ops : Array Oper} {Q : Exit → Act → World → Prop} {n : Nat} {I : World → Prop} {k i : Nat} {E : Env} {o : Oper} {d : Bool} {A : Nat → Prop} {H : List Chunk} {key : Nat}
/-- A call that turns the chunks qs of the heap; rs are the others. -/
theorem Plan.callL {f : FuncId} {xs : List Operand} {ts : Array TypeId} {fs : List Fa} {Hc Hr : List Chunk} {X : Type} {ok : X → Prop} {R : X → Fa} {c' : X → List Chunk} {fn : Func} (qs rs : List Nat) (ho : ops[i]? = some o)
    (hop : o.op = .call { callee := .value (.func f), args := xs.toArray, argTypes := ts }) (hg : wantB ops E o = some true) (hc : SpcC P f fs (allC Hc) ok R (fun x => allC (c' x)))
    (hf : P.funcs[f]? = some fn) (hbody : fn.body.isNone = false) (hname : (fn.name == "runtime.NumGoroutine") = false) (hd : ∀ d, o.dst = some d → d < n)
    (hx : Opnds I E xs fs) (hk : look E key = some (heap A H)) (hA : Own I A) (hp : Free.pick H qs = Hc) (hr : Free.pick H rs = Hr) (hn : nodupB (qs ++ rs) = true)
    (h : ∀ x, ok x → Plan P ops Q n I d k (i + 1) (setE o.dst (R x) ((key, heap A (c' x ++ Hr)) :: sieve E))) (hq : d = false ∨ barB ops i = true := by first | exact .inl rfl | exact .inr (by kernel_rfl)) : Plan P ops Q n I d (k + 1) i E :=
  Plan.callG (allC Hr) (fun x => c' x ++ Hr) ho hop hg hc hf hbody hname hd hx hk hA ((Ent.pickC (qs ++ rs) (by rw [Free.pick, List.map_append]; exact (congrArg (· ++ _) hp).trans (congrArg (Hc ++ ·) hr)) hn).trans Ent.splitC) (fun x => Ent.joinC) h hq
/-- Chunks told as one are told apart. -/
theorem J.open1 {c : Code} {Hc : List Chunk} (hk : look E key = some (heap A [allC Hc])) (h : J P n I c Q ((key, heap A Hc) :: E)) : J P n I c Q E := J.regroup Hc hk Ent.one h
end
end Go.Free
