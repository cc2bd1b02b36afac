/-
  A chunk of the heap set aside; calls that read it; results that lie in variables.
-/
import Derived.Test.YtkhcjedlopiicaaFreeFrame
set_option linter.unusedSimpArgs false
set_option linter.unusedVariables false
set_option maxRecDepth 20000
namespace Go.Free
open Go.RowKit
def framedC (I : World → Prop) (c : Chunk) (F : Nat → Prop) (w : World) : Prop := I w ∧ c.holds w F
theorem framedC_I {I : World → Prop} {c : Chunk} {F : Nat → Prop} (hI : ∀ w w', I w → Below w.heap.size w w' → I w') : ∀ w w', framedC I c F w → Below w.heap.size w w' → framedC I c F w' := fun w w' ⟨h1, h2⟩ hb =>
  ⟨hI w w' h1 hb, c.keep (S := fun _ => False) h2 (.ofBelow hb) fun _ _ e => e⟩
theorem framedC_own {I : World → Prop} {A : Nat → Prop} {c : Chunk} {F : Nat → Prop} (hA : Own I A) : Own (framedC I c F) (fun b => A b ∧ ¬ F b) :=
  ⟨fun w ⟨h1, h2⟩ b hb => ⟨hA.fresh w h1 b hb, fun hF => by have := c.lt w F b h2 hF; omega⟩,
   fun w w' ⟨h1, h2⟩ hk => ⟨hA.turn w w' h1 (hk.mono fun b _ hb => hb.1), c.keep h2 hk fun b hb hb2 => hb2.2 hb⟩⟩
section
variable {P : Program} {ops : Array Oper} {Q : Exit → Act → World → Prop} {n : Nat} {I : World → Prop} {k i : Nat} {E : Env} {o : Oper} {d : Bool} {A : Nat → Prop} {H : List Chunk} {key : Nat}
theorem J.frameC {cd : Code} {c : Chunk} (q : Nat) (hk : look E key = some (heap A H)) (hq : H[q]? = some c) (h : ∀ F : Nat → Prop, (∀ b, F b → A b) → J P n (framedC I c F) cd Q ((key, heap (fun b => A b ∧ ¬ F b) (H.eraseIdx q)) :: E)) : J P n I cd Q E := fun a w h1 h2 h3 => by
  obtain ⟨φ, hL, hLA⟩ := h3 key _ hk
  have hob := hL.holds q _ hq
  have hne : ∀ p b, p ≠ q → φ p b → ¬ φ q b := fun p b hp hb hb2 => hp (hL.apart p q _ hb hb2)
  refine h (φ q) (hLA q) a w ⟨h1, hob⟩ h2 (heap_put h3 (φ := fun p b => φ (if p < q then p else p + 1) b) ⟨fun p c hp => ?_, fun p p' b hp hp' => ?_, fun p b hp => ?_⟩ (fun p b hb => ⟨hLA _ b hb, hne _ b ?_ hb⟩))
  · refine hL.holds _ c ?_
    rw [List.getElem?_eraseIdx] at hp
    by_cases hpq : p < q
    · rw [if_pos hpq] at hp; rw [if_pos hpq]; exact hp
    · rw [if_neg hpq] at hp; rw [if_neg hpq]; exact hp
  · have := hL.apart _ _ b hp hp'
    split at this <;> split at this <;> omega
  · have := hL.bound _ b hp
    have hql := (List.getElem?_eq_some_iff.1 hq).1
    rw [List.length_eraseIdx, if_pos hql]
    split at this <;> omega
  · split <;> omega
theorem J.unframeC {cd : Code} {c : Chunk} {F : Nat → Prop} (hAF : ∀ b, F b → A b) (hk : look E key = some (heap (fun b => A b ∧ ¬ F b) H)) (h : J P n I cd Q ((key, heap A (H ++ [c])) :: E)) : J P n (framedC I c F) cd Q E := fun a w h1 h2 h3 => by
  obtain ⟨φ, hL, hLA⟩ := h3 key _ hk
  obtain ⟨h1, hh⟩ := h1
  refine h a w h1 h2 (heap_put h3 (φ := fun p b => if p = H.length then F b else φ p b) ⟨fun p c hp => ?_, fun p p' b hp hp' => ?_, fun p b hp => ?_⟩ (fun p b hb => ?_))
  · by_cases he : p = H.length
    · subst he
      simp only [List.getElem?_concat_length, Option.some.injEq] at hp
      subst hp
      simpa using hh
    · have hl : p < (H ++ [_]).length := (List.getElem?_eq_some_iff.1 hp).1
      have hl' : p < H.length := by simp at hl; omega
      rw [List.getElem?_append_left hl'] at hp
      simp only [if_neg he]
      exact hL.holds p c hp
  · by_cases he : p = H.length
    · by_cases he' : p' = H.length
      · rw [he, he']
      · simp only [if_pos he] at hp
        simp only [if_neg he'] at hp'
        exact absurd hp (hLA p' b hp').2
    · by_cases he' : p' = H.length
      · simp only [if_neg he] at hp
        simp only [if_pos he'] at hp'
        exact absurd hp' (hLA p b hp).2
      · simp only [if_neg he] at hp
        simp only [if_neg he'] at hp'
        exact hL.apart p p' b hp hp'
  · rw [List.length_append]
    by_cases he : p = H.length
    · simp [he]
    · simp only [if_neg he] at hp
      have := hL.bound p b hp
      simp; omega
  · by_cases he : p = H.length
    · simp only [if_pos he] at hb; exact hAF b hb
    · simp only [if_neg he] at hb
      exact (hLA p b hb).1
/-- A call that reads what is known of every world there. -/
theorem Plan.callRI {f : FuncId} {xs : List Operand} {ts : Array TypeId} {fs : List Fa} {c : Chunk} {R : Nat → Fa} {fn : Func} {B : Nat} (ho : ops[i]? = some o)
    (hop : o.op = .call { callee := .value (.func f), args := xs.toArray, argTypes := ts }) (hg : wantB ops E o = some true) (hc : SpcR P f fs c R)
    (hf : P.funcs[f]? = some fn) (hbody : fn.body.isNone = false) (hname : (fn.name == "runtime.NumGoroutine") = false) (hB : ∀ w, I w → B ≤ w.heap.size)
    (hx : Opnds I E xs fs) (hch : ∀ w, I w → ∃ F, c.holds w F)
    (h : Plan P ops Q n I d k (i + 1) (setE o.dst (R B) E)) : Plan P ops Q n I d (k + 1) i E :=
  Plan.step (F := R B) ho (fun a w hI hsh hs => by
    unfold wpOp
    simp only [ho, wantB_spec ho hsh (fun t ht => hs t (.inl ht)) hg, if_true]
    refine .inl ?_
    unfold Oper.wp
    have hrun : (execOp a.eval o).run P w = .ok (.enter f (xs.map a.eval).toArray) w := by
      have hn : ¬ fn.name = "runtime.NumGoroutine" := by simpa using hname
      have hb : ¬ fn.body = none := by intro e; rw [e] at hbody; cases hbody
      simp [execOp, hop, resolve, invoke, callFunc, Deferred.ofValue, Act.eval, hf, hb, hn]
    rw [hrun]
    simp only [Oper.upon]
    obtain ⟨G, hG⟩ := hch w hI
    have hden := Opnds.dens (a := a) hI hx (fun x hxm f hf => opF_den ho (by simp [hop, Op.operands, Call.operands, hxm]) (fun t ht => hs t (.inl ht)) hf)
    refine (hc w _ G hden hG).mono ?_
    rintro e w' ⟨v, rfl, hb, hR⟩
    exact ⟨v, by rw [dst_of ho], hb, hR B (hB w hI)⟩) h
theorem Plan.weakE (E' : Env) (h : Weak I E E') (hp : Plan P ops Q n I d 0 i E') : Plan P ops Q n I d 0 i E := fun a w h1 h2 h3 => hp a w h1 h2 (h.sat h1 h3)
theorem Sub.tupEx {a b : Value} : Sub I (.tup [.ex a, .ex b]) (.ex (.tuple #[a, b])) := fun w v _ h => by
  simp only [Fa.den, Fa.dens] at h ⊢
  obtain ⟨vs, rfl, x, r, rfl, h1, y, r', rfl, h2, rfl⟩ := h
  rw [h1, h2]
/-- A part of a tuple that is known. -/
theorem Plan.extractEx {x : Operand} {j : Nat} {vs : Array Value} {v : Value} (ho : ops[i]? = some o) (hop : o.op = .extract x j) (hg : wantB ops E o = some true) (hx : opF E x = some (.ex (.tuple vs))) (hv : vs[j]? = some v)
    (h : Plan P ops Q n I d k (i + 1) (setE o.dst (.ex v) E)) : Plan P ops Q n I d (k + 1) i E :=
  Plan.step ho (Step.run ho hg fun a w hI hs' => by
    have e1 := hs' x (by simp [hop, Op.operands]) _ hx
    simp only [Fa.den] at e1
    refine ⟨v, w, ?_, Below.refl _ _, by simp [Fa.den]⟩
    simp [execOp, hop, e1, Instr.extract, hv]) h
end
end Go.Free
