/-
  Calls that read chunks and return a row of their own; calls of function values with captures that read chunks.
-/
import Derived.Test.YtkhcjedlopiicaaFreeOwn
set_option linter.unusedSimpArgs false
set_option linter.unusedVariables false
set_option maxRecDepth 20000
namespace Go.Free
open Go.RowKit
section
variable {P : Program} {ops : Array Oper} {Q : Exit → Act → World → Prop} {n : Nat} {I : World → Prop} {k i : Nat} {E : Env} {o : Oper} {d : Bool} {A : Nat → Prop} {H : List Chunk} {key : Nat}
/-- A call that reads chunks and returns a row of its own: the row is a chunk more. -/
theorem Plan.callRO {f : FuncId} {xs : List Operand} {ts : Array TypeId} {fs : List Fa} {fn : Func} {c : Chunk} {e sz : Nat} {cs : List Value} {R : Nat → Fa} (ho : ops[i]? = some o)
    (hop : o.op = .call { callee := .value (.func f), args := xs.toArray, argTypes := ts }) (hg : wantB ops E o = some true) (hc : SpcR P f fs c R) (hR : ∀ B, R B = Free.own B e sz cs)
    (hf : P.funcs[f]? = some fn) (hbody : fn.body.isNone = false) (hname : (fn.name == "runtime.NumGoroutine") = false) (hd : ∀ d, o.dst = some d → d < n)
    (hx : Opnds I E xs fs) (hk : look E key = some (heap A H)) (hA : Own I A) (hH : Ent (allC H) c)
    (h : ∀ B m cap, m * sz = cs.length → Plan P ops Q n I d k (i + 1) (setE o.dst (.ex (.slice B m cap)) ((key, heap A (H ++ [rowC e sz B m cap cs])) :: sieve E))) (hq : d = false ∨ barB ops i = true := by first | exact .inl rfl | exact .inr (by kernel_rfl)) : Plan P ops Q n I d (k + 1) i E :=
  Plan.turn ho hg hd hk hA (fun a w φ hI hs hs' hL hLA hfr hsh => by
    unfold wpOp
    simp only [ho, wantB_spec ho hsh (fun t _ f hf => hs t f hf) hg, if_true]
    refine .inl ?_
    unfold Oper.wp
    have hrun : (execOp a.eval o).run P w = .ok (.enter f (xs.map a.eval).toArray) w := by
      have hn : ¬ fn.name = "runtime.NumGoroutine" := by simpa using hname
      have hb : ¬ fn.body = none := by intro e; rw [e] at hbody; cases hbody
      simp [execOp, hop, resolve, invoke, callFunc, Deferred.ofValue, Act.eval, hf, hb, hn]
    rw [hrun]
    simp only [Oper.upon]
    have hden := Opnds.dens (a := a) hI hx (fun x hxm f hf => hs' x (by simp [hop, Op.operands, Call.operands, hxm]) f hf)
    obtain ⟨G, hG, _⟩ := hH w _ hL.all
    refine (hc w _ G hden hG).mono ?_
    rintro ev w' ⟨v, rfl, hB, hRR⟩
    have h0 := hRR w.heap.size (Nat.le_refl _)
    rw [hR] at h0
    obtain ⟨_, m, hm⟩ := h0
    have hsl : ∃ B cap, v = .slice B m cap := by
      rcases hm.2 with ⟨h1, hm0⟩ | ⟨g, cp, cur, h1, _⟩
      · exact ⟨_, _, by rw [h1, hm0]⟩
      · exact ⟨_, _, h1⟩
    obtain ⟨B, cap, rfl⟩ := hsl
    have hm0 : w'.ownsRow 0 e sz (.slice B m cap) m cs := by
      refine ⟨hm.1, ?_⟩
      rcases hm.2 with h1 | ⟨g, cp, cur, hv, hb, r⟩
      · exact .inl h1
      · exact .inr ⟨g, cp, cur, hv, Nat.zero_le _, r⟩
    have hF : ∀ b, (Value.slice B m cap).ownBlock = some b → w.heap.size ≤ b := fun b hb => (hm.lt b hb).1
    refine ⟨.slice B m cap, .ex (.slice B m cap), H ++ [rowC e sz B m cap cs], _, rfl, .ofBelow hB, hL.add hB (c' := rowC e sz B m cap cs) ⟨hm0, fun _ => Iff.rfl⟩ hF, fun q b hb => ?_, by simp [Fa.den], h B m cap hm.1.symm⟩
    by_cases he : q = H.length
    · simp only [if_pos he] at hb; exact hfr b (hF b hb)
    · simp only [if_neg he] at hb; exact hLA q b hb) hq
/-- A call of a function value with captures, that reads chunks. -/
theorem Plan.callFR {f : FuncId} {x : Operand} {xs : List Operand} {ts : Array TypeId} {caps : List Value} {fs : List Fa} {c : Chunk} {R : Nat → Fa} {fn : Func} {B : Nat} (ho : ops[i]? = some o)
    (hop : o.op = .call { callee := .value x, args := xs.toArray, argTypes := ts }) (hg : wantB ops E o = some true) (hxf : opF E x = some (.ex (.func (.func f) #[] caps.toArray))) (hc : SpcR P f (fs ++ caps.map .ex) c R)
    (hf : P.funcs[f]? = some fn) (hbody : fn.body.isNone = false) (hname : (fn.name == "runtime.NumGoroutine") = false) (hB : ∀ w, I w → B ≤ w.heap.size)
    (hx : Opnds I E xs fs) (hk : look E key = some (heap A H)) (hH : Ent (allC H) c) (hkn : n ≤ key)
    (h : Plan P ops Q n I d k (i + 1) (setE o.dst (R B) E)) : Plan P ops Q n I d (k + 1) i E :=
  Plan.step (F := R B) ho (fun a w hI hsh hs => by
    unfold wpOp
    simp only [ho, wantB_spec ho hsh (fun t ht => hs t (.inl ht)) hg, if_true]
    refine .inl ?_
    unfold Oper.wp
    have e1 := opF_den (a := a) (w := w) ho (by simp [hop, Op.operands, Call.operands]) (fun t ht => hs t (.inl ht)) hxf
    simp only [Fa.den] at e1
    have hrun : (execOp a.eval o).run P w = .ok (.enter f ((xs.map a.eval).toArray ++ caps.toArray)) w := by
      have hn : ¬ fn.name = "runtime.NumGoroutine" := by simpa using hname
      have hb : ¬ fn.body = none := by intro e; rw [e] at hbody; cases hbody
      simp [execOp, hop, resolve, invoke, callFunc, Deferred.ofValue, e1, hf, hb, hn]
    rw [hrun]
    simp only [Oper.upon]
    obtain ⟨φ, hL, _⟩ := hs key (.inr hkn) _ hk
    obtain ⟨G, hG, _⟩ := hH w _ hL.all
    have hden := Opnds.dens (a := a) hI hx (fun x hxm f hf => opF_den ho (by simp [hop, Op.operands, Call.operands, hxm]) (fun t ht => hs t (.inl ht)) hf)
    have happ : ∀ {fs : List Fa} {vs : List Value}, Fa.dens fs w vs → Fa.dens (fs ++ caps.map .ex) w (vs ++ caps) := by
      intro fs
      induction fs with
      | nil =>
        intro vs h
        simp only [Fa.dens] at h
        subst h
        simp only [List.nil_append]
        clear hrun e1 hxf hc
        induction caps with
        | nil => simp [Fa.dens]
        | cons u r ih => exact ⟨_, _, rfl, by simp [Fa.den], ih⟩
      | cons f fs ih =>
        intro vs h
        simp only [Fa.dens] at h
        obtain ⟨v, r, rfl, h1, h2⟩ := h
        exact ⟨v, _, rfl, h1, ih h2⟩
    have hcc := hc w _ G (happ hden) hG
    rw [show (xs.map a.eval ++ caps).toArray = (xs.map a.eval).toArray ++ caps.toArray by simp] at hcc
    refine hcc.mono ?_
    rintro e w' ⟨v, rfl, hb, hR⟩
    exact ⟨v, by rw [dst_of ho], hb, hR B (hB w hI)⟩) h
/-- A call that reads chunks. -/
theorem Plan.callRG {f : FuncId} {xs : List Operand} {ts : Array TypeId} {fs : List Fa} {c : Chunk} {R : Nat → Fa} {fn : Func} {B : Nat} (ho : ops[i]? = some o)
    (hop : o.op = .call { callee := .value (.func f), args := xs.toArray, argTypes := ts }) (hg : wantB ops E o = some true) (hc : SpcR P f fs c R)
    (hf : P.funcs[f]? = some fn) (hbody : fn.body.isNone = false) (hname : (fn.name == "runtime.NumGoroutine") = false) (hB : ∀ w, I w → B ≤ w.heap.size)
    (hx : Opnds I E xs fs) (hk : look E key = some (heap A H)) (hH : Ent (allC H) c) (hkn : n ≤ key)
    (h : Plan P ops Q n I d k (i + 1) (setE o.dst (R B) E)) : Plan P ops Q n I d (k + 1) i E :=
  Plan.step (F := R B) ho (fun a w hI hsh hs => by
    unfold wpOp
    simp only [ho, wantB_spec ho hsh (fun t ht => hs t (.inl ht)) hg, if_true]
    refine .inl ?_
    unfold Oper.wp
    have hrun : (execOp a.eval o).run P w = .ok (.enter f (xs.map a.eval).toArray) w := by
      have hn : ¬ fn.name = "runtime.NumGoroutine" := by simpa using hname
      have hb : ¬ fn.body = none := by intro e; rw [e] at hbody; cases hbody
      simp [execOp, hop, resolve, invoke, callFunc, Deferred.ofValue, Act.eval, hf, hb, hn]
    rw [hrun]
    simp only [Oper.upon]
    obtain ⟨φ, hL, _⟩ := hs key (.inr hkn) _ hk
    obtain ⟨G, hG, _⟩ := hH w _ hL.all
    have hden := Opnds.dens (a := a) hI hx (fun x hxm f hf => opF_den ho (by simp [hop, Op.operands, Call.operands, hxm]) (fun t ht => hs t (.inl ht)) hf)
    refine (hc w _ G hden hG).mono ?_
    rintro e w' ⟨v, rfl, hb, hR⟩
    exact ⟨v, by rw [dst_of ho], hb, hR B (hB w hI)⟩) h
theorem run_equalIn_func {w : World} {t : TypeId} {v : Value} {b : Bool} {ps rs : Array TypeId} {vr : Bool} (dd : Nat) (hu : P.underlying t = some (.func ps rs vr)) (hv : (v = .nilFunc ∧ b = true) ∨ (∃ f s c, v = .func f s c) ∧ b = false) :
    (Op.equalIn (dd + 1) t v .nilFunc).run P w = .ok b w := by
  rcases hv with ⟨rfl, rfl⟩ | ⟨⟨f, s, c, rfl⟩, rfl⟩ <;> simp [Op.equalIn, run_underlying hu]
theorem run_equal_func {w : World} {t : TypeId} {v : Value} {b : Bool} {ps rs : Array TypeId} {vr : Bool} (hu : P.underlying t = some (.func ps rs vr)) (hv : (v = .nilFunc ∧ b = true) ∨ (∃ f s c, v = .func f s c) ∧ b = false) :
    (Op.equal t v .nilFunc).run P w = .ok b w := run_equalIn_func 9999 hu hv
/-- f == nil of a function value. -/
theorem Plan.eqlFunc {t yt : TypeId} {x : Operand} {v : Value} {b : Bool} {ps rs : Array TypeId} {vr : Bool} (ho : ops[i]? = some o) (hop : o.op = .binOp .eql t x (.const .nilFunc) yt) (hg : wantB ops E o = some true)
    (hx : opF E x = some (.ex v)) (hu : P.underlying t = some (.func ps rs vr)) (hv : (v = .nilFunc ∧ b = true) ∨ (∃ f s c, v = .func f s c) ∧ b = false)
    (h : Plan P ops Q n I d k (i + 1) (setE o.dst (.ex (.bool b)) E)) : Plan P ops Q n I d (k + 1) i E :=
  Plan.step ho (Step.run ho hg fun a w hI hs' => by
    have h1 := hs' x (by simp [hop, Op.operands]) _ hx
    simp only [Fa.den] at h1
    refine ⟨.bool b, w, ?_, Below.refl _ _, by simp [Fa.den]⟩
    have hev : a.eval (.const .nilFunc) = .nilFunc := rfl
    have hgd : (eqGuard .eql t x (.const .nilFunc) v .nilFunc).run P w = .ok () w := by simp [eqGuard]
    have hrun : (binOp .eql t v .nilFunc).run P w = .ok (.bool b) w := by
      simp only [binOp]
      simp [run_equal_func hu hv]
    simp only [execOp, hop, h1, hev, Sem.run_bind, hgd, Result.andThen_ok, hrun, Sem.run_pure]) h
/-- A function value with captures. -/
theorem Plan.makeFn {f : FuncId} {cs : List Operand} {caps : List Value} (ho : ops[i]? = some o) (hop : o.op = .makeFunc (.func f) #[] cs.toArray) (hg : wantB ops E o = some true)
    (hxs : ∀ (a : Act) (w : World), (∀ y, y ∈ cs → ∀ g, opF E y = some g → g.den w (a.eval y)) → cs.map a.eval = caps)
    (h : Plan P ops Q n I d k (i + 1) (setE o.dst (.ex (.func (.func f) #[] caps.toArray)) E)) : Plan P ops Q n I d (k + 1) i E :=
  Plan.step ho (Step.run ho hg fun a w hI hs' => by
    have h1 := hxs a w (fun y hy g hg => hs' y (by simp [hop, Op.operands, hy]) g hg)
    refine ⟨.func (.func f) #[] caps.toArray, w, ?_, Below.refl _ _, by simp [Fa.den]⟩
    simp [execOp, hop, Instr.makeFunc, ← h1]) h
end
end Go.Free
