/-
  Laid together: FreeOwn2, FreePick, FreeMap, FreeMap2, EvLater, SortPlain, RgaPlain, SortRow, FreeFrame, FreeFrame2, FreeScrib, FreeBase, FreeBorrow.
-/
import Derived.Test.YtfglecmimoeinaaRRemD
import Derived.Maps.RangeRun

section
set_option linter.unusedSimpArgs false
set_option linter.unusedVariables false
set_option maxRecDepth 20000
namespace Go.Free
open Go.RowKit
section
variable {P : Program} {ops : Array Oper} {Q : Exit → Act → World → Prop} {n : Nat} {I : World → Prop} {k i : Nat} {E : Env} {o : Oper} {d : Bool} {A : Nat → Prop} {H : List Chunk} {key : Nat}
/-- A call that reads chunks and returns a row of its own: the row is a chunk more. -/
theorem Plan.callRO {f : FuncId} {xs : List Operand} {ts : Array TypeId} {fs : List Fa} {fn : Func} {c : Chunk} {e sz : Nat} {cs : List Value} {R : Nat → Fa} (ho : ops[i]? = some o)
    (hop : o.op = .call { callee := .value (.func f), args := xs.toArray, argTypes := ts }) (hg : wantB ops E o = some true) (hc : SpcR P f fs c R) (hR : ∀ B, R B = Free.own B e sz cs)
    (hf : P.funcs[f]? = some fn) (hbody : fn.body.isNone = false) (hname : (fn.name == "runtime.NumGoroutine") = false) (hd : ∀ d, o.dst = some d → d < n)
    (hx : Opnds I E xs fs) (hk : look E key = some (heap A H)) (hA : Own I A) (hH : Ent (allC H) c)
    (h : ∀ B m cap, m * sz = cs.length → Plan P ops Q n I d k (i + 1) (setE o.dst (.ex (.slice B m cap)) ((key, heap A (H ++ [rowC e sz B m cap cs])) :: sieve E))) (hq : d = false ∨ barB ops i = true := by first | exact .inl rfl | exact .inr (by kernel_rfl)) : Plan P ops Q n I d (k + 1) i E :=
  Plan.turn ho hg hd hk hA (fun a w φ hI hs hs' hL hLA hfr hsh => by
    unfold wpOp
    simp only [ho, wantB_spec ho hsh (fun t _ f hf => hs t f hf) hg, if_true]
    refine .inl ?_
    unfold Oper.wp
    have hrun : (execOp a.eval o).run P w = .ok (.enter f (xs.map a.eval).toArray) w := by
      have hn : ¬ fn.name = "runtime.NumGoroutine" := by simpa using hname
      have hb : ¬ fn.body = none := by intro e; rw [e] at hbody; cases hbody
      simp [execOp, hop, resolve, invoke, callFunc, Deferred.ofValue, Act.eval, hf, hb, hn]
    rw [hrun]
    simp only [Oper.upon]
    have hden := Opnds.dens (a := a) hI hx (fun x hxm f hf => hs' x (by simp [hop, Op.operands, Call.operands, hxm]) f hf)
    obtain ⟨G, hG, _⟩ := hH w _ hL.all
    refine (hc w _ G hden hG).mono ?_
    rintro ev w' ⟨v, rfl, hB, hRR⟩
    have h0 := hRR w.heap.size (Nat.le_refl _)
    rw [hR] at h0
    obtain ⟨_, m, hm⟩ := h0
    have hsl : ∃ B cap, v = .slice B m cap := by
      rcases hm.2 with ⟨h1, hm0⟩ | ⟨g, cp, cur, h1, _⟩
      · exact ⟨_, _, by rw [h1, hm0]⟩
      · exact ⟨_, _, h1⟩
    obtain ⟨B, cap, rfl⟩ := hsl
    have hm0 : w'.ownsRow 0 e sz (.slice B m cap) m cs := by
      refine ⟨hm.1, ?_⟩
      rcases hm.2 with h1 | ⟨g, cp, cur, hv, hb, r⟩
      · exact .inl h1
      · exact .inr ⟨g, cp, cur, hv, Nat.zero_le _, r⟩
    have hF : ∀ b, (Value.slice B m cap).ownBlock = some b → w.heap.size ≤ b := fun b hb => (hm.lt b hb).1
    refine ⟨.slice B m cap, .ex (.slice B m cap), H ++ [rowC e sz B m cap cs], _, rfl, .ofBelow hB, hL.add hB (c' := rowC e sz B m cap cs) ⟨hm0, fun _ => Iff.rfl⟩ hF, fun q b hb => ?_, by simp [Fa.den], h B m cap hm.1.symm⟩
    by_cases he : q = H.length
    · simp only [if_pos he] at hb; exact hfr b (hF b hb)
    · simp only [if_neg he] at hb; exact hLA q b hb) hq
/-- A call of a function value with captures, that reads chunks. -/
theorem Plan.callFR {f : FuncId} {x : Operand} {xs : List Operand} {ts : Array TypeId} {caps : List Value} {fs : List Fa} {c : Chunk} {R : Nat → Fa} {fn : Func} {B : Nat} (ho : ops[i]? = some o)
    (hop : o.op = .call { callee := .value x, args := xs.toArray, argTypes := ts }) (hg : wantB ops E o = some true) (hxf : opF E x = some (.ex (.func (.func f) #[] caps.toArray))) (hc : SpcR P f (fs ++ caps.map .ex) c R)
    (hf : P.funcs[f]? = some fn) (hbody : fn.body.isNone = false) (hname : (fn.name == "runtime.NumGoroutine") = false) (hB : ∀ w, I w → B ≤ w.heap.size)
    (hx : Opnds I E xs fs) (hk : look E key = some (heap A H)) (hH : Ent (allC H) c) (hkn : n ≤ key)
    (h : Plan P ops Q n I d k (i + 1) (setE o.dst (R B) E)) : Plan P ops Q n I d (k + 1) i E :=
  Plan.step (F := R B) ho (fun a w hI hsh hs => by
    unfold wpOp
    simp only [ho, wantB_spec ho hsh (fun t ht => hs t (.inl ht)) hg, if_true]
    refine .inl ?_
    unfold Oper.wp
    have e1 := opF_den (a := a) (w := w) ho (by simp [hop, Op.operands, Call.operands]) (fun t ht => hs t (.inl ht)) hxf
    simp only [Fa.den] at e1
    have hrun : (execOp a.eval o).run P w = .ok (.enter f ((xs.map a.eval).toArray ++ caps.toArray)) w := by
      have hn : ¬ fn.name = "runtime.NumGoroutine" := by simpa using hname
      have hb : ¬ fn.body = none := by intro e; rw [e] at hbody; cases hbody
      simp [execOp, hop, resolve, invoke, callFunc, Deferred.ofValue, e1, hf, hb, hn]
    rw [hrun]
    simp only [Oper.upon]
    obtain ⟨φ, hL, _⟩ := hs key (.inr hkn) _ hk
    obtain ⟨G, hG, _⟩ := hH w _ hL.all
    have hden := Opnds.dens (a := a) hI hx (fun x hxm f hf => opF_den ho (by simp [hop, Op.operands, Call.operands, hxm]) (fun t ht => hs t (.inl ht)) hf)
    have happ : ∀ {fs : List Fa} {vs : List Value}, Fa.dens fs w vs → Fa.dens (fs ++ caps.map .ex) w (vs ++ caps) := by
      intro fs
      induction fs with
      | nil =>
        intro vs h
        simp only [Fa.dens] at h
        subst h
        simp only [List.nil_append]
        clear hrun e1 hxf hc
        induction caps with
        | nil => simp [Fa.dens]
        | cons u r ih => exact ⟨_, _, rfl, by simp [Fa.den], ih⟩
      | cons f fs ih =>
        intro vs h
        simp only [Fa.dens] at h
        obtain ⟨v, r, rfl, h1, h2⟩ := h
        exact ⟨v, _, rfl, h1, ih h2⟩
    have hcc := hc w _ G (happ hden) hG
    rw [show (xs.map a.eval ++ caps).toArray = (xs.map a.eval).toArray ++ caps.toArray by simp] at hcc
    refine hcc.mono ?_
    rintro e w' ⟨v, rfl, hb, hR⟩
    exact ⟨v, by rw [dst_of ho], hb, hR B (hB w hI)⟩) h
/-- A call that reads chunks. -/
theorem Plan.callRG {f : FuncId} {xs : List Operand} {ts : Array TypeId} {fs : List Fa} {c : Chunk} {R : Nat → Fa} {fn : Func} {B : Nat} (ho : ops[i]? = some o)
    (hop : o.op = .call { callee := .value (.func f), args := xs.toArray, argTypes := ts }) (hg : wantB ops E o = some true) (hc : SpcR P f fs c R)
    (hf : P.funcs[f]? = some fn) (hbody : fn.body.isNone = false) (hname : (fn.name == "runtime.NumGoroutine") = false) (hB : ∀ w, I w → B ≤ w.heap.size)
    (hx : Opnds I E xs fs) (hk : look E key = some (heap A H)) (hH : Ent (allC H) c) (hkn : n ≤ key)
    (h : Plan P ops Q n I d k (i + 1) (setE o.dst (R B) E)) : Plan P ops Q n I d (k + 1) i E :=
  Plan.step (F := R B) ho (fun a w hI hsh hs => by
    unfold wpOp
    simp only [ho, wantB_spec ho hsh (fun t ht => hs t (.inl ht)) hg, if_true]
    refine .inl ?_
    unfold Oper.wp
    have hrun : (execOp a.eval o).run P w = .ok (.enter f (xs.map a.eval).toArray) w := by
      have hn : ¬ fn.name = "runtime.NumGoroutine" := by simpa using hname
      have hb : ¬ fn.body = none := by intro e; rw [e] at hbody; cases hbody
      simp [execOp, hop, resolve, invoke, callFunc, Deferred.ofValue, Act.eval, hf, hb, hn]
    rw [hrun]
    simp only [Oper.upon]
    obtain ⟨φ, hL, _⟩ := hs key (.inr hkn) _ hk
    obtain ⟨G, hG, _⟩ := hH w _ hL.all
    have hden := Opnds.dens (a := a) hI hx (fun x hxm f hf => opF_den ho (by simp [hop, Op.operands, Call.operands, hxm]) (fun t ht => hs t (.inl ht)) hf)
    refine (hc w _ G hden hG).mono ?_
    rintro e w' ⟨v, rfl, hb, hR⟩
    exact ⟨v, by rw [dst_of ho], hb, hR B (hB w hI)⟩) h
theorem run_equalIn_func {w : World} {t : TypeId} {v : Value} {b : Bool} {ps rs : Array TypeId} {vr : Bool} (dd : Nat) (hu : P.underlying t = some (.func ps rs vr)) (hv : (v = .nilFunc ∧ b = true) ∨ (∃ f s c, v = .func f s c) ∧ b = false) :
    (Op.equalIn (dd + 1) t v .nilFunc).run P w = .ok b w := by
  rcases hv with ⟨rfl, rfl⟩ | ⟨⟨f, s, c, rfl⟩, rfl⟩ <;> simp [Op.equalIn, run_underlying hu]
theorem run_equal_func {w : World} {t : TypeId} {v : Value} {b : Bool} {ps rs : Array TypeId} {vr : Bool} (hu : P.underlying t = some (.func ps rs vr)) (hv : (v = .nilFunc ∧ b = true) ∨ (∃ f s c, v = .func f s c) ∧ b = false) :
    (Op.equal t v .nilFunc).run P w = .ok b w := run_equalIn_func 9999 hu hv
/-- f == nil of a function value. -/
theorem Plan.eqlFunc {t yt : TypeId} {x : Operand} {v : Value} {b : Bool} {ps rs : Array TypeId} {vr : Bool} (ho : ops[i]? = some o) (hop : o.op = .binOp .eql t x (.const .nilFunc) yt) (hg : wantB ops E o = some true)
    (hx : opF E x = some (.ex v)) (hu : P.underlying t = some (.func ps rs vr)) (hv : (v = .nilFunc ∧ b = true) ∨ (∃ f s c, v = .func f s c) ∧ b = false)
    (h : Plan P ops Q n I d k (i + 1) (setE o.dst (.ex (.bool b)) E)) : Plan P ops Q n I d (k + 1) i E :=
  Plan.step ho (Step.run ho hg fun a w hI hs' => by
    have h1 := hs' x (by simp [hop, Op.operands]) _ hx
    simp only [Fa.den] at h1
    refine ⟨.bool b, w, ?_, Below.refl _ _, by simp [Fa.den]⟩
    have hev : a.eval (.const .nilFunc) = .nilFunc := rfl
    have hgd : (eqGuard .eql t x (.const .nilFunc) v .nilFunc).run P w = .ok () w := by simp [eqGuard]
    have hrun : (binOp .eql t v .nilFunc).run P w = .ok (.bool b) w := by
      simp only [binOp]
      simp [run_equal_func hu hv]
    simp only [execOp, hop, h1, hev, Sem.run_bind, hgd, Result.andThen_ok, hrun, Sem.run_pure]) h
/-- A function value with captures. -/
theorem Plan.makeFn {f : FuncId} {cs : List Operand} {caps : List Value} (ho : ops[i]? = some o) (hop : o.op = .makeFunc (.func f) #[] cs.toArray) (hg : wantB ops E o = some true)
    (hxs : ∀ (a : Act) (w : World), (∀ y, y ∈ cs → ∀ g, opF E y = some g → g.den w (a.eval y)) → cs.map a.eval = caps)
    (h : Plan P ops Q n I d k (i + 1) (setE o.dst (.ex (.func (.func f) #[] caps.toArray)) E)) : Plan P ops Q n I d (k + 1) i E :=
  Plan.step ho (Step.run ho hg fun a w hI hs' => by
    have h1 := hxs a w (fun y hy g hg => hs' y (by simp [hop, Op.operands, hy]) g hg)
    refine ⟨.func (.func f) #[] caps.toArray, w, ?_, Below.refl _ _, by simp [Fa.den]⟩
    simp [execOp, hop, Instr.makeFunc, ← h1]) h
end
end Go.Free
end

section
set_option linter.unusedSimpArgs false
set_option linter.unusedVariables false
set_option maxRecDepth 20000
namespace Go.Free
open Go.RowKit
def pick (H : List Chunk) (qs : List Nat) : List Chunk := qs.map fun q => (H[q]?).getD emp
def nodupB : List Nat → Bool
  | [] => true
  | q :: r => r.all (fun p => p != q) && nodupB r
theorem nodup_at {qs : List Nat} (h : nodupB qs = true) : ∀ {i j q : Nat}, qs[i]? = some q → qs[j]? = some q → i = j := by
  induction qs with
  | nil => intro i j q hi; simp at hi
  | cons p r ih =>
    simp only [nodupB, Bool.and_eq_true, List.all_eq_true, bne_iff_ne, ne_eq] at h
    intro i j q hi hj
    cases i with
    | zero =>
      cases j with
      | zero => rfl
      | succ j =>
        simp only [List.getElem?_cons_zero, Option.some.injEq] at hi
        subst hi
        exact absurd rfl (h.1 p (List.mem_of_getElem? (by simpa using hj)))
    | succ i =>
      cases j with
      | zero =>
        simp only [List.getElem?_cons_zero, Option.some.injEq] at hj
        subst hj
        exact absurd rfl (h.1 p (List.mem_of_getElem? (by simpa using hi)))
      | succ j => exact congrArg (· + 1) (ih h.2 (q := q) (by simpa using hi) (by simpa using hj))
theorem Lies.pick {H : List Chunk} {φ : Nat → Nat → Prop} {w : World} (h : Lies H φ w) (qs : List Nat) (hn : nodupB qs = true) : Lies (Free.pick H qs) (fun i b => ∃ q, qs[i]? = some q ∧ φ q b) w := by
  refine ⟨fun i c hi => ?_, fun i j b ⟨q, h1, h2⟩ ⟨q', h3, h4⟩ => ?_, fun i b ⟨q, h1, h2⟩ => ?_⟩
  · simp only [Free.pick, List.getElem?_map, Option.map_eq_some_iff] at hi
    obtain ⟨q, hq, rfl⟩ := hi
    have hF : (fun b => ∃ q', qs[i]? = some q' ∧ φ q' b) = φ q := by
      funext b; apply propext
      exact ⟨fun ⟨q', h1, h2⟩ => by rw [hq] at h1; cases h1; exact h2, fun hb => ⟨q, hq, hb⟩⟩
    rw [hF]
    cases hH : H[q]? with
    | none => exact fun b hb => by have := h.bound q b hb; have := List.getElem?_eq_none_iff.1 hH; omega
    | some c => exact h.holds q c hH
  · have := h.apart q q' b h2 h4
    subst this
    exact nodup_at hn h1 h3
  · simp only [Free.pick, List.length_map]
    exact (List.getElem?_eq_some_iff.1 h1).1
theorem Ent.pickC {H H' : List Chunk} (qs : List Nat) (hp : Free.pick H qs = H') (hn : nodupB qs = true) : Ent (allC H) (allC H') := fun w F h => by
  obtain ⟨φ, hL, hF⟩ := Lies.ofAll h
  subst hp
  exact ⟨_, (hL.pick qs hn).all, fun b ⟨i, q, _, hb⟩ => hF q b hb⟩
theorem Ent.assocR {c d e : Chunk} : Ent (sepC (sepC c d) e) (sepC c (sepC d e)) := fun w F ⟨G, K, h1, h2, ⟨G1, G2, g1, g2, g3, g4⟩, h4⟩ =>
  ⟨F, ⟨G1, fun b => G2 b ∨ K b, fun b => (h1 b).trans ⟨fun h => h.elim (fun h => ((g1 b).1 h).elim .inl (fun h => .inr (.inl h))) (fun h => .inr (.inr h)), fun h => h.elim (fun h => .inl ((g1 b).2 (.inl h))) (fun h => h.elim (fun h => .inl ((g1 b).2 (.inr h))) .inr)⟩,
    fun b hb hc => hc.elim (g2 b hb) (h2 b ((g1 b).2 (.inl hb))), g3, G2, K, fun b => Iff.rfl, fun b hb hc => h2 b ((g1 b).2 (.inr hb)) hc, g4, h4⟩, fun _ h => h⟩
theorem Ent.assocL {c d e : Chunk} : Ent (sepC c (sepC d e)) (sepC (sepC c d) e) := fun w F ⟨G, K, h1, h2, h3, K1, K2, k1, k2, k3, k4⟩ =>
  ⟨F, ⟨fun b => G b ∨ K1 b, K2, fun b => (h1 b).trans ⟨fun h => h.elim (fun h => .inl (.inl h)) (fun h => ((k1 b).1 h).elim (fun h => .inl (.inr h)) .inr), fun h => h.elim (fun h => h.elim .inl (fun h => .inr ((k1 b).2 (.inl h)))) (fun h => .inr ((k1 b).2 (.inr h)))⟩,
    fun b hb hc => hb.elim (fun hb => h2 b hb ((k1 b).2 (.inr hc))) (fun hb => k2 b hb hc), ⟨G, K1, fun b => Iff.rfl, fun b hb hc => h2 b hb ((k1 b).2 (.inl hc)), h3, k3⟩, k4⟩, fun _ h => h⟩
theorem Ent.splitC : ∀ {H1 H2 : List Chunk}, Ent (allC (H1 ++ H2)) (sepC (allC H1) (allC H2))
  | [], H2 => fun w F h => ⟨F, ⟨fun _ => False, F, fun b => ⟨.inr, fun h => h.elim (fun e => e.elim) id⟩, fun _ e _ => e, fun _ e => e, h⟩, fun _ h => h⟩
  | c :: r, H2 => (Ent.sep (Ent.refl c) (Ent.splitC (H1 := r))).trans Ent.assocL
theorem Ent.joinC : ∀ {H1 H2 : List Chunk}, Ent (sepC (allC H1) (allC H2)) (allC (H1 ++ H2))
  | [], H2 => Ent.right
  | c :: r, H2 => Ent.assocR.trans (Ent.sep (Ent.refl c) (Ent.joinC (H1 := r)))
theorem nodupB_app {qs rs : List Nat} (h : nodupB (qs ++ rs) = true) : nodupB qs = true := by
  induction qs with
  | nil => rfl
  | cons q r ih =>
    simp only [List.cons_append, nodupB, Bool.and_eq_true, List.all_append] at h ⊢
    exact ⟨h.1.1, ih h.2⟩
theorem Sub.heap {I : World → Prop} {A : Nat → Prop} {H H' : List Chunk} (he : Ent (allC H) (allC H')) : Sub I (Free.heap A H) (Free.heap A H') := fun w v _ hh => by
  obtain ⟨φ, hL, hA⟩ := hh
  obtain ⟨G, g1, g2⟩ := he w _ hL.all
  obtain ⟨φ', hL', hF⟩ := Lies.ofAll g1
  exact ⟨φ', hL', fun q b hb => by obtain ⟨p, hp⟩ := g2 b (hF q b hb); exact hA p b hp⟩
section
variable {P : Program} {ops : Array Oper} {Q : Exit → Act → World → Prop} {n : Nat} {I : World → Prop} {k i : Nat} {E : Env} {o : Oper} {d : Bool} {A : Nat → Prop} {H : List Chunk} {key : Nat}
/-- A call that turns the chunks qs of the heap; rs are the others. -/
theorem Plan.callL {f : FuncId} {xs : List Operand} {ts : Array TypeId} {fs : List Fa} {Hc Hr : List Chunk} {X : Type} {ok : X → Prop} {R : X → Fa} {c' : X → List Chunk} {fn : Func} (qs rs : List Nat) (ho : ops[i]? = some o)
    (hop : o.op = .call { callee := .value (.func f), args := xs.toArray, argTypes := ts }) (hg : wantB ops E o = some true) (hc : SpcC P f fs (allC Hc) ok R (fun x => allC (c' x)))
    (hf : P.funcs[f]? = some fn) (hbody : fn.body.isNone = false) (hname : (fn.name == "runtime.NumGoroutine") = false) (hd : ∀ d, o.dst = some d → d < n)
    (hx : Opnds I E xs fs) (hk : look E key = some (heap A H)) (hA : Own I A) (hp : Free.pick H qs = Hc) (hr : Free.pick H rs = Hr) (hn : nodupB (qs ++ rs) = true)
    (h : ∀ x, ok x → Plan P ops Q n I d k (i + 1) (setE o.dst (R x) ((key, heap A (c' x ++ Hr)) :: sieve E))) (hq : d = false ∨ barB ops i = true := by first | exact .inl rfl | exact .inr (by kernel_rfl)) : Plan P ops Q n I d (k + 1) i E :=
  Plan.callG (allC Hr) (fun x => c' x ++ Hr) ho hop hg hc hf hbody hname hd hx hk hA ((Ent.pickC (qs ++ rs) (by rw [Free.pick, List.map_append]; exact (congrArg (· ++ _) hp).trans (congrArg (Hc ++ ·) hr)) hn).trans Ent.splitC) (fun x => Ent.joinC) h hq
/-- Chunks told as one are told apart. -/
theorem J.open1 {c : Code} {Hc : List Chunk} (hk : look E key = some (heap A [allC Hc])) (h : J P n I c Q ((key, heap A Hc) :: E)) : J P n I c Q E := J.regroup Hc hk Ent.one h
end
end Go.Free
end

section
set_option linter.unusedSimpArgs false
set_option linter.unusedVariables false
set_option maxRecDepth 20000
namespace Go.Free
open Go.RowKit Go.MapKept
def mkL (o : Nat) : List (Int × Value) → List MapEntry
  | [] => []
  | p :: r => ⟨.int .i64 p.1, p.2, o⟩ :: mkL (o + 1) r
def mkEs (kvs : List (Int × Value)) : Array MapEntry := (mkL 0 kvs).toArray
theorem mkL_len : ∀ {l : List (Int × Value)} {o : Nat}, (mkL o l).length = l.length
  | [], _ => rfl
  | _ :: r, o => by simp only [mkL, List.length_cons]; rw [mkL_len (l := r)]
theorem mkL_get : ∀ {l : List (Int × Value)} {o i : Nat}, (mkL o l)[i]? = l[i]?.map fun p => ⟨.int .i64 p.1, p.2, o + i⟩
  | [], _, _ => rfl
  | p :: r, o, 0 => rfl
  | p :: r, o, i + 1 => by
    simp only [mkL, List.getElem?_cons_succ]
    rw [mkL_get (l := r)]
    congr 1
    funext q
    rw [Nat.add_right_comm, Nat.add_assoc]
theorem mkL_app : ∀ {l m : List (Int × Value)} {o : Nat}, mkL o (l ++ m) = mkL o l ++ mkL (o + l.length) m
  | [], _, _ => rfl
  | p :: r, m, o => by
    simp only [List.cons_append, mkL, List.length_cons]
    rw [mkL_app (l := r), show o + 1 + r.length = o + (r.length + 1) by omega]
theorem mkL_born {l : List (Int × Value)} {o : Nat} : (mkL o l).map (·.born) = List.range' o l.length := by
  induction l generalizing o with
  | nil => rfl
  | cons p r ih => simp only [mkL, List.map_cons, List.length_cons, List.range'_succ, ih]
/-- What stands at a key. -/
def mapAt (z : Value) (kvs : List (Int × Value)) (k : Int) : Value := match kvs.find? (fun p => decide (p.1 = k)) with | some p => p.2 | none => z
def findV (kvs : List (Int × Value)) (k : Int) : Option (Nat × Value) := match kvs.findIdx? (fun p => decide (p.1 = k)) with | some i => some (i, (kvs.getD i (0, .bool false)).2) | none => none
def putV (kvs : List (Int × Value)) (k : Int) (v : Value) : List (Int × Value) := match kvs.findIdx? (fun p => decide (p.1 = k)) with | some i => kvs.set i (k, v) | none => kvs ++ [(k, v)]
theorem findNow_mk (k : Int) {kd : IntKind} : ∀ (l : List (Int × Value)) (o : Nat), Instr.findNow (.int kd) (.int .i64 k) (mkL o l) o = some (match l.findIdx? (fun p => decide (p.1 = k)) with | some i => some (o + i, (l.getD i (0, .bool false)).2) | none => none)
  | [], _ => rfl
  | p :: r, o => by
    simp only [mkL, Instr.findNow, Instr.sameNow, if_true]
    by_cases h : k = p.1
    · subst h
      simp [List.findIdx?_cons]
    · have h1 : (k == p.1) = false := by simpa using h
      have h2 : ¬ p.1 = k := fun e => h e.symm
      rw [h1]
      simp only [findNow_mk k r (o + 1), List.findIdx?_cons, h2, decide_false, Bool.false_eq_true, if_false]
      cases r.findIdx? (fun p => decide (p.1 = k)) with
      | none => rfl
      | some i => simp; omega
def mapC (μ : Nat) (kvs : List (Int × Value)) : Chunk := ⟨fun w F => w.heap[μ]? = some (.map (mkEs kvs) kvs.length) ∧ ∀ b, F b ↔ b = μ,
  fun _ _ b ⟨h, hF⟩ hb => by rw [(hF b).1 hb]; exact (Array.getElem?_eq_some_iff.1 h).1,
  fun _ _ _ ⟨h, hF⟩ hk => ⟨(hk μ ((hF μ).2 rfl)).trans h, hF⟩⟩
/-- A range over the map μ of n entries, of which those of seen have come. -/
def iterC (r μ n : Nat) (seen : List Nat) : Chunk := ⟨fun w F => w.heap[r]? = some (.mapIter (some μ) n seen.toArray n) ∧ ∀ b, F b ↔ b = r,
  fun _ _ b ⟨h, hF⟩ hb => by rw [(hF b).1 hb]; exact (Array.getElem?_eq_some_iff.1 h).1,
  fun _ _ _ ⟨h, hF⟩ hk => ⟨(hk r ((hF r).2 rfl)).trans h, hF⟩⟩
abbrev mapV (μ : Nat) : Value := .map (some μ)
theorem run_checkIntN {P : Program} {w : World} {em : Bool} {kt : TypeId} {kd : IntKind} {v : Value} (hu : P.underlying kt = some (.int kd)) (m : Nat) : (Instr.checkKey em (m + 1) kt v).run P w = .ok () w := by
  simp [Instr.checkKey, run_underlying hu]
theorem run_checkInt {P : Program} {w : World} {em : Bool} {kt : TypeId} {kd : IntKind} {v : Value} (hu : P.underlying kt = some (.int kd)) : (Instr.checkKey em 10000 kt v).run P w = .ok () w := run_checkIntN hu 9999
theorem run_findMk {P : Program} {w : World} {kt : TypeId} {kd : IntKind} {k : Int} {kvs : List (Int × Value)} (hu : P.underlying kt = some (.int kd)) :
    (Instr.findKey kt (.int .i64 k) (mkL 0 kvs)).run P w = .ok (findV kvs k) w := by
  simp only [Instr.findKey, Sem.run_bind, run_underlying hu, Result.andThen, findNow_mk, Nat.zero_add, findV]
  split <;> rfl
section
variable {P : Program} {ops : Array Oper} {Q : Exit → Act → World → Prop} {n : Nat} {I : World → Prop} {k i : Nat} {E : Env} {o : Oper} {d : Bool} {A : Nat → Prop} {H : List Chunk} {key : Nat}
/-- make(map) -/
theorem Plan.makeMapC {t : TypeId} (ho : ops[i]? = some o) (hop : o.op = .makeMap t none) (hg : wantB ops E o = some true) (hd : ∀ d, o.dst = some d → d < n) (hk : look E key = some (heap A H)) (hA : Own I A)
    (h : ∀ μ, Plan P ops Q n I d k (i + 1) (setE o.dst (.ex (mapV μ)) ((key, heap A (H ++ [mapC μ []])) :: sieve E))) (hq : d = false ∨ barB ops i = true := by first | exact .inl rfl | exact .inr (by kernel_rfl)) : Plan P ops Q n I d (k + 1) i E :=
  Plan.turnRun ho hg hd hk hA (fun a w φ _ _ _ hL hLA hfr => by
    have hb : Below w.heap.size w (w.alloc (.map #[] 0)) := (Below.refl _ _).alloc (Nat.le_refl _) _
    have hL' := hL.add (c' := mapC w.heap.size []) (F := fun b => b = w.heap.size) hb ⟨heap_alloc_new w _, fun b => Iff.rfl⟩ (fun b e => Nat.le_of_eq e.symm)
    refine ⟨mapV w.heap.size, w.alloc (.map #[] 0), .ex (mapV w.heap.size), _, _, .inl ?_, .ofBelow hb, hL', fun q b hb => ?_, by simp [Fa.den], h w.heap.size⟩
    · simp [execOp, hop, Instr.makeMap, newObj, Sem.run]
    · by_cases he : q = H.length
      · simp only [if_pos he] at hb; exact hfr b (Nat.le_of_eq hb.symm)
      · simp only [if_neg he] at hb; exact hLA q b hb) hq
/-- m[k] -/
theorem Plan.lookupC {t kt et : TypeId} {kd : IntKind} {x y : Operand} {μ q : Nat} {kk : Int} {kvs : List (Int × Value)} {z : Value} (ho : ops[i]? = some o) (hop : o.op = .lookup t x y false) (hg : wantB ops E o = some true)
    (hx : opF E x = some (.ex (mapV μ))) (hy : opF E y = some (.ex (.int .i64 kk))) (ht : P.underlying t = some (.map kt et)) (hkt : P.underlying kt = some (.int kd)) (hz : (P.info? et).bind (·.zero) = some z)
    (hk : look E key = some (heap A H)) (hqH : H[q]? = some (mapC μ kvs)) (hkn : n ≤ key)
    (h : Plan P ops Q n I d k (i + 1) (setE o.dst (.ex (mapAt z kvs kk)) E)) : Plan P ops Q n I d (k + 1) i E :=
  Plan.step ho (Step.runK ho hg fun a w _ hs' hK => by
    have e1 := hs' x (by simp [hop, Op.operands]) _ hx
    have e2 := hs' y (by simp [hop, Op.operands]) _ hy
    simp only [Fa.den] at e1 e2
    obtain ⟨φ, hL, _⟩ := hK key hkn _ hk
    have hb := (hL.holds q _ hqH).1
    obtain ⟨inf, hi1, hi2⟩ : ∃ inf, P.info? et = some inf ∧ inf.zero = some z := by
      cases hinf : P.info? et with
      | none => rw [hinf] at hz; cases hz
      | some inf => rw [hinf] at hz; exact ⟨inf, rfl, by simpa using hz⟩
    refine ⟨mapAt z kvs kk, w, ?_, Below.refl _ _, by simp [Fa.den]⟩
    have hfd : ∀ p, kvs.findIdx? (fun p => decide (p.1 = kk)) = p → mapAt z kvs kk = match p with | some i => (kvs.getD i (0, .bool false)).2 | none => z := fun p hp => by
      unfold mapAt
      cases p with
      | none =>
        rw [List.findIdx?_eq_none_iff] at hp
        rw [List.find?_eq_none.2 fun x hx => by simpa using hp x hx]
      | some j =>
        rw [List.findIdx?_eq_some_iff_getElem] at hp
        obtain ⟨hj, h1, h2⟩ := hp
        have hf : kvs.find? (fun p => decide (p.1 = kk)) = some kvs[j] := by
          rw [List.find?_eq_some_iff_getElem]
          exact ⟨h1, j, hj, rfl, fun l hl => by simpa using h2 l hl⟩
        rw [hf]
        simp [List.getD_eq_getElem?_getD, List.getElem?_eq_getElem hj]
    have hfk := run_findMk (P := P) (w := w) (k := kk) (kvs := kvs) hkt
    have hml : (mkEs kvs).toList = mkL 0 kvs := rfl
    have hck := run_checkInt (P := P) (w := w) (em := (mkEs kvs).isEmpty) (v := .int .i64 kk) hkt
    rw [← hml] at hfk
    unfold findV at hfk
    cases hj : kvs.findIdx? (fun p => decide (p.1 = kk)) with
    | none =>
      rw [hfd _ hj]
      rw [hj] at hfk
      simp [execOp, hop, e1, e2, Instr.lookup, run_underlying ht, MapKept.run_getObj_map hb, hck, hfk, Result.andThen, zeroValue, typeInfo, hi1, hi2]
    | some j =>
      rw [hfd _ hj]
      rw [hj] at hfk
      simp [execOp, hop, e1, e2, Instr.lookup, run_underlying ht, MapKept.run_getObj_map hb, hck, hfk, Result.andThen]) h
theorem set_mk {l : List (Int × Value)} {j : Nat} {k : Int} {v : Value} (hj : j < l.length) : (mkEs l).modify j (fun e => { e with key := .int .i64 k, val := v }) = mkEs (l.set j (k, v)) := by
  apply Array.ext'
  unfold mkEs
  rw [Array.toList_modify]
  apply List.ext_getElem?
  intro m
  simp only [List.getElem?_modify]
  rw [mkL_get, mkL_get, List.getElem?_set]
  by_cases hm : j = m
  · subst hm
    rw [if_pos rfl, if_pos hj, List.getElem?_eq_getElem hj]
    simp
  · rw [if_neg hm]
    cases l[m]? <;> simp [hm]
theorem run_setMap {P : Program} {w : World} {r : Nat} {ob o' : Obj} (hb : w.heap[r]? = some ob) (hm : ∃ es c, ob = .map es c) : (setObj r o').run P w = .ok () { w with heap := w.heap.setIfInBounds r o' } := by
  obtain ⟨es, c, rfl⟩ := hm
  exact MapKept.run_setObj_map o' hb
/-- m[k] = v -/
theorem Plan.mapUpdateC {t kt et : TypeId} {kd : IntKind} {x y z : Operand} {μ q : Nat} {kk : Int} {v : Value} {kvs : List (Int × Value)} (ho : ops[i]? = some o) (hop : o.op = .mapUpdate t x y z) (hdst : o.dst = none) (hg : wantB ops E o = some true)
    (hx : opF E x = some (.ex (mapV μ))) (hy : opF E y = some (.ex (.int .i64 kk))) (hz : opF E z = some (.ex v)) (ht : P.underlying t = some (.map kt et)) (hkt : P.underlying kt = some (.int kd))
    (hk : look E key = some (heap A H)) (hA : Own I A) (hqH : H[q]? = some (mapC μ kvs))
    (h : Plan P ops Q n I d k (i + 1) ((key, heap A (H.set q (mapC μ (putV kvs kk v)))) :: sieve E)) (hq : d = false ∨ barB ops i = true := by first | exact .inl rfl | exact .inr (by kernel_rfl)) : Plan P ops Q n I d (k + 1) i E :=
  Plan.turnRun ho hg (by rw [hdst]; intro _ e; cases e) hk hA (fun a w φ _ _ hs' hL hLA hfr => by
    have e1 := hs' x (by simp [hop, Op.operands]) _ hx
    have e2 := hs' y (by simp [hop, Op.operands]) _ hy
    have e3 := hs' z (by simp [hop, Op.operands]) _ hz
    simp only [Fa.den] at e1 e2 e3
    have hc := hL.holds q _ hqH
    obtain ⟨hb, hF⟩ := hc
    have hlt : μ < w.heap.size := (Array.getElem?_eq_some_iff.1 hb).1
    obtain ⟨w', hw'⟩ : ∃ w' : World, w' = { w with heap := w.heap.setIfInBounds μ (.map (mkEs (putV kvs kk v)) (putV kvs kk v).length) } := ⟨_, rfl⟩
    have hK : Kept (φ q) w w' := by
      subst hw'
      exact ⟨rfl, rfl, rfl, by simp, fun b _ hn => by
        rw [Array.getElem?_setIfInBounds_ne (fun e => hn ((hF b).2 e.symm))]⟩
    have hc2 : (mapC μ (putV kvs kk v)).holds w' (φ q) := by
      subst hw'
      exact ⟨by simp [Array.getElem?_setIfInBounds, hlt], hF⟩
    have hqlt : q < H.length := (List.getElem?_eq_some_iff.1 hqH).1
    have hfk := run_findMk (P := P) (w := w) (k := kk) (kvs := kvs) hkt
    have hml : (mkEs kvs).toList = mkL 0 kvs := rfl
    have hck := run_checkInt (P := P) (w := w) (em := false) (v := .int .i64 kk) hkt
    rw [← hml] at hfk
    unfold findV at hfk
    have hL' := hL.upd hqlt hK hc2 (fun b hb => .inl hb)
    refine ⟨undef, w', .ex undef, H.set q (mapC μ (putV kvs kk v)), _, .inr ⟨?_, rfl⟩, hK.mono (fun b _ hb => hLA q b hb), hL', wide (H := H) hLA hfr (fun b hb => .inl hb), by simp [Fa.den], by rw [hdst]; exact h⟩
    subst hw'
    unfold putV at *
    cases hj : kvs.findIdx? (fun p => decide (p.1 = kk)) with
    | none =>
      rw [hj] at hfk
      have hpush : (mkEs kvs).push ⟨.int .i64 kk, v, kvs.length⟩ = mkEs (kvs ++ [(kk, v)]) := by
        apply Array.ext'
        unfold mkEs
        rw [mkL_app]
        simp [mkL]
      simp [execOp, hop, e1, e2, e3, Instr.mapUpdate, run_underlying ht, MapKept.run_getObj_map hb, hck, hfk, Result.andThen, hpush, run_setMap hb ⟨_, _, rfl⟩]
    | some j =>
      rw [hj] at hfk
      rw [List.findIdx?_eq_some_iff_getElem] at hj
      obtain ⟨hjl, h1, _⟩ := hj
      have hkey : kvs[j].1 = kk := by simpa using h1
      have hold : ((mkEs kvs)[j]?.map (·.key)).getD (.int .i64 kk) = .int .i64 kk := by
        have : (mkEs kvs)[j]? = (mkL 0 kvs)[j]? := by rw [← Array.getElem?_toList]; rfl
        rw [this, mkL_get, List.getElem?_eq_getElem hjl]
        simp [hkey]
      have hst : (Instr.keyThatStays (.int .i64 kk) (.int .i64 kk)).run P w = .ok (.int .i64 kk) w := by
        simp [Instr.keyThatStays, Instr.sameBits]
      simp [execOp, hop, e1, e2, e3, Instr.mapUpdate, run_underlying ht, MapKept.run_getObj_map hb, hck, hfk, Result.andThen, hold, hst, set_mk hjl, run_setMap hb ⟨_, _, rfl⟩]) hq
/-- range m -/
theorem Plan.rangeC {t kt et : TypeId} {x : Operand} {μ q : Nat} {kvs : List (Int × Value)} (ho : ops[i]? = some o) (hop : o.op = .range t x) (hg : wantB ops E o = some true) (hd : ∀ d, o.dst = some d → d < n)
    (hx : opF E x = some (.ex (mapV μ))) (ht : P.underlying t = some (.map kt et)) (hk : look E key = some (heap A H)) (hA : Own I A) (hqH : H[q]? = some (mapC μ kvs))
    (h : ∀ r, Plan P ops Q n I d k (i + 1) (setE o.dst (.ex (ptr r)) ((key, heap A (H ++ [iterC r μ kvs.length []])) :: sieve E))) (hq : d = false ∨ barB ops i = true := by first | exact .inl rfl | exact .inr (by kernel_rfl)) : Plan P ops Q n I d (k + 1) i E :=
  Plan.turnRun ho hg hd hk hA (fun a w φ _ _ hs' hL hLA hfr => by
    have e1 := hs' x (by simp [hop, Op.operands]) _ hx
    simp only [Fa.den] at e1
    have hbm := (hL.holds q _ hqH).1
    have hb : Below w.heap.size w (w.alloc (.mapIter (some μ) kvs.length #[] kvs.length)) := (Below.refl _ _).alloc (Nat.le_refl _) _
    have hL' := hL.add (c' := iterC w.heap.size μ kvs.length []) (F := fun b => b = w.heap.size) hb ⟨heap_alloc_new w _, fun b => Iff.rfl⟩ (fun b e => Nat.le_of_eq e.symm)
    refine ⟨ptr w.heap.size, w.alloc (.mapIter (some μ) kvs.length #[] kvs.length), .ex (ptr w.heap.size), _, _, .inl ?_, .ofBelow hb, hL', fun q b hb => ?_, by simp [Fa.den], h w.heap.size⟩
    · simp [execOp, hop, e1, run_range_map w t kt et μ _ _ ht hbm]
    · by_cases he : q = H.length
      · simp only [if_pos he] at hb; exact hfr b (Nat.le_of_eq hb.symm)
      · simp only [if_neg he] at hb; exact hLA q b hb) hq
/-- The range's next step: all entries have come, or one comes that has not. -/
theorem Plan.nextC {x : Operand} {r μ q q2 : Nat} {seen : List Nat} {kvs : List (Int × Value)} (ho : ops[i]? = some o) (hop : o.op = .next x false) (hg : wantB ops E o = some true) (hd : ∀ d, o.dst = some d → d < n)
    (hx : opF E x = some (.ex (ptr r))) (hk : look E key = some (heap A H)) (hA : Own I A) (hqH : H[q]? = some (mapC μ kvs)) (hq2 : H[q2]? = some (iterC r μ kvs.length seen))
    (h0 : (∀ j, j < kvs.length → j ∈ seen) → Plan P ops Q n I d k (i + 1) (setE o.dst (.ex (.tuple #[.bool false])) ((key, heap A H) :: sieve E)))
    (h1 : ∀ j p, kvs[j]? = some p → j ∉ seen → Plan P ops Q n I d k (i + 1) (setE o.dst (.ex (.tuple #[.bool true, .int .i64 p.1, p.2])) ((key, heap A (H.set q2 (iterC r μ kvs.length (seen ++ [j])))) :: sieve E)))
    (hq : d = false ∨ barB ops i = true := by first | exact .inl rfl | exact .inr (by kernel_rfl)) : Plan P ops Q n I d (k + 1) i E :=
  Plan.turnRun ho hg hd hk hA (fun a w φ _ _ hs' hL hLA hfr => by
    have e1 := hs' x (by simp [hop, Op.operands]) _ hx
    simp only [Fa.den] at e1
    have hbm := (hL.holds q _ hqH).1
    obtain ⟨hbr, hFr⟩ := hL.holds q2 _ hq2
    have hml : (mkEs kvs).toList = mkL 0 kvs := rfl
    have hbn : ∀ e ∈ mkL 0 kvs, ∃ j p, kvs[j]? = some p ∧ e = ⟨.int .i64 p.1, p.2, j⟩ := fun e he => by
      obtain ⟨j, hj, rfl⟩ := List.getElem_of_mem he
      have h2 := List.getElem?_eq_getElem hj
      rw [mkL_get] at h2
      cases hp : kvs[j]? with
      | none => rw [hp] at h2; cases h2
      | some p =>
        rw [hp] at h2
        simp only [Option.map_some, Option.some.injEq, Nat.zero_add] at h2
        exact ⟨j, p, hp, h2.symm⟩
    have hlt : ∀ e ∈ (mkEs kvs).toList, e.born < kvs.length := fun e he => by
      rw [hml] at he
      obtain ⟨j, p, h2, rfl⟩ := hbn e he
      exact (List.getElem?_eq_some_iff.1 h2).1
    rcases run_next_at (P := P) w o.type r μ kvs.length kvs.length seen.toArray (mkEs kvs) kvs.length hbr hbm hlt (Nat.le_refl _) with ⟨hz, hrun⟩ | ⟨e, he, w1, hw1, hrun⟩
    · have hall : ∀ j, j < kvs.length → j ∈ seen := fun j hj => by
        have hem : leftOf (mkEs kvs) seen.toArray = #[] := Array.eq_empty_of_size_eq_zero hz
        unfold leftOf at hem
        rw [Array.filter_eq_empty_iff] at hem
        have hin : (⟨.int .i64 kvs[j].1, kvs[j].2, j⟩ : MapEntry) ∈ mkEs kvs := by
          rw [← Array.mem_toList_iff, hml]
          refine List.mem_of_getElem? (i := j) ?_
          rw [mkL_get, List.getElem?_eq_getElem hj]
          simp
        have := hem _ hin
        simpa using this
      refine ⟨.tuple #[.bool false], w, .ex (.tuple #[.bool false]), H, φ, .inl ?_, Kept.refl _ _, hL, hLA, by simp [Fa.den], h0 hall⟩
      simp only [execOp, hop, e1]
      simp [hrun]
    · unfold leftOf at he
      rw [Array.toList_filter, List.mem_filter, hml] at he
      obtain ⟨j, p, hp, rfl⟩ := hbn e he.1
      have hns : j ∉ seen := by simpa using he.2
      have hw1h : w1.heap = w.heap := by rcases hw1 with rfl | rfl <;> rfl
      have hw1K : w1.os = w.os ∧ w1.tape = w.tape ∧ w1.output = w.output := by rcases hw1 with rfl | rfl <;> exact ⟨rfl, rfl, rfl⟩
      obtain ⟨w', hw'⟩ : ∃ w', w' = ChangeMaps.setBlock w1 r (.mapIter (some μ) kvs.length (seen.toArray.push j) kvs.length) := ⟨_, rfl⟩
      have hrl : r < w.heap.size := (Array.getElem?_eq_some_iff.1 hbr).1
      have hh : w'.heap = w.heap.setIfInBounds r (.mapIter (some μ) kvs.length (seen.toArray.push j) kvs.length) := by subst hw'; rw [← hw1h]; rfl
      have hK : Kept (φ q2) w w' := by
        refine ⟨?_, ?_, ?_, by rw [hh]; simp, fun b _ hn => ?_⟩
        · subst hw'; exact hw1K.1
        · subst hw'; exact hw1K.2.1
        · subst hw'; exact hw1K.2.2
        · rw [hh, Array.getElem?_setIfInBounds_ne (fun e => hn ((hFr b).2 e.symm))]
      have hc2 : (iterC r μ kvs.length (seen ++ [j])).holds w' (φ q2) := ⟨by
        rw [hh]
        simp [Array.getElem?_setIfInBounds, hrl], hFr⟩
      have hqlt : q2 < H.length := (List.getElem?_eq_some_iff.1 hq2).1
      have hL' := hL.upd hqlt hK hc2 (fun b hb => .inl hb)
      refine ⟨.tuple #[.bool true, .int .i64 p.1, p.2], w', .ex (.tuple #[.bool true, .int .i64 p.1, p.2]), _, _, .inl ?_, hK.mono (fun b _ hb => hLA q2 b hb), hL', wide (H := H) hLA hfr (fun b hb => .inl hb), by simp [Fa.den], h1 j p hp hns⟩
      simp only [execOp, hop, e1]
      simp [hrun, hw']) hq
/-- The entry that came last. -/
theorem Plan.entryC {x : Operand} {r μ q q2 j : Nat} {seen : List Nat} {p : Int × Value} {kvs : List (Int × Value)} (ho : ops[i]? = some o) (hop : o.op = .entry x) (hg : wantB ops E o = some true)
    (hx : opF E x = some (.ex (ptr r))) (hk : look E key = some (heap A H)) (hqH : H[q]? = some (mapC μ kvs)) (hq2 : H[q2]? = some (iterC r μ kvs.length (seen ++ [j]))) (hp : kvs[j]? = some p) (hkn : n ≤ key)
    (h : Plan P ops Q n I d k (i + 1) (setE o.dst (.ex (.tuple #[.int .i64 p.1, p.2])) E)) : Plan P ops Q n I d (k + 1) i E :=
  Plan.step ho (Step.runK ho hg fun a w _ hs' hK => by
    have e1 := hs' x (by simp [hop, Op.operands]) _ hx
    simp only [Fa.den] at e1
    obtain ⟨φ, hL, _⟩ := hK key hkn _ hk
    have hbm := (hL.holds q _ hqH).1
    have hbr := (hL.holds q2 _ hq2).1
    have hml : (mkEs kvs).toList = mkL 0 kvs := rfl
    have hin : (⟨.int .i64 p.1, p.2, j⟩ : MapEntry) ∈ (mkEs kvs).toList := by
      rw [hml]
      refine List.mem_of_getElem? (i := j) ?_
      rw [mkL_get, hp]
      simp
    have hnd : ((mkEs kvs).toList.map (·.born)).Nodup := by rw [hml, mkL_born]; exact List.nodup_range'
    have hbr' : w.heap[r]? = some (.mapIter (some μ) kvs.length (seen.toArray.push j) kvs.length) := by rw [hbr]; simp
    have hrun := run_entry_at (P := P) w r μ kvs.length seen.toArray (mkEs kvs) kvs.length ⟨.int .i64 p.1, p.2, j⟩ hbr' hbm hin hnd
    refine ⟨.tuple #[.int .i64 p.1, p.2], w, ?_, Below.refl _ _, by simp [Fa.den]⟩
    simp only [execOp, hop, e1]
    simp [hrun]) h
end
end Go.Free
end

section
set_option linter.unusedSimpArgs false
set_option linter.unusedVariables false
set_option maxRecDepth 20000
namespace Go.Free
open Go.RowKit
theorem dens_caps {w : World} {caps : List Value} : ∀ {fs : List Fa} {vs : List Value}, Fa.dens fs w vs → Fa.dens (fs ++ caps.map .ex) w (vs ++ caps)
  | [], vs, h => by
    simp only [Fa.dens] at h
    subst h
    simp only [List.nil_append]
    induction caps with
    | nil => simp [Fa.dens]
    | cons u r ih => exact ⟨_, _, rfl, by simp [Fa.den], ih⟩
  | f :: fs, vs, h => by
    simp only [Fa.dens] at h
    obtain ⟨v, r, rfl, h1, h2⟩ := h
    exact ⟨v, _, rfl, h1, dens_caps h2⟩
section
variable {P : Program} {ops : Array Oper} {Q : Exit → Act → World → Prop} {n : Nat} {I : World → Prop} {k i : Nat} {E : Env} {o : Oper} {d : Bool} {A : Nat → Prop} {H : List Chunk} {key : Nat}
/-- A call of a function value with captures, that turns some of the chunks, told as one. -/
theorem Plan.callFG {f : FuncId} {xf : Operand} {xs : List Operand} {ts : Array TypeId} {caps : List Value} {fs : List Fa} {c : Chunk} (D : Chunk) {X : Type} {ok : X → Prop} {R : X → Fa} {c' : X → Chunk} {fn : Func} (H' : X → List Chunk) (ho : ops[i]? = some o)
    (hop : o.op = .call { callee := .value xf, args := xs.toArray, argTypes := ts }) (hg : wantB ops E o = some true) (hxf : opF E xf = some (.ex (.func (.func f) #[] caps.toArray))) (hc : SpcC P f (fs ++ caps.map .ex) c ok R c')
    (hf : P.funcs[f]? = some fn) (hbody : fn.body.isNone = false) (hname : (fn.name == "runtime.NumGoroutine") = false) (hd : ∀ d, o.dst = some d → d < n)
    (hx : Opnds I E xs fs) (hk : look E key = some (heap A H)) (hA : Own I A) (hsp : Ent (allC H) (Free.sepC c D)) (hjn : ∀ x, Ent (Free.sepC (c' x) D) (allC (H' x)))
    (h : ∀ x, ok x → Plan P ops Q n I d k (i + 1) (setE o.dst (R x) ((key, heap A (H' x)) :: sieve E))) (hq : d = false ∨ barB ops i = true := by first | exact .inl rfl | exact .inr (by kernel_rfl)) : Plan P ops Q n I d (k + 1) i E :=
  Plan.turn ho hg hd hk hA (fun a w φ hI hs hs' hL hLA hfr hsh => by
    unfold wpOp
    simp only [ho, wantB_spec ho hsh (fun t _ f hf => hs t f hf) hg, if_true]
    refine .inl ?_
    unfold Oper.wp
    have e1 := hs' xf (by simp [hop, Op.operands, Call.operands]) _ hxf
    simp only [Fa.den] at e1
    have hrun : (execOp a.eval o).run P w = .ok (.enter f ((xs.map a.eval).toArray ++ caps.toArray)) w := by
      have hn : ¬ fn.name = "runtime.NumGoroutine" := by simpa using hname
      have hb : ¬ fn.body = none := by intro e; rw [e] at hbody; cases hbody
      simp [execOp, hop, resolve, invoke, callFunc, Deferred.ofValue, e1, hf, hb, hn]
    rw [hrun]
    simp only [Oper.upon]
    have hden := Opnds.dens (a := a) hI hx (fun x hxm f hf => hs' x (by simp [hop, Op.operands, Call.operands, hxm]) f hf)
    obtain ⟨G0, hG0, hG0s⟩ := hsp w _ hL.all
    obtain ⟨Gc, Gd, hG, hdis, hcH, hdH⟩ := hG0
    have hcc := hc w _ Gc (dens_caps hden) hcH
    rw [show (xs.map a.eval ++ caps).toArray = (xs.map a.eval).toArray ++ caps.toArray by simp] at hcc
    refine hcc.mono ?_
    rintro e w' ⟨v, x, rfl, hok, hK, hR, F', hF', hFb⟩
    have hdH' : D.holds w' Gd := D.keep hdH hK (fun b hb hc => hdis b hc hb)
    obtain ⟨G2, hG2, hG2s⟩ := hjn x w' (fun b => F' b ∨ Gd b) ⟨F', Gd, fun b => Iff.rfl, fun b hb hb2 => by
      rcases hFb b hb with h1 | h1
      · exact hdis b h1 hb2
      · have := D.lt w Gd b hdH hb2; omega, hF', hdH'⟩
    obtain ⟨φ', hL', hφ'⟩ := Lies.ofAll hG2
    have hin : ∀ b, Gc b ∨ Gd b → A b := fun b hb => by
      obtain ⟨q, hq⟩ := hG0s b ((hG b).2 hb)
      exact hLA q b hq
    refine ⟨v, R x, H' x, φ', rfl, hK.mono (fun b _ hb => hin b (.inl hb)), hL', fun q b hb => ?_, hR, h x hok⟩
    rcases hG2s b (hφ' q b hb) with h1 | h1
    · rcases hFb b h1 with h2 | h2
      · exact hin b (.inl h2)
      · exact hfr b h2
    · exact hin b (.inr h1)) hq
/-- What a chunk tells. -/
theorem J.tellC {c : Code} {ch : Chunk} {q : Nat} {p : Prop} (hk : look E key = some (heap A H)) (hqH : H[q]? = some ch) (hp : ∀ w F, ch.holds w F → p) (h : p → J P n I c Q E) : J P n I c Q E := fun a w h1 h2 h3 => by
  obtain ⟨φ, hL, _⟩ := h3 key _ hk
  exact h (hp w _ (hL.holds q _ hqH)) a w h1 h2 h3
end
/-- A chunk's row returned as the caller's own. -/
theorem Nrm.retRow {P : Program} {n : Nat} {E : Env} {H : List Chunk} {key : Nat} {fn : Func} {w0 : World} {t q e sz m cap : Nat} {B : Option Addr} {cs : List Value} (hr : fn.results = #[.tmp t]) (hl : look E t = some (.ex (.slice B m cap)))
    (hk : look E key = some (heap (fun b => w0.heap.size ≤ b) H)) (hq : H[q]? = some (rowC e sz B m cap cs)) :
    Nrm n (fun w => Below w0.heap.size w0 w) (FnPost P fn (fun B => Free.own B e sz cs) w0 .ret) E := fun a w hi h2 h3 => by
  obtain ⟨φ, hL, hA⟩ := h3 key _ hk
  have hv := h3 t _ hl
  simp only [Fa.den] at hv
  refine ⟨h2.defers, _, results_tmp hr _ _ _, hi, fun B0 hB => ?_⟩
  show ownH B0 e sz cs w (a.slot t)
  rw [hv]
  obtain ⟨hh, hF⟩ := hL.holds q _ hq
  have hi2 : Below w0.heap.size w0 w := hi
  refine ⟨Nat.le_trans hB hi2.size, m, hh.1, ?_⟩
  rcases hh.2 with h0 | ⟨g, cp, cur, hv, hb, r⟩
  · exact .inl h0
  · refine .inr ⟨g, cp, cur, hv, ?_, r⟩
    have := hA q g ((hF g).2 (by rw [hv]; rfl))
    omega
/-- Where a row with something in it lies. -/
theorem row_at {e sz m cap : Nat} {B : Option Addr} {xs : List Value} (h : 0 < xs.length) : ∀ w F, (rowC e sz B m cap xs).holds w F → ∃ g, B = some ⟨g, 0, none⟩ := fun w F hh => by
  obtain ⟨h1, _, _, h4, h5⟩ := row_room hh
  cases B with
  | none => rw [(h4 rfl).1] at h1; omega
  | some ad => exact ⟨ad.block, by rw [← h5 ad rfl]⟩
theorem row_len {e sz m cap : Nat} {B : Option Addr} {xs : List Value} : ∀ w F, (rowC e sz B m cap xs).holds w F → xs.length = m * sz := fun w F hh => (row_room hh).1
/-- One chunk of a list taken out, and laid back. -/
theorem Ent.takeOut {L : List Chunk} {j : Nat} {c : Chunk} (h : L[j]? = some c) : Ent (allC L) (sepC c (allC (L.eraseIdx j))) := by
  induction L generalizing j with
  | nil => cases h
  | cons x r ih =>
    cases j with
    | zero => simp only [List.getElem?_cons_zero, Option.some.injEq] at h; subst h; exact Ent.refl _
    | succ j =>
      simp only [List.getElem?_cons_succ] at h
      exact (Ent.sep (Ent.refl x) (ih h)).trans Ent.swap
theorem Ent.layBack {L : List Chunk} {j : Nat} {c : Chunk} (h : j < L.length) : Ent (sepC c (allC (L.eraseIdx j))) (allC (L.set j c)) := by
  induction L generalizing j with
  | nil => simp at h
  | cons x r ih =>
    cases j with
    | zero => exact Ent.refl _
    | succ j =>
      simp only [List.length_cons, Nat.add_lt_add_iff_right] at h
      exact Ent.swap.trans (Ent.sep (Ent.refl x) (ih h))
end Go.Free
end

section
set_option linter.unusedSimpArgs false
set_option linter.unusedVariables false
set_option maxRecDepth 20000
namespace Go.Proofs.Ytfglecmimoeinaa
open Go.Free Go.RowKit Go.Proofs
set_option maxHeartbeats 2000000

theorem later_cmp (b a : EvV) : decide (firstN [cmp3 b.time a.time, cmp3 b.r a.r, cmp3 b.n a.n] > 0) = later b a := by
  unfold later
  apply decide_eq_decide.2
  simp only [firstN, cmp3]
  repeat' split
  all_goals omega
theorem later_fn (b a : EvV) : Spc Try.prog 33 [.ex (aggE b), .ex (aggE a)] fun _ => .ex (.bool (later b a)) := by
  refine Spc.intro Try.func33 rfl (Nat.le_of_ble_eq_true rfl) fun w0 => ?_
  have hI := hIb w0
  have hA := Own.below w0
  refine J.heap0 1000 (newB w0) ?_
  repeat (refine J.seq (J.region mixed hI (by kernel_rfl) ?_))
  refine Plan.boxC (key := 1000) rfl rfl rfl (by intro _ e; cases e; decide) rfl rfl hA fun β => ?_
  refine Plan.boxC (key := 1000) rfl rfl rfl (by intro _ e; cases e; decide) rfl rfl hA fun γ => ?_
  repeat (first | refine Plan.assign rfl rfl rfl rfl ?_ | refine Plan.fieldC rfl rfl rfl rfl (by exact Try.underlying41) rfl (by kernel_rfl) (by exact (rfl : _ = 2)) ?_ | refine Plan.loadC (key := 1000) (q := 0) rfl rfl rfl rfl rfl rfl (obj_reads1 rfl) (by exact Try.underlying3) (by rfl) (by decide) ?_ | refine Plan.loadC (key := 1000) (q := 1) rfl rfl rfl rfl rfl rfl (obj_reads1 rfl) (by exact Try.underlying3) (by rfl) (by decide) ?_ | refine J.seq (J.region mixed hI (by kernel_rfl) ?_))
  refine Plan.call (B := w0.heap.size) rfl rfl rfl (compare_fn b.time a.time) Try.func42 rfl rfl (hBb w0) (by repeat (first | exact Opnds.nil | refine Opnds.cons rfl (by exact Sub.refl _) ?_)) ?_
  repeat (first | refine Plan.fieldC rfl rfl rfl rfl (by first | exact Try.underlying41 | exact Try.underlying26) rfl (by kernel_rfl) (by exact (rfl : _ = 0)) ?_ | refine Plan.loadC (key := 1000) (q := 0) rfl rfl rfl rfl rfl rfl (obj_reads1 rfl) (by exact Try.underlying3) (by rfl) (by decide) ?_ | refine Plan.loadC (key := 1000) (q := 1) rfl rfl rfl rfl rfl rfl (obj_reads1 rfl) (by exact Try.underlying3) (by rfl) (by decide) ?_)
  refine Plan.call (B := w0.heap.size) rfl rfl rfl (compare_fn b.r a.r) Try.func42 rfl rfl (hBb w0) (by repeat (first | exact Opnds.nil | refine Opnds.cons rfl (by exact Sub.refl _) ?_)) ?_
  repeat (first | refine Plan.fieldC rfl rfl rfl rfl (by first | exact Try.underlying41 | exact Try.underlying26) rfl (by kernel_rfl) (by first | exact (rfl : _ = 0) | exact (rfl : _ = 1)) ?_ | refine Plan.loadC (key := 1000) (q := 0) rfl rfl rfl rfl rfl rfl (obj_reads1 rfl) (by exact Try.underlying3) (by rfl) (by decide) ?_ | refine Plan.loadC (key := 1000) (q := 1) rfl rfl rfl rfl rfl rfl (obj_reads1 rfl) (by exact Try.underlying3) (by rfl) (by decide) ?_)
  refine Plan.call (B := w0.heap.size) rfl rfl rfl (compare_fn b.n a.n) Try.func42 rfl rfl (hBb w0) (by repeat (first | exact Opnds.nil | refine Opnds.cons rfl (by exact Sub.refl _) ?_)) ?_
  refine Plan.lit (B := w0.heap.size) rfl rfl rfl eltI rfl (hBb w0) rfl (by simp [Value.cells]) (by decide) ?_
  refine Plan.call (B := w0.heap.size) rfl rfl rfl (or_fn [cmp3 b.time a.time, cmp3 b.r a.r, cmp3 b.n a.n] (by simp)) Try.func41 rfl rfl (hBb w0) (by repeat (first | exact Opnds.nil | refine Opnds.cons rfl (by exact Sub.own) ?_)) ?_
  repeat (first | refine Plan.assign rfl rfl rfl rfl ?_ | (refine Plan.ints rfl rfl rfl rfl rfl rfl ?_; (skip)))
  rw [later_cmp]
  exact J.ret (Nrm.ret1 rfl (fun _ h => h) rfl fun B _ => Sub.refl _)
theorem ref_Later (b a : EvV) : Spc Try.prog 19 [.ex (aggE b), .ex (aggE a)] fun _ => .ex (.bool (later b a)) := by
  refine Spc.intro Try.func19 rfl (Nat.le_of_ble_eq_true rfl) fun w0 => ?_
  have hI := hIb w0
  have hA := Own.below w0
  refine J.heap0 1000 (newB w0) ?_
  repeat (refine J.seq (J.region mixed hI (by kernel_rfl) ?_))
  refine Plan.boxC (key := 1000) rfl rfl rfl (by intro _ e; cases e; decide) rfl rfl hA fun β => ?_
  refine Plan.boxC (key := 1000) rfl rfl rfl (by intro _ e; cases e; decide) rfl rfl hA fun γ => ?_
  repeat (first | refine Plan.assign rfl rfl rfl rfl ?_ | (refine Plan.ints rfl rfl rfl rfl rfl rfl ?_; (skip)) | refine Plan.fieldC rfl rfl rfl rfl (by exact Try.underlying41) rfl (by kernel_rfl) (by exact (rfl : _ = 2)) ?_ | refine Plan.loadC (key := 1000) (q := 0) rfl rfl rfl rfl rfl rfl (obj_reads1 rfl) (by exact Try.underlying3) (by rfl) (by decide) ?_ | refine Plan.loadC (key := 1000) (q := 1) rfl rfl rfl rfl rfl rfl (obj_reads1 rfl) (by exact Try.underlying3) (by rfl) (by decide) ?_ | refine J.seq (J.seq (J.region mixed hI (by kernel_rfl) ?_)))
  refine J.condN rfl (fun h => ?_) (fun h => ?_)
  · repeat (first | refine Plan.assign rfl rfl rfl rfl ?_ | (refine Plan.ints rfl rfl rfl rfl rfl rfl ?_; (skip)) | refine Plan.fieldC rfl rfl rfl rfl (by exact Try.underlying41) rfl (by kernel_rfl) (by exact (rfl : _ = 2)) ?_ | refine Plan.loadC (key := 1000) (q := 0) rfl rfl rfl rfl rfl rfl (obj_reads1 rfl) (by exact Try.underlying3) (by rfl) (by decide) ?_ | refine Plan.loadC (key := 1000) (q := 1) rfl rfl rfl rfl rfl rfl (obj_reads1 rfl) (by exact Try.underlying3) (by rfl) (by decide) ?_ | refine J.seq (J.region mixed hI (by kernel_rfl) ?_))
    have e : decide (b.time > a.time) = later b a := by unfold later; apply decide_eq_decide.2; omega
    rw [e]
    exact J.ret (Nrm.ret1 rfl (fun _ h => h) rfl fun B _ => Sub.refl _)
  repeat (first | (refine Plan.ints rfl rfl rfl rfl rfl rfl ?_; (skip)) | refine Plan.fieldC rfl rfl rfl rfl (by first | exact Try.underlying41 | exact Try.underlying26) rfl (by kernel_rfl) (by exact (rfl : _ = 0)) ?_ | refine Plan.loadC (key := 1000) (q := 0) rfl rfl rfl rfl rfl rfl (obj_reads1 rfl) (by exact Try.underlying3) (by rfl) (by decide) ?_ | refine Plan.loadC (key := 1000) (q := 1) rfl rfl rfl rfl rfl rfl (obj_reads1 rfl) (by exact Try.underlying3) (by rfl) (by decide) ?_ | refine J.seq (J.seq (J.region mixed hI (by kernel_rfl) ?_)) | refine J.skip ?_)
  refine J.condN rfl (fun h2 => ?_) (fun h2 => ?_)
  · repeat (first | refine Plan.assign rfl rfl rfl rfl ?_ | (refine Plan.ints rfl rfl rfl rfl rfl rfl ?_; (skip)) | refine Plan.fieldC rfl rfl rfl rfl (by first | exact Try.underlying41 | exact Try.underlying26) rfl (by kernel_rfl) (by exact (rfl : _ = 0)) ?_ | refine Plan.loadC (key := 1000) (q := 0) rfl rfl rfl rfl rfl rfl (obj_reads1 rfl) (by exact Try.underlying3) (by rfl) (by decide) ?_ | refine Plan.loadC (key := 1000) (q := 1) rfl rfl rfl rfl rfl rfl (obj_reads1 rfl) (by exact Try.underlying3) (by rfl) (by decide) ?_ | refine J.seq (J.region mixed hI (by kernel_rfl) ?_))
    have e : decide (b.r > a.r) = later b a := by unfold later; apply decide_eq_decide.2; omega
    rw [e]
    exact J.ret (Nrm.ret1 rfl (fun _ h => h) rfl fun B _ => Sub.refl _)
  · repeat (first | refine Plan.assign rfl rfl rfl rfl ?_ | (refine Plan.ints rfl rfl rfl rfl rfl rfl ?_; (skip)) | refine Plan.fieldC rfl rfl rfl rfl (by first | exact Try.underlying41 | exact Try.underlying26) rfl (by kernel_rfl) (by first | exact (rfl : _ = 0) | exact (rfl : _ = 1)) ?_ | refine Plan.loadC (key := 1000) (q := 0) rfl rfl rfl rfl rfl rfl (obj_reads1 rfl) (by exact Try.underlying3) (by rfl) (by decide) ?_ | refine Plan.loadC (key := 1000) (q := 1) rfl rfl rfl rfl rfl rfl (obj_reads1 rfl) (by exact Try.underlying3) (by rfl) (by decide) ?_ | refine J.seq (J.region mixed hI (by kernel_rfl) ?_) | refine J.skip ?_)
    have e : decide (b.n > a.n) = later b a := by unfold later; apply decide_eq_decide.2; omega
    rw [e]
    exact J.ret (Nrm.ret1 rfl (fun _ h => h) rfl fun B _ => Sub.refl _)
end Go.Proofs.Ytfglecmimoeinaa
end

section
set_option linter.unusedSimpArgs false
set_option linter.unusedVariables false
set_option maxRecDepth 20000
namespace Go.Free.Sorts
/-- A strict order of all numbers. -/
structure Ord (R : Nat → Nat → Prop) : Prop where
  trans : ∀ {x y z}, R x y → R y z → R x z
  irr : ∀ x, ¬ R x x
  tot : ∀ {x y}, x ≠ y → R x y ∨ R y x
variable {R : Nat → Nat → Prop} {a m b : Nat} {f g h : Nat → Nat}
theorem Ord.not {x y : Nat} (o : Ord R) (hne : x ≠ y) (h : ¬ R x y) : R y x := (o.tot hne).resolve_left h
def SortedF (R : Nat → Nat → Prop) (a b : Nat) (f : Nat → Nat) : Prop := ∀ i j, a ≤ i → i < j → j < b → R (f i) (f j)
/-- g has in [a, b) just what f has there, and is f elsewhere. -/
structure Mix (a b : Nat) (f g : Nat → Nat) : Prop where
  out : ∀ i, i < a ∨ b ≤ i → g i = f i
  fro : ∀ i, a ≤ i → i < b → ∃ k, a ≤ k ∧ k < b ∧ g i = f k
  to : ∀ i, a ≤ i → i < b → ∃ k, a ≤ k ∧ k < b ∧ f i = g k
theorem Mix.refl (a b : Nat) (f : Nat → Nat) : Mix a b f f := ⟨fun _ _ => rfl, fun i h1 h2 => ⟨i, h1, h2, rfl⟩, fun i h1 h2 => ⟨i, h1, h2, rfl⟩⟩
theorem Mix.trans (h1 : Mix a b f g) (h2 : Mix a b g h) : Mix a b f h :=
  ⟨fun i hi => (h2.out i hi).trans (h1.out i hi),
   fun i p q => by obtain ⟨k, p1, q1, e⟩ := h2.fro i p q; obtain ⟨k2, p2, q2, e2⟩ := h1.fro k p1 q1; exact ⟨k2, p2, q2, e.trans e2⟩,
   fun i p q => by obtain ⟨k, p1, q1, e⟩ := h1.to i p q; obtain ⟨k2, p2, q2, e2⟩ := h2.to k p1 q1; exact ⟨k2, p2, q2, e.trans e2⟩⟩
theorem Mix.wide {a' b' : Nat} (h1 : Mix a b f g) (ha : a' ≤ a) (hb : b ≤ b') : Mix a' b' f g :=
  ⟨fun i hi => h1.out i (by omega),
   fun i p q => by
    by_cases hi : a ≤ i ∧ i < b
    · obtain ⟨k, p1, q1, e⟩ := h1.fro i hi.1 hi.2; exact ⟨k, by omega, by omega, e⟩
    · exact ⟨i, p, q, h1.out i (by omega)⟩,
   fun i p q => by
    by_cases hi : a ≤ i ∧ i < b
    · obtain ⟨k, p1, q1, e⟩ := h1.to i hi.1 hi.2; exact ⟨k, by omega, by omega, e⟩
    · exact ⟨i, p, q, (h1.out i (by omega)).symm⟩⟩
def swapF (f : Nat → Nat) (i j : Nat) : Nat → Nat := fun k => if k = i then f j else if k = j then f i else f k
theorem Mix.swap {i j : Nat} (h1 : a ≤ i) (h2 : i < b) (h3 : a ≤ j) (h4 : j < b) : Mix a b f (swapF f i j) := by
  refine ⟨fun k hk => ?_, fun k p q => ?_, fun k p q => ?_⟩
  · unfold swapF; rw [if_neg (by omega), if_neg (by omega)]
  · unfold swapF
    by_cases e1 : k = i
    · exact ⟨j, h3, h4, by rw [if_pos e1]⟩
    · by_cases e2 : k = j
      · exact ⟨i, h1, h2, by rw [if_neg e1, if_pos e2]⟩
      · exact ⟨k, p, q, by rw [if_neg e1, if_neg e2]⟩
  · by_cases e1 : k = i
    · refine ⟨j, h3, h4, ?_⟩
      unfold swapF
      by_cases e : j = i
      · rw [if_pos e, e1, e]
      · rw [if_neg e, if_pos rfl, e1]
    · by_cases e2 : k = j
      · exact ⟨i, h1, h2, by unfold swapF; rw [if_pos rfl, e2]⟩
      · exact ⟨k, p, q, by unfold swapF; rw [if_neg e1, if_neg e2]⟩
/-- The blocks [a, m) and [m, b) change places. -/
def rotF (f : Nat → Nat) (a m b : Nat) : Nat → Nat := fun k => if a ≤ k ∧ k < a + (b - m) then f (k + (m - a)) else if a + (b - m) ≤ k ∧ k < b then f (k - (b - m)) else f k
theorem rot_mix (h1 : a ≤ m) (h2 : m ≤ b) : Mix a b f (rotF f a m b) := by
  refine ⟨fun k hk => ?_, fun k p q => ?_, fun k p q => ?_⟩
  · unfold rotF; rw [if_neg (by omega), if_neg (by omega)]
  · unfold rotF
    by_cases e1 : k < a + (b - m)
    · exact ⟨k + (m - a), by omega, by omega, by rw [if_pos ⟨p, e1⟩]⟩
    · exact ⟨k - (b - m), by omega, by omega, by rw [if_neg (by omega), if_pos (by omega)]⟩
  · by_cases e1 : k < m
    · refine ⟨k + (b - m), by omega, by omega, ?_⟩
      unfold rotF; rw [if_neg (by omega), if_pos (by omega), Nat.add_sub_cancel]
    · refine ⟨k - (m - a), by omega, by omega, ?_⟩
      unfold rotF; rw [if_pos (by omega)]; congr 1; omega
/-- Blocks of n numbers from a and from b on change places. -/
def swpR (f : Nat → Nat) (a b n : Nat) : Nat → Nat := fun k => if a ≤ k ∧ k < a + n then f (b + (k - a)) else if b ≤ k ∧ k < b + n then f (a + (k - b)) else f k
theorem swpR_zero (f : Nat → Nat) (a b : Nat) : swpR f a b 0 = f := by
  funext k; unfold swpR
  (repeat' split) <;> first | rfl | (exfalso; omega) | (congr 1; omega)
theorem swpR_succ (f : Nat → Nat) {a b n : Nat} (h : a + n < b) : swapF (swpR f a b n) (a + n) (b + n) = swpR f a b (n + 1) := by
  funext k
  unfold swapF swpR
  (repeat' split) <;> first | rfl | (exfalso; omega) | (congr 1; omega)
theorem rot_left {i j : Nat} (hij : j < i) (hi : i ≤ m) : rotF (swpR f (m - i) m j) (m - i + j) m (m + j) = rotF f (m - i) m (m + j) := by
  funext k
  unfold rotF swpR
  (repeat' split) <;> first | rfl | (exfalso; omega) | (congr 1; omega)
theorem rot_right {i j : Nat} (hij : i < j) (hi : i ≤ m) : rotF (swpR f (m - i) (m + j - i) i) (m - i) m (m + j - i) = rotF f (m - i) m (m + j) := by
  funext k
  unfold rotF swpR
  (repeat' split) <;> first | rfl | (exfalso; omega) | (congr 1; omega)
theorem rot_same {i : Nat} (hi : i ≤ m) : swpR f (m - i) m i = rotF f (m - i) m (m + i) := by
  funext k
  unfold rotF swpR
  (repeat' split) <;> first | rfl | (exfalso; omega) | (congr 1; omega)
/-! ### One number laid among sorted ones -/
def shiftF (f : Nat → Nat) (a c : Nat) : Nat → Nat := fun k => if a ≤ k ∧ k < c then f (k + 1) else if k = c then f a else f k
def unshF (f : Nat → Nat) (c m : Nat) : Nat → Nat := fun k => if k = c then f m else if c < k ∧ k ≤ m then f (k - 1) else f k
theorem shift_zero (f : Nat → Nat) (a : Nat) : shiftF f a a = f := by
  funext k; unfold shiftF
  (repeat' split) <;> first | rfl | (exfalso; omega) | (congr 1; omega)
theorem shift_succ (f : Nat → Nat) {a c : Nat} (h : a ≤ c) : swapF (shiftF f a c) c (c + 1) = shiftF f a (c + 1) := by
  funext k; unfold swapF shiftF
  (repeat' split) <;> first | rfl | (exfalso; omega) | (congr 1; omega)
theorem shift_mix {c : Nat} (h1 : a ≤ c) (h2 : c < b) : Mix a b f (shiftF f a c) := by
  refine ⟨fun k hk => ?_, fun k p q => ?_, fun k p q => ?_⟩
  · unfold shiftF; rw [if_neg (by omega), if_neg (by omega)]
  · unfold shiftF
    by_cases e1 : k < c
    · exact ⟨k + 1, by omega, by omega, by rw [if_pos ⟨p, e1⟩]⟩
    · by_cases e2 : k = c
      · exact ⟨a, Nat.le_refl _, by omega, by rw [if_neg (by omega), if_pos e2]⟩
      · exact ⟨k, p, q, by rw [if_neg (by omega), if_neg e2]⟩
  · by_cases e1 : k = a
    · exact ⟨c, h1, h2, by unfold shiftF; rw [if_neg (by omega), if_pos rfl, e1]⟩
    · by_cases e2 : k ≤ c
      · refine ⟨k - 1, by omega, by omega, ?_⟩
        unfold shiftF; rw [if_pos (by omega)]; congr 1; omega
      · exact ⟨k, p, q, by unfold shiftF; rw [if_neg (by omega), if_neg (by omega)]⟩
theorem unsh_zero (f : Nat → Nat) (m : Nat) : unshF f m m = f := by
  funext k; unfold unshF
  (repeat' split) <;> first | rfl | (exfalso; omega) | (congr 1; omega)
theorem unsh_succ (f : Nat → Nat) {c m : Nat} (h : c < m) : swapF (unshF f (c + 1) m) (c + 1) c = unshF f c m := by
  funext k; unfold swapF unshF
  (repeat' split) <;> first | rfl | (exfalso; omega) | (congr 1; omega)
theorem unsh_mix {c : Nat} (h1 : a ≤ c) (h2 : c ≤ m) (h3 : m < b) : Mix a b f (unshF f c m) := by
  refine ⟨fun k hk => ?_, fun k p q => ?_, fun k p q => ?_⟩
  · unfold unshF; rw [if_neg (by omega), if_neg (by omega)]
  · unfold unshF
    by_cases e1 : k = c
    · exact ⟨m, by omega, h3, by rw [if_pos e1]⟩
    · by_cases e2 : c < k ∧ k ≤ m
      · exact ⟨k - 1, by omega, by omega, by rw [if_neg e1, if_pos e2]⟩
      · exact ⟨k, p, q, by rw [if_neg e1, if_neg e2]⟩
  · by_cases e1 : k = m
    · exact ⟨c, h1, by omega, by unfold unshF; rw [if_pos rfl, e1]⟩
    · by_cases e2 : c ≤ k ∧ k < m
      · exact ⟨k + 1, by omega, by omega, by unfold unshF; rw [if_neg (by omega), if_pos (by omega), Nat.add_sub_cancel]⟩
      · exact ⟨k, p, q, by unfold unshF; rw [if_neg (by omega), if_neg (by omega)]⟩
theorem unsh_sorted {c : Nat} (hs : SortedF R a m f) (h2 : c ≤ m) (hl : ∀ k, a ≤ k → k < c → R (f k) (f m)) (hr : ∀ k, c ≤ k → k < m → R (f m) (f k)) (hac : a ≤ c) : SortedF R a (m + 1) (unshF f c m) := by
  intro i j p q r
  unfold unshF
  by_cases e1 : i = c
  · subst e1
    rw [if_pos rfl, if_neg (by omega), if_pos (by omega)]
    exact hr (j - 1) (by omega) (by omega)
  rw [if_neg e1]
  by_cases e2 : c < i ∧ i ≤ m
  · rw [if_pos e2, if_neg (by omega), if_pos (by omega)]
    exact hs (i - 1) (j - 1) (by omega) (by omega) (by omega)
  rw [if_neg e2]
  by_cases e3 : j = c
  · rw [if_pos e3]; exact hl i p (by omega)
  rw [if_neg e3]
  by_cases e4 : c < j ∧ j ≤ m
  · rw [if_pos e4]
    by_cases e5 : i = j - 1
    · omega
    · exact hs i (j - 1) p (by omega) (by omega)
  · rw [if_neg e4]; exact hs i j p q (by omega)
theorem shift_sorted {c : Nat} (hs : SortedF R (a + 1) b f) (h2 : c < b) (hl : ∀ k, a < k → k ≤ c → R (f k) (f a)) (hr : ∀ k, c < k → k < b → R (f a) (f k)) (hac : a ≤ c) : SortedF R a b (shiftF f a c) := by
  intro i j p q r
  unfold shiftF
  by_cases e1 : i < c
  · rw [if_pos ⟨p, e1⟩]
    by_cases e2 : j < c
    · rw [if_pos (by omega)]; exact hs (i + 1) (j + 1) (by omega) (by omega) (by omega)
    · rw [if_neg (by omega)]
      by_cases e3 : j = c
      · rw [if_pos e3]; exact hl (i + 1) (by omega) (by omega)
      · rw [if_neg e3]; exact hs (i + 1) j (by omega) (by omega) r
  · rw [if_neg (by omega), if_neg (show ¬ (a ≤ j ∧ j < c) by omega), if_neg (show ¬ j = c by omega)]
    by_cases e3 : i = c
    · rw [if_pos e3]; exact hr j (by omega) r
    · rw [if_neg e3]; exact hs i j (by omega) q r
/-! ### Merging -/
/-- What stands left of m came earlier than what stands from m on. -/
def Apart2 (a m b : Nat) (f : Nat → Nat) : Prop := ∀ i j, a ≤ i → i < m → m ≤ j → j < b → f i < f j
theorem sorted_le (o : Ord R) (hs : SortedF R a b f) {i j x : Nat} (h1 : a ≤ i) (h2 : i ≤ j) (h3 : j < b) (hr : R (f j) x) : R (f i) x := by
  rcases Nat.lt_or_ge i j with h | h
  · exact o.trans (hs i j h1 h h3) hr
  · have : i = j := by omega
    rw [this]; exact hr
theorem sorted_ge (o : Ord R) (hs : SortedF R a b f) {i j x : Nat} (h1 : a ≤ i) (h2 : i ≤ j) (h3 : j < b) (hr : R x (f i)) : R x (f j) := by
  rcases Nat.lt_or_ge i j with h | h
  · exact o.trans hr (hs i j h1 h h3)
  · have : i = j := by omega
    rw [← this]; exact hr
/-- Where the merge splits: what it leaves. -/
structure SplitM (R : Nat → Nat → Prop) (a s m e b mid : Nat) (g : Nat → Nat) : Prop where
  s1 : SortedF R a s g
  s2 : SortedF R s mid g
  s3 : SortedF R mid e g
  s4 : SortedF R e b g
  a1 : Apart2 a s mid g
  a2 : Apart2 mid e b g
  cross : ∀ i j, a ≤ i → i < mid → mid ≤ j → j < b → R (g i) (g j)
theorem merge_split (o : Ord R) {s e mid lo hi : Nat} (hs1 : SortedF R a m f) (hs2 : SortedF R m b f) (hap : Apart2 a m b f) (hm1 : a < m) (hm2 : m < b) (hmid : 2 * mid ≤ a + b ∧ a + b ≤ 2 * mid + 1)
    (hlo : (mid < m ∧ lo + b = mid + m ∧ hi = mid) ∨ (m ≤ mid ∧ lo = a ∧ hi = m)) (ha : a ≤ lo) (h1 : lo ≤ s) (h2 : s ≤ hi) (he : e + s = mid + m)
    (hn : ∀ c, lo ≤ c → c < s → ¬ R (f (mid + m - 1 - c)) (f c)) (hp : ∀ c, s ≤ c → c < hi → R (f (mid + m - 1 - c)) (f c)) : SplitM R a s m e b mid (rotF f s m e) := by
  have g1 : ∀ k, a ≤ k → k < s → rotF f s m e k = f k := fun k p q => by unfold rotF; rw [if_neg (by omega), if_neg (by omega)]
  have g2 : ∀ k, s ≤ k → k < mid → rotF f s m e k = f (k + (m - s)) := fun k p q => by unfold rotF; rw [if_pos (by omega)]
  have g3 : ∀ k, mid ≤ k → k < e → rotF f s m e k = f (k - (e - m)) := fun k p q => by unfold rotF; rw [if_neg (by omega), if_pos (by omega)]
  have g4 : ∀ k, e ≤ k → k < b → rotF f s m e k = f k := fun k p q => by unfold rotF; rw [if_neg (by omega), if_neg (by omega)]
  refine ⟨fun i j p q r => ?_, fun i j p q r => ?_, fun i j p q r => ?_, fun i j p q r => ?_, fun i j p q r t => ?_, fun i j p q r t => ?_, fun i j p q r t => ?_⟩
  · rw [g1 i p (by omega), g1 j (by omega) r]; exact hs1 i j p q (by omega)
  · rw [g2 i p (by omega), g2 j (by omega) r]; exact hs2 _ _ (by omega) (by omega) (by omega)
  · rw [g3 i p (by omega), g3 j (by omega) r]; exact hs1 _ _ (by omega) (by omega) (by omega)
  · rw [g4 i p (by omega), g4 j (by omega) r]; exact hs2 i j (by omega) q r
  · rw [g1 i p q, g2 j r t]; exact hap _ _ p (by omega) (by omega) (by omega)
  · rw [g3 i p q, g4 j r t]; exact hap _ _ (by omega) (by omega) (by omega) t
  · by_cases c1 : i < s
    · rw [g1 i p c1]
      by_cases c2 : j < e
      · rw [g3 j r c2]; exact hs1 _ _ p (by omega) (by omega)
      · rw [g4 j (by omega) t]
        have hc := hn (s - 1) (by omega) (by omega)
        have hx : mid + m - 1 - (s - 1) = e := by omega
        rw [hx] at hc
        have hlt := hap (s - 1) e (by omega) (by omega) (by omega) (by omega)
        have hr := o.not (by omega) hc
        exact sorted_le o hs1 p (by omega) (by omega) (sorted_ge o hs2 (by omega) (by omega) t hr)
    · rw [g2 i (by omega) q]
      by_cases c2 : j < e
      · rw [g3 j r c2]
        have hc := hp s (Nat.le_refl _) (by omega)
        have hx : mid + m - 1 - s = e - 1 := by omega
        rw [hx] at hc
        exact sorted_le o hs2 (j := e - 1) (by omega) (by omega) (by omega) (sorted_ge o hs1 (i := s) (by omega) (by omega) (by omega) hc)
      · rw [g4 j (by omega) t]; exact hs2 _ _ (by omega) (by omega) t
theorem merge_join {mid : Nat} (h1 : SortedF R a mid f) (h2 : SortedF R mid b f) (hc : ∀ i j, a ≤ i → i < mid → mid ≤ j → j < b → R (f i) (f j)) : SortedF R a b f := fun i j p q r => by
  by_cases c1 : j < mid
  · exact h1 i j p q c1
  · by_cases c2 : i < mid
    · exact hc i j p c2 (by omega) r
    · exact h2 i j (by omega) q r
theorem cross_left {mid : Nat} (hm : Mix a mid f g) (hc : ∀ i j, a ≤ i → i < mid → mid ≤ j → j < b → R (f i) (f j)) : ∀ i j, a ≤ i → i < mid → mid ≤ j → j < b → R (g i) (g j) := fun i j p q r t => by
  obtain ⟨k, k1, k2, e⟩ := hm.fro i p q
  rw [e, hm.out j (by omega)]
  exact hc k j k1 k2 r t
theorem cross_right {mid : Nat} (hm : Mix mid b f g) (hc : ∀ i j, a ≤ i → i < mid → mid ≤ j → j < b → R (f i) (f j)) : ∀ i j, a ≤ i → i < mid → mid ≤ j → j < b → R (g i) (g j) := fun i j p q r t => by
  obtain ⟨k, k1, k2, e⟩ := hm.fro j r t
  rw [e, hm.out i (by omega)]
  exact hc i k p q k1 k2
theorem sorted_out {lo hi : Nat} (hm : Mix lo hi f g) (h : SortedF R a b f) (hd : b ≤ lo ∨ hi ≤ a) : SortedF R a b g := fun i j p q r => by
  rw [hm.out i (by omega), hm.out j (by omega)]; exact h i j p q r
theorem apart_out {lo hi : Nat} (hm : Mix lo hi f g) (h : Apart2 a m b f) (hd : b ≤ lo ∨ hi ≤ a) : Apart2 a m b g := fun i j p q r t => by
  rw [hm.out i (by omega), hm.out j (by omega)]; exact h i j p q r t
theorem apart_mix (h1 : Mix a m f g) (h : Apart2 a m b f) : Apart2 a m b g := fun i j p q r t => by
  obtain ⟨k, k1, k2, e⟩ := h1.fro i p q
  rw [e, h1.out j (by omega)]; exact h k j k1 k2 r t
theorem apart_mix2 (h1 : Mix m b f g) (h : Apart2 a m b f) : Apart2 a m b g := fun i j p q r t => by
  obtain ⟨k, k1, k2, e⟩ := h1.fro j r t
  rw [e, h1.out i (by omega)]; exact h i k p q k1 k2
end Go.Free.Sorts
end

section
set_option linter.unusedSimpArgs false
set_option linter.unusedVariables false
set_option maxRecDepth 20000
namespace Go.Proofs.Ytfglecmimoeinaa
open Go.Free Go.RowKit Go.Proofs Go.Free.Sorts
/-- The nodes of a key. -/
def nodesM (key : List UInt8) (L : List EvV) : List EvV := L.filter fun e => decide (e.kind = 9 ∧ e.key = key)
def hangs (e o : EvV) : Bool := decide (o.r = e.rr ∧ o.n = e.rn) && later e o
def parM (n : List EvV) (e : EvV) : Option Nat := if e.rr = 0 ∧ e.rn = 0 then none else n.findIdx? (hangs e)
def kidsM (n : List EvV) (p : Option Nat) : List Nat := (List.range n.length).filter fun i => decide (parM n (n.getD i ev0) = p)
def ltE (a b : EvV) : Prop := a.time < b.time ∨ (a.time = b.time ∧ (a.r < b.r ∨ (a.r = b.r ∧ a.n < b.n)))
theorem later_iff {a b : EvV} : later b a = true ↔ ltE a b := by unfold later ltE; exact decide_eq_true_iff
theorem ltE_trans {a b c : EvV} (h1 : ltE a b) (h2 : ltE b c) : ltE a c := by unfold ltE at *; omega
theorem ltE_irr (a : EvV) : ¬ ltE a a := by unfold ltE; omega
theorem ltE_step {a b c : EvV} (h1 : ltE a b) (h2 : ¬ ltE c b) : ltE a c := by unfold ltE at *; omega
theorem ltE_step2 {a b c : EvV} (h1 : ¬ ltE b a) (h2 : ltE b c) : ltE a c := by unfold ltE at *; omega
/-- What stands ahead among what hangs on one node: the later one; of two that are not, the one that came first. -/
def ahead (n : List EvV) (i j : Nat) : Prop := ltE (n.getD j ev0) (n.getD i ev0) ∨ (¬ ltE (n.getD i ev0) (n.getD j ev0) ∧ i < j)
theorem ahead_ord (n : List EvV) : Ord (ahead n) := by
  refine ⟨fun {x y z} h1 h2 => ?_, fun x h => ?_, fun {x y} h => ?_⟩
  · unfold ahead ltE at *; omega
  · unfold ahead ltE at *; omega
  · unfold ahead ltE; omega
instance ltE_dec (a b : EvV) : Decidable (ltE a b) := by unfold ltE; infer_instance
instance ahead_dec (n : List EvV) (i j : Nat) : Decidable (ahead n i j) := by unfold ahead; infer_instance
/-- Two lists in one strict order that have the same numbers are one. -/
theorem order_one {R : Nat → Nat → Prop} (o : Ord R) : ∀ {l m : List Nat}, l.Pairwise R → m.Pairwise R → (∀ v, v ∈ l ↔ v ∈ m) → l = m
  | [], [], _, _, _ => rfl
  | [], y :: m, _, _, h => absurd ((h y).2 List.mem_cons_self) (by simp)
  | x :: l, [], _, _, h => absurd ((h x).1 List.mem_cons_self) (by simp)
  | x :: l, y :: m, hl, hm, h => by
    obtain ⟨h1, h2⟩ := List.pairwise_cons.1 hl
    obtain ⟨h3, h4⟩ := List.pairwise_cons.1 hm
    have hxy : x = y := by
      rcases List.mem_cons.1 ((h x).1 List.mem_cons_self) with e | hx
      · exact e
      · rcases List.mem_cons.1 ((h y).2 List.mem_cons_self) with e | hy
        · exact e.symm
        · exact absurd (o.trans (h1 y hy) (h3 x hx)) (o.irr x)
    subst hxy
    have hx1 : x ∉ l := fun hx => o.irr x (h1 x hx)
    have hx2 : x ∉ m := fun hx => o.irr x (h3 x hx)
    congr 1
    refine order_one o h2 h4 fun v => ?_
    have hv := h v
    rw [List.mem_cons, List.mem_cons] at hv
    constructor
    · intro hvl
      rcases hv.1 (.inr hvl) with e | hvm
      · exact absurd (e ▸ hvl) hx1
      · exact hvm
    · intro hvm
      rcases hv.2 (.inr hvm) with e | hvl
      · exact absurd (e ▸ hvm) hx2
      · exact hvl
/-- Numbers in the order in which they stand. -/
def sortK (n : List EvV) (xs : List Nat) : List Nat := xs.mergeSort fun i j => decide (¬ ahead n j i)
theorem sortK_mem (n : List EvV) (xs : List Nat) (v : Nat) : v ∈ sortK n xs ↔ v ∈ xs := (List.mergeSort_perm xs _).mem_iff
theorem sortK_sorted (n : List EvV) (xs : List Nat) (h : xs.Nodup) : (sortK n xs).Pairwise (ahead n) := by
  have o := ahead_ord n
  have h1 : (sortK n xs).Pairwise fun i j => decide (¬ ahead n j i) = true := List.pairwise_mergeSort (le := fun i j => decide (¬ ahead n j i))
    (fun a b c h1 h2 => by
      simp only [decide_eq_true_eq] at h1 h2 ⊢
      intro h3
      by_cases hab : a = b
      · subst hab; exact h2 h3
      · exact h2 (o.trans h3 (o.not (Ne.symm hab) h1)))
    (fun a b => by
      simp only [Bool.or_eq_true, decide_eq_true_eq]
      by_cases h : ahead n b a
      · exact .inr fun h2 => o.irr _ (o.trans h h2)
      · exact .inl h) xs
  have h2 : (sortK n xs).Nodup := (List.mergeSort_perm xs _).nodup_iff.2 h
  refine (h1.and h2).imp fun {a b} ⟨p, q⟩ => ?_
  simp only [decide_eq_true_eq] at p
  exact o.not (Ne.symm q) p
theorem sortK_one {n : List EvV} {xs ys : List Nat} (hx : xs.Nodup) (hs : ys.Pairwise (ahead n)) (hm : ∀ v, v ∈ ys ↔ v ∈ xs) : ys = sortK n xs :=
  order_one (ahead_ord n) hs (sortK_sorted n xs hx) fun v => (hm v).trans (sortK_mem n xs v).symm
/-- What hangs on a node, each with what hangs on it behind it; so deep at most. -/
def undM (n : List EvV) : Nat → Option Nat → List Nat
  | 0, _ => []
  | k + 1, p => (sortK n (kidsM n p)).flatMap fun i => i :: undM n k (some i)
/-- How many nodes are later than a node. -/
def above (n : List EvV) (p : Option Nat) (j : Nat) : Bool := match p with
  | none => true
  | some i => decide (ltE (n.getD i ev0) (n.getD j ev0))
def mu (n : List EvV) (p : Option Nat) : Nat := ((List.range n.length).filter (above n p)).length
theorem filter_less {α : Type} {p q : α → Bool} : ∀ {l : List α} {x : α}, (∀ y ∈ l, p y = true → q y = true) → x ∈ l → p x = false → q x = true → (l.filter p).length < (l.filter q).length
  | y :: l, x, hpq, hx, hp, hq => by
    have hle : ∀ {l : List α}, (∀ y ∈ l, p y = true → q y = true) → (l.filter p).length ≤ (l.filter q).length := fun {l} h => by
      induction l with
      | nil => simp
      | cons z l ih =>
        have h1 := ih fun y hy => h y (List.mem_cons_of_mem _ hy)
        have h2 := h z List.mem_cons_self
        simp only [List.filter_cons]
        cases hz : p z with
        | true => rw [h2 hz]; simpa using h1
        | false =>
          simp only [Bool.false_eq_true, if_false]
          split
          · simp; omega
          · exact h1
    have h1 : ∀ y ∈ l, p y = true → q y = true := fun z hz => hpq z (List.mem_cons_of_mem _ hz)
    simp only [List.filter_cons]
    rcases List.mem_cons.1 hx with rfl | hx
    · rw [hp, hq]
      have := hle h1
      simp; omega
    · have ih := filter_less h1 hx hp hq
      have h2 := hpq y List.mem_cons_self
      cases hy : p y with
      | true => rw [h2 hy]; simpa using ih
      | false =>
        simp only [Bool.false_eq_true, if_false]
        split
        · simp; omega
        · exact ih
theorem kids_mem {n : List EvV} {p : Option Nat} {i : Nat} : i ∈ kidsM n p ↔ i < n.length ∧ parM n (n.getD i ev0) = p := by
  unfold kidsM; rw [List.mem_filter, List.mem_range, decide_eq_true_eq]
theorem par_later {n : List EvV} {e : EvV} {k : Nat} (h : parM n e = some k) : k < n.length ∧ ltE (n.getD k ev0) e := by
  unfold parM at h
  split at h
  · cases h
  · rw [List.findIdx?_eq_some_iff_getElem] at h
    obtain ⟨hk, h1, _⟩ := h
    refine ⟨hk, ?_⟩
    unfold hangs at h1
    rw [Bool.and_eq_true] at h1
    have h2 := later_iff.1 h1.2
    rw [List.getD_eq_getElem?_getD, List.getElem?_eq_getElem hk]
    exact h2
theorem mu_kid {n : List EvV} {p : Option Nat} {i : Nat} (h : i ∈ kidsM n p) : mu n (some i) < mu n p := by
  obtain ⟨hi, hp⟩ := kids_mem.1 h
  refine filter_less (x := i) (fun y _ hy => ?_) (List.mem_range.2 hi) (decide_eq_false (ltE_irr _)) ?_
  · cases p with
    | none => rfl
    | some k =>
      simp only [above, decide_eq_true_eq] at hy ⊢
      exact ltE_trans (par_later hp).2 hy
  · cases p with
    | none => rfl
    | some k => exact decide_eq_true (par_later hp).2
theorem und_enough {n : List EvV} : ∀ (k k' : Nat) (p : Option Nat), mu n p < k → mu n p < k' → undM n k p = undM n k' p
  | 0, _, _, h, _ => by omega
  | _, 0, _, _, h => by omega
  | k + 1, k' + 1, p, h1, h2 => by
    have : ∀ i ∈ sortK n (kidsM n p), (fun i => i :: undM n k (some i)) i = (fun i => i :: undM n k' (some i)) i := fun i hi => by
      have hm := mu_kid ((sortK_mem n _ i).1 hi)
      show i :: _ = i :: _
      rw [und_enough k k' (some i) (by omega) (by omega)]
    show List.flatMap _ _ = List.flatMap _ _
    unfold List.flatMap
    rw [List.map_congr_left this]
theorem mu_le (n : List EvV) (p : Option Nat) : mu n p ≤ n.length := by
  unfold mu
  have := List.length_filter_le (above n p) (List.range n.length)
  rw [List.length_range] at this; exact this
def orderM (key : List UInt8) (L : List EvV) : List EvV :=
  (undM (nodesM key L) ((nodesM key L).length + 1) none).map fun i => (nodesM key L).getD i ev0
end Go.Proofs.Ytfglecmimoeinaa
end

section
set_option linter.unusedSimpArgs false
set_option linter.unusedVariables false
set_option maxRecDepth 20000
namespace Go.Free.Sorts
def intsF (f : Nat → Nat) (n : Nat) : List Value := (List.range n).map fun k => .int .i64 (f k)
theorem ints_len (f : Nat → Nat) (n : Nat) : (intsF f n).length = n := by simp [intsF]
theorem ints_get {f : Nat → Nat} {n i : Nat} (h : i < n) : (intsF f n)[i]? = some (.int .i64 (f i)) := by simp [intsF, h]
theorem ints_one (f : Nat → Nat) (n : Nat) : ∀ u ∈ intsF f n, u.oneCell' = true := fun u hu => by
  obtain ⟨k, _, rfl⟩ := List.mem_map.1 hu; rfl
theorem ints_set {f : Nat → Nat} {n i v : Nat} (h : i < n) : (intsF f n).set i (.int .i64 v) = intsF (fun k => if k = i then v else f k) n := by
  apply List.ext_getElem?
  intro j
  rw [List.getElem?_set]
  by_cases hj : j < n
  · by_cases hij : i = j
    · subst hij
      rw [if_pos rfl, if_pos (by rw [ints_len]; exact h), ints_get h, if_pos rfl]
    · rw [if_neg hij, ints_get hj, ints_get hj, if_neg (fun e => hij e.symm)]
  · rw [if_neg (by omega), List.getElem?_eq_none (by rw [ints_len]; omega), List.getElem?_eq_none (by rw [ints_len]; omega)]
theorem ints_swap {f : Nat → Nat} {n i j : Nat} (hi : i < n) (hj : j < n) (h : i ≠ j) : ((intsF f n).set i (.int .i64 (f j))).set j (.int .i64 (f i)) = intsF (swapF f i j) n := by
  rw [ints_set hi, ints_set hj]
  congr 1
  funext k
  unfold swapF
  (repeat' split) <;> first | rfl | (exfalso; omega)
theorem ints_congr {f g : Nat → Nat} {n : Nat} (h : ∀ i, i < n → f i = g i) : intsF f n = intsF g n := by
  unfold intsF
  exact List.map_congr_left fun k hk => by rw [h k (List.mem_range.1 hk)]
end Go.Free.Sorts
end

section
set_option linter.unusedSimpArgs false
set_option linter.unusedVariables false
set_option maxRecDepth 20000
namespace Go.Free
open Go.RowKit
/-- I, and object β has the cells cs. -/
def framed (I : World → Prop) (β : Nat) (cs : List Value) (w : World) : Prop := I w ∧ ∃ e, w.heap[β]? = some (.cells cs.toArray e (0, 0))
theorem framed_I {I : World → Prop} {β : Nat} {cs : List Value} (hI : ∀ w w', I w → Below w.heap.size w w' → I w') : ∀ w w', framed I β cs w → Below w.heap.size w w' → framed I β cs w' := fun w w' ⟨h1, e, h2⟩ hb =>
  ⟨hI w w' h1 hb, e, by rw [hb.block β (Array.getElem?_eq_some_iff.1 h2).1]; exact h2⟩
theorem framed_own {I : World → Prop} {A : Nat → Prop} {β : Nat} {cs : List Value} (hA : Own I A) : Own (framed I β cs) (fun b => A b ∧ b ≠ β) :=
  ⟨fun w ⟨h1, e, h2⟩ b hb => ⟨hA.fresh w h1 b hb, fun hbe => by have := (Array.getElem?_eq_some_iff.1 h2).1; omega⟩,
   fun w w' ⟨h1, e, h2⟩ hk => ⟨hA.turn w w' h1 (hk.mono fun b _ hb => hb.1), e, by rw [hk.block β (Array.getElem?_eq_some_iff.1 h2).1 (fun hb => hb.2 rfl)]; exact h2⟩⟩
theorem framed_cell {I : World → Prop} {β off : Nat} {cs us : List Value} (h : (cs.drop off).take us.length = us) : ∀ w, framed I β cs w → ∀ j u, us[j]? = some u → w.cell? ⟨β, off + j, none⟩ = some u := fun w ⟨_, e, hh⟩ j u hu => by
  simp only [World.cell?, hh, Option.isSome_none, Bool.false_eq_true, if_false, List.getElem?_toArray]
  have hj : j < us.length := (List.getElem?_eq_some_iff.1 hu).1
  rw [← h, List.getElem?_take, if_pos hj, List.getElem?_drop] at hu
  exact hu
theorem framed_cell1 {I : World → Prop} {β off : Nat} {cs : List Value} {u : Value} (h : cs[off]? = some u) : ∀ w, framed I β cs w → ∀ j u', [u][j]? = some u' → w.cell? ⟨β, off + j, none⟩ = some u' := framed_cell (by
  obtain ⟨hl, rfl⟩ := List.getElem?_eq_some_iff.1 h
  rw [List.length_singleton, List.drop_eq_getElem_cons hl]; rfl)
section
variable {P : Program} {ops : Array Oper} {Q : Exit → Act → World → Prop} {n : Nat} {I : World → Prop} {k i : Nat} {E : Env} {o : Oper} {d : Bool} {A : Nat → Prop} {H : List Chunk} {key : Nat}
theorem J.frame {c : Code} {β : Nat} {cs : List Value} (q : Nat) (hk : look E key = some (heap A H)) (hq : H[q]? = some (obj β cs)) (h : A β → J P n (framed I β cs) c Q ((key, heap (fun b => A b ∧ b ≠ β) (H.eraseIdx q)) :: E)) : J P n I c Q E := fun a w h1 h2 h3 => by
  obtain ⟨φ, hL, hLA⟩ := h3 key _ hk
  have hob := hL.holds q _ hq
  obtain ⟨⟨e, hh⟩, hF⟩ := hob
  have hqβ : φ q β := (hF β).2 rfl
  have hne : ∀ p b, p ≠ q → φ p b → b ≠ β := fun p b hp hb he => by subst he; exact hp (hL.apart p q _ hb hqβ)
  refine h (hLA q β hqβ) a w ⟨h1, e, hh⟩ h2 (heap_put h3 (φ := fun p b => φ (if p < q then p else p + 1) b) ⟨fun p c hp => ?_, fun p p' b hp hp' => ?_, fun p b hp => ?_⟩ (fun p b hb => ⟨hLA _ b hb, hne _ b ?_ hb⟩))
  · refine hL.holds _ c ?_
    rw [List.getElem?_eraseIdx] at hp
    by_cases hpq : p < q
    · rw [if_pos hpq] at hp; rw [if_pos hpq]; exact hp
    · rw [if_neg hpq] at hp; rw [if_neg hpq]; exact hp
  · have := hL.apart _ _ b hp hp'
    split at this <;> split at this <;> omega
  · have := hL.bound _ b hp
    have hql := (List.getElem?_eq_some_iff.1 hq).1
    rw [List.length_eraseIdx, if_pos hql]
    split at this <;> omega
  · split <;> omega
theorem J.unframe {c : Code} {β : Nat} {cs : List Value} (hAβ : A β) (hk : look E key = some (heap (fun b => A b ∧ b ≠ β) H)) (h : J P n I c Q ((key, heap A (H ++ [obj β cs])) :: E)) : J P n (framed I β cs) c Q E := fun a w h1 h2 h3 => by
  obtain ⟨φ, hL, hLA⟩ := h3 key _ hk
  obtain ⟨h1, e, hh⟩ := h1
  refine h a w h1 h2 (heap_put h3 (φ := fun p b => if p = H.length then b = β else φ p b) ⟨fun p c hp => ?_, fun p p' b hp hp' => ?_, fun p b hp => ?_⟩ (fun p b hb => ?_))
  · by_cases he : p = H.length
    · subst he
      simp only [List.getElem?_concat_length, Option.some.injEq] at hp
      subst hp
      simp only [if_true]
      exact ⟨⟨e, hh⟩, fun b => Iff.rfl⟩
    · have hl : p < (H ++ [obj β cs]).length := (List.getElem?_eq_some_iff.1 hp).1
      have hl' : p < H.length := by simp at hl; omega
      rw [List.getElem?_append_left hl'] at hp
      simp only [if_neg he]
      exact hL.holds p c hp
  · by_cases he : p = H.length
    · by_cases he' : p' = H.length
      · rw [he, he']
      · simp only [if_pos he] at hp
        simp only [if_neg he'] at hp'
        exact absurd hp (hLA p' b hp').2
    · by_cases he' : p' = H.length
      · simp only [if_neg he] at hp
        simp only [if_pos he'] at hp'
        exact absurd hp' (hLA p b hp).2
      · simp only [if_neg he] at hp
        simp only [if_neg he'] at hp'
        exact hL.apart p p' b hp hp'
  · rw [List.length_append]
    by_cases he : p = H.length
    · simp [he]
    · simp only [if_neg he] at hp
      have := hL.bound p b hp
      simp; omega
  · by_cases he : p = H.length
    · simp only [if_pos he] at hb; subst hb; exact hAβ
    · simp only [if_neg he] at hb
      exact (hLA p b hb).1
/-- A load of one value, known of every world there. -/
theorem Plan.loadI {t : TypeId} {u : TypeDesc} {x : Operand} {β off : Nat} {v : Value} (ho : ops[i]? = some o) (hop : o.op = .load t x) (hg : wantB ops E o = some true)
    (hx : opF E x = some (.ex (.pointer (some ⟨β, off, none⟩)))) (hr : ∀ w, I w → ∀ j u, [v][j]? = some u → w.cell? ⟨β, off + j, none⟩ = some u) (hu : P.underlying t = some u) (hna : aggB u = false)
    (h : Plan P ops Q n I d k (i + 1) (setE o.dst (.ex v) E)) : Plan P ops Q n I d (k + 1) i E :=
  Plan.step ho (Step.run ho hg fun a w hI hs' => by
    have e1 := hs' x (by simp [hop, Op.operands]) _ hx
    simp only [Fa.den] at e1
    have hc := hr w hI 0 v rfl
    rw [Nat.add_zero] at hc
    refine ⟨v, w, ?_, Below.refl _ _, by simp [Fa.den]⟩
    have hagg : (isAgg t).run P w = .ok false w := by
      cases u <;> simp [aggB] at hna <;> simp [isAgg, run_underlying hu]
    simp [execOp, hop, e1, Instr.loadAt, Instr.sureAddr, loadVar, hagg, run_load, hc]) h
/-- A load of a struct, known of every world there. -/
theorem Plan.loadAggI {t : TypeId} {u : TypeDesc} {x : Operand} {β off : Nat} {vs : List Value} (ho : ops[i]? = some o) (hop : o.op = .load t x) (hg : wantB ops E o = some true)
    (hx : opF E x = some (.ex (.pointer (some ⟨β, off, none⟩)))) (hr : ∀ w, I w → ∀ j u, vs[j]? = some u → w.cell? ⟨β, off + j, none⟩ = some u) (hu : P.underlying t = some u) (hna : aggB u = true) (hi : (P.info? t).map (·.size) = some vs.length)
    (h : Plan P ops Q n I d k (i + 1) (setE o.dst (.ex (.agg vs.toArray)) E)) : Plan P ops Q n I d (k + 1) i E :=
  Plan.step ho (Step.run ho hg fun a w hI hs' => by
    have e1 := hs' x (by simp [hop, Op.operands]) _ hx
    simp only [Fa.den] at e1
    have hc := hr w hI
    obtain ⟨inf, hi1, hi2⟩ : ∃ inf, P.info? t = some inf ∧ inf.size = vs.length := by
      cases hinf : P.info? t with
      | none => rw [hinf] at hi; cases hi
      | some inf => rw [hinf] at hi; exact ⟨inf, rfl, by simpa using hi⟩
    refine ⟨.agg vs.toArray, w, ?_, Below.refl _ _, by simp [Fa.den]⟩
    have hagg : (isAgg t).run P w = .ok true w := by
      cases u <;> simp [aggB] at hna <;> simp [isAgg, run_underlying hu]
    have hl := run_loadCellsFrom (P := P) ⟨β, off, none⟩ w vs.length 0 #[] vs rfl (fun j u hu => by rw [Nat.zero_add, add_at]; exact hc j u hu)
    simp [execOp, hop, e1, Instr.loadAt, Instr.sureAddr, loadVar, hagg, sizeOf, typeInfo, hi1, hi2, loadCells, hl]) h
end
end Go.Free
end

section
set_option linter.unusedSimpArgs false
set_option linter.unusedVariables false
set_option maxRecDepth 20000
namespace Go.Free
open Go.RowKit
def framedC (I : World → Prop) (c : Chunk) (F : Nat → Prop) (w : World) : Prop := I w ∧ c.holds w F
theorem framedC_I {I : World → Prop} {c : Chunk} {F : Nat → Prop} (hI : ∀ w w', I w → Below w.heap.size w w' → I w') : ∀ w w', framedC I c F w → Below w.heap.size w w' → framedC I c F w' := fun w w' ⟨h1, h2⟩ hb =>
  ⟨hI w w' h1 hb, c.keep (S := fun _ => False) h2 (.ofBelow hb) fun _ _ e => e⟩
theorem framedC_own {I : World → Prop} {A : Nat → Prop} {c : Chunk} {F : Nat → Prop} (hA : Own I A) : Own (framedC I c F) (fun b => A b ∧ ¬ F b) :=
  ⟨fun w ⟨h1, h2⟩ b hb => ⟨hA.fresh w h1 b hb, fun hF => by have := c.lt w F b h2 hF; omega⟩,
   fun w w' ⟨h1, h2⟩ hk => ⟨hA.turn w w' h1 (hk.mono fun b _ hb => hb.1), c.keep h2 hk fun b hb hb2 => hb2.2 hb⟩⟩
section
variable {P : Program} {ops : Array Oper} {Q : Exit → Act → World → Prop} {n : Nat} {I : World → Prop} {k i : Nat} {E : Env} {o : Oper} {d : Bool} {A : Nat → Prop} {H : List Chunk} {key : Nat}
theorem J.frameC {cd : Code} {c : Chunk} (q : Nat) (hk : look E key = some (heap A H)) (hq : H[q]? = some c) (h : ∀ F : Nat → Prop, (∀ b, F b → A b) → J P n (framedC I c F) cd Q ((key, heap (fun b => A b ∧ ¬ F b) (H.eraseIdx q)) :: E)) : J P n I cd Q E := fun a w h1 h2 h3 => by
  obtain ⟨φ, hL, hLA⟩ := h3 key _ hk
  have hob := hL.holds q _ hq
  have hne : ∀ p b, p ≠ q → φ p b → ¬ φ q b := fun p b hp hb hb2 => hp (hL.apart p q _ hb hb2)
  refine h (φ q) (hLA q) a w ⟨h1, hob⟩ h2 (heap_put h3 (φ := fun p b => φ (if p < q then p else p + 1) b) ⟨fun p c hp => ?_, fun p p' b hp hp' => ?_, fun p b hp => ?_⟩ (fun p b hb => ⟨hLA _ b hb, hne _ b ?_ hb⟩))
  · refine hL.holds _ c ?_
    rw [List.getElem?_eraseIdx] at hp
    by_cases hpq : p < q
    · rw [if_pos hpq] at hp; rw [if_pos hpq]; exact hp
    · rw [if_neg hpq] at hp; rw [if_neg hpq]; exact hp
  · have := hL.apart _ _ b hp hp'
    split at this <;> split at this <;> omega
  · have := hL.bound _ b hp
    have hql := (List.getElem?_eq_some_iff.1 hq).1
    rw [List.length_eraseIdx, if_pos hql]
    split at this <;> omega
  · split <;> omega
theorem J.unframeC {cd : Code} {c : Chunk} {F : Nat → Prop} (hAF : ∀ b, F b → A b) (hk : look E key = some (heap (fun b => A b ∧ ¬ F b) H)) (h : J P n I cd Q ((key, heap A (H ++ [c])) :: E)) : J P n (framedC I c F) cd Q E := fun a w h1 h2 h3 => by
  obtain ⟨φ, hL, hLA⟩ := h3 key _ hk
  obtain ⟨h1, hh⟩ := h1
  refine h a w h1 h2 (heap_put h3 (φ := fun p b => if p = H.length then F b else φ p b) ⟨fun p c hp => ?_, fun p p' b hp hp' => ?_, fun p b hp => ?_⟩ (fun p b hb => ?_))
  · by_cases he : p = H.length
    · subst he
      simp only [List.getElem?_concat_length, Option.some.injEq] at hp
      subst hp
      simpa using hh
    · have hl : p < (H ++ [_]).length := (List.getElem?_eq_some_iff.1 hp).1
      have hl' : p < H.length := by simp at hl; omega
      rw [List.getElem?_append_left hl'] at hp
      simp only [if_neg he]
      exact hL.holds p c hp
  · by_cases he : p = H.length
    · by_cases he' : p' = H.length
      · rw [he, he']
      · simp only [if_pos he] at hp
        simp only [if_neg he'] at hp'
        exact absurd hp (hLA p' b hp').2
    · by_cases he' : p' = H.length
      · simp only [if_neg he] at hp
        simp only [if_pos he'] at hp'
        exact absurd hp' (hLA p b hp).2
      · simp only [if_neg he] at hp
        simp only [if_neg he'] at hp'
        exact hL.apart p p' b hp hp'
  · rw [List.length_append]
    by_cases he : p = H.length
    · simp [he]
    · simp only [if_neg he] at hp
      have := hL.bound p b hp
      simp; omega
  · by_cases he : p = H.length
    · simp only [if_pos he] at hb; exact hAF b hb
    · simp only [if_neg he] at hb
      exact (hLA p b hb).1
/-- A call that reads what is known of every world there. -/
theorem Plan.callRI {f : FuncId} {xs : List Operand} {ts : Array TypeId} {fs : List Fa} {c : Chunk} {R : Nat → Fa} {fn : Func} {B : Nat} (ho : ops[i]? = some o)
    (hop : o.op = .call { callee := .value (.func f), args := xs.toArray, argTypes := ts }) (hg : wantB ops E o = some true) (hc : SpcR P f fs c R)
    (hf : P.funcs[f]? = some fn) (hbody : fn.body.isNone = false) (hname : (fn.name == "runtime.NumGoroutine") = false) (hB : ∀ w, I w → B ≤ w.heap.size)
    (hx : Opnds I E xs fs) (hch : ∀ w, I w → ∃ F, c.holds w F)
    (h : Plan P ops Q n I d k (i + 1) (setE o.dst (R B) E)) : Plan P ops Q n I d (k + 1) i E :=
  Plan.step (F := R B) ho (fun a w hI hsh hs => by
    unfold wpOp
    simp only [ho, wantB_spec ho hsh (fun t ht => hs t (.inl ht)) hg, if_true]
    refine .inl ?_
    unfold Oper.wp
    have hrun : (execOp a.eval o).run P w = .ok (.enter f (xs.map a.eval).toArray) w := by
      have hn : ¬ fn.name = "runtime.NumGoroutine" := by simpa using hname
      have hb : ¬ fn.body = none := by intro e; rw [e] at hbody; cases hbody
      simp [execOp, hop, resolve, invoke, callFunc, Deferred.ofValue, Act.eval, hf, hb, hn]
    rw [hrun]
    simp only [Oper.upon]
    obtain ⟨G, hG⟩ := hch w hI
    have hden := Opnds.dens (a := a) hI hx (fun x hxm f hf => opF_den ho (by simp [hop, Op.operands, Call.operands, hxm]) (fun t ht => hs t (.inl ht)) hf)
    refine (hc w _ G hden hG).mono ?_
    rintro e w' ⟨v, rfl, hb, hR⟩
    exact ⟨v, by rw [dst_of ho], hb, hR B (hB w hI)⟩) h
theorem Plan.weakE (E' : Env) (h : Weak I E E') (hp : Plan P ops Q n I d 0 i E') : Plan P ops Q n I d 0 i E := fun a w h1 h2 h3 => hp a w h1 h2 (h.sat h1 h3)
theorem Sub.tupEx {a b : Value} : Sub I (.tup [.ex a, .ex b]) (.ex (.tuple #[a, b])) := fun w v _ h => by
  simp only [Fa.den, Fa.dens] at h ⊢
  obtain ⟨vs, rfl, x, r, rfl, h1, y, r', rfl, h2, rfl⟩ := h
  rw [h1, h2]
/-- A part of a tuple that is known. -/
theorem Plan.extractEx {x : Operand} {j : Nat} {vs : Array Value} {v : Value} (ho : ops[i]? = some o) (hop : o.op = .extract x j) (hg : wantB ops E o = some true) (hx : opF E x = some (.ex (.tuple vs))) (hv : vs[j]? = some v)
    (h : Plan P ops Q n I d k (i + 1) (setE o.dst (.ex v) E)) : Plan P ops Q n I d (k + 1) i E :=
  Plan.step ho (Step.run ho hg fun a w hI hs' => by
    have e1 := hs' x (by simp [hop, Op.operands]) _ hx
    simp only [Fa.den] at e1
    refine ⟨v, w, ?_, Below.refl _ _, by simp [Fa.den]⟩
    simp [execOp, hop, e1, Instr.extract, hv]) h
end
end Go.Free
end

section
set_option linter.unusedSimpArgs false
set_option linter.unusedVariables false
set_option maxRecDepth 20000
namespace Go.Free
open Go.RowKit

/-- v is a row of n bytes, alone in its block. -/
def scrOk (w : World) (v : Value) : Prop := v = .slice none 0 0 ∨ ∃ g n cap cur e, v = .slice (some ⟨g, 0, none⟩) n cap ∧ w.heap[g]? = some (.cells cur e (0, 0)) ∧ n ≤ cap ∧ cap ≤ 9223372036854775807 ∧ n ≤ cur.size ∧ ∀ k, k < n → ∃ b : UInt8, cur[k]? = some (.int .u8 b.toNat)
theorem scrOk_own {B e : Nat} {l : List UInt8} {w : World} {v : Value} (h : ownH B e 1 (bs l) w v) : scrOk w v := by
  obtain ⟨_, n, hl, h⟩ := h
  rcases h with ⟨rfl, rfl⟩ | ⟨g, cap, cur, rfl, _, hg, h1, h2, h3, h4⟩
  · exact .inl rfl
  · rw [Nat.mul_one] at hl h3 h4
    refine .inr ⟨g, n, cap, cur, e, rfl, hg, h1, by simpa [maxLen] using h2, by omega, fun k hk => ?_⟩
    have hk' : k < l.length := by rw [bs_length] at hl; omega
    have e1 : (cur.toList.take n)[k]? = (bs l)[k]? := by rw [h4]
    rw [List.getElem?_take_of_lt hk] at e1
    refine ⟨l[k], ?_⟩
    rw [Array.getElem?_toList] at e1
    rw [e1]
    simp [bs, List.getElem?_eq_getElem hk']
def scrC (vs : List Value) : Chunk := ⟨fun w F => (∀ v ∈ vs, scrOk w v) ∧ ∀ b, F b ↔ ∃ v ∈ vs, v.ownBlock = some b,
  fun w F b h hb => by
    obtain ⟨v, hv, hvb⟩ := (h.2 b).1 hb
    rcases h.1 v hv with rfl | ⟨g, n, cap, cur, e, rfl, hg, _⟩
    · cases hvb
    · simp only [Value.ownBlock, Option.some.injEq] at hvb
      subst hvb
      exact (Array.getElem?_eq_some_iff.1 hg).1,
  fun w w' F h hk => ⟨fun v hv => by
    rcases h.1 v hv with rfl | ⟨g, n, cap, cur, e, rfl, hg, h1⟩
    · exact .inl rfl
    · exact .inr ⟨g, n, cap, cur, e, rfl, by rw [hk g ((h.2 g).2 ⟨_, hv, rfl⟩)]; exact hg, h1⟩, h.2⟩⟩
/-- At a place of one row stands b. -/
def scrAt (vs : List Value) (g k : Nat) (b : UInt8) : Chunk := ⟨fun w F => (scrC vs).holds w F ∧ F g ∧ w.cell? ⟨g, k, none⟩ = some (.int .u8 b.toNat) ∧ ∃ n cap, Value.slice (some ⟨g, 0, none⟩) n cap ∈ vs ∧ k < n,
  fun w F c h hc => (scrC vs).lt w F c h.1 hc,
  fun w w' F h hk => ⟨(scrC vs).loc w w' F h.1 hk, h.2.1, by
    have := h.2.2.1
    simp only [World.cell?] at this ⊢
    rw [hk g h.2.1]; exact this, h.2.2.2⟩⟩
theorem scr_see {vs : List Value} {g n cap k : Nat} (hv : Value.slice (some ⟨g, 0, none⟩) n cap ∈ vs) (hk : k < n) : Ent (scrC vs) (exC fun b => scrAt vs g k b) := fun w F h => by
  have hF : F g := (h.2 g).2 ⟨_, hv, rfl⟩
  rcases h.1 _ hv with h0 | ⟨g', n', cap', cur, e, he, hg, h1, h2, h3, h4⟩
  · cases h0
  · cases he
    obtain ⟨b, hb⟩ := h4 k hk
    refine ⟨F, ⟨b, h, hF, ?_, n, cap, hv, hk⟩, fun _ hb => hb⟩
    simp only [World.cell?, hg, Option.isSome_none, Bool.false_eq_true, if_false]
    exact hb
theorem scrAt_reads {vs : List Value} {g k : Nat} {b : UInt8} : (scrAt vs g k b).reads g k [.int .u8 b.toNat] := fun w F h j u hu => by
  cases j with
  | zero => simp only [List.getElem?_cons_zero, Option.some.injEq] at hu; subst hu; exact h.2.2.1
  | succ j => simp at hu
/-- With vs stored from that place on, all else as it was, the chunk is c'. -/
def Chunk.patX (c : Chunk) (β off : Nat) (vs : List Value) (c' : Chunk) : Prop := ∀ w F, c.holds w F → F β ∧ ∃ cur e, w.heap[β]? = some (.cells cur e (0, 0)) ∧ off + vs.length ≤ cur.size ∧
  ∀ w', w'.heap[β]? = some (.cells (cur.toList.take off ++ vs ++ cur.toList.drop (off + vs.length)).toArray e (0, 0)) → (∀ b, b ≠ β → w'.heap[b]? = w.heap[b]?) → c'.holds w' F
theorem scrAt_pat {vs : List Value} {g k : Nat} {b c : UInt8} : (scrAt vs g k b).patX g k [.int .u8 c.toNat] (scrC vs) := fun w F h => by
  obtain ⟨hs, hF, hc, n, cap, hv, hk⟩ := h
  refine ⟨hF, ?_⟩
  rcases hs.1 _ hv with h0 | ⟨g', n', cap', cur, e, he, hg, h1, h2, h3, h4⟩
  · cases h0
  · cases he
    refine ⟨cur, e, hg, by simp; omega, fun w' hw ho => ⟨fun u hu => ?_, hs.2⟩⟩
    rcases hs.1 u hu with rfl | ⟨g2, n2, cap2, cur2, e2, rfl, hg2, k1, k2, k3, k4⟩
    · exact .inl rfl
    · by_cases hgg : g2 = g
      · subst hgg
        rw [hg] at hg2
        cases hg2
        have hset : cur.toList.take k ++ [Value.int .u8 c.toNat] ++ cur.toList.drop (k + [Value.int .u8 (c.toNat : Int)].length) = cur.toList.set k (.int .u8 c.toNat) := by
          rw [List.set_eq_take_append_cons_drop, if_pos (by simp; omega)]; simp
        rw [hset] at hw
        refine .inr ⟨g2, n2, cap2, _, _, rfl, hw, k1, k2, by simpa using k3, fun j hj => ?_⟩
        rw [List.getElem?_toArray, List.getElem?_set]
        by_cases hjk : k = j
        · subst hjk
          rw [if_pos rfl, if_pos (by simp; omega)]
          exact ⟨c, rfl⟩
        · rw [if_neg hjk, Array.getElem?_toList]
          exact k4 j hj
      · exact .inr ⟨g2, n2, cap2, cur2, e2, rfl, by rw [ho g2 hgg]; exact hg2, k1, k2, k3, k4⟩
section
variable {P : Program} {ops : Array Oper} {Q : Exit → Act → World → Prop} {n : Nat} {I : World → Prop} {k i : Nat} {E : Env} {o : Oper} {d : Bool} {A : Nat → Prop} {H : List Chunk} {key : Nat}
/-- A store into a chunk of several blocks. -/
theorem Plan.storeX {t : TypeId} {p x : Operand} {β off q : Nat} {c c' : Chunk} {v : Value} (ho : ops[i]? = some o) (hop : o.op = .store t p x) (hdst : o.dst = none) (hg : wantB ops E o = some true)
    (hp : opF E p = some (.ex (.pointer (some ⟨β, off, none⟩)))) (hx : opF E x = some (.ex v)) (hone : ∀ u ∈ v.cells.toList, u.oneCell' = true) (hi : (P.info? t).map (·.size) = some v.cells.size)
    (hk : look E key = some (heap A H)) (hA : Own I A) (hqH : H[q]? = some c) (hpat : c.patX β off v.cells.toList c')
    (h : Plan P ops Q n I d k (i + 1) ((key, heap A (H.set q c')) :: sieve E)) (hq : d = false ∨ barB ops i = true := by first | exact .inl rfl | exact .inr (by kernel_rfl)) : Plan P ops Q n I d (k + 1) i E :=
  Plan.turnRun ho hg (by rw [hdst]; intro _ e; cases e) hk hA (fun a w φ _ _ hs' hL hLA hfr => by
    have e1 := hs' p (by simp [hop, Op.operands]) _ hp
    have e2 := hs' x (by simp [hop, Op.operands]) _ hx
    simp only [Fa.den] at e1 e2
    obtain ⟨hβ, cur, e, hh, hle, hc'⟩ := hpat w (φ q) (hL.holds q c hqH)
    have hst := run_storeCells_at P β off e v.cells.toList 0 cur w hh (by simpa using hle) hone
    simp only [Nat.add_zero] at hst
    obtain ⟨inf, hi1, hi2⟩ : ∃ inf, P.info? t = some inf ∧ inf.size = v.cells.size := by
      cases hinf : P.info? t with
      | none => rw [hinf] at hi; cases hi
      | some inf => rw [hinf] at hi; exact ⟨inf, rfl, by simpa using hi⟩
    obtain ⟨w', hw'⟩ : ∃ w', w' = w.setRow β (cur.toList.take off ++ v.cells.toList ++ cur.toList.drop (off + v.cells.toList.length)).toArray := ⟨_, rfl⟩
    rw [← hw'] at hst
    have hK : Kept (φ q) w w' := by
      subst hw'
      exact ⟨rfl, rfl, rfl, by simp, fun kk _ hkk => setRow_other w β kk _ (fun e => hkk (by rw [e]; exact hβ))⟩
    have hc2 := hc' w' (by subst hw'; exact setRow_heap w β cur _ e _ hh) (fun b hb => by subst hw'; exact setRow_other w β b _ hb)
    have hqlt : q < H.length := (List.getElem?_eq_some_iff.1 hqH).1
    have hL' := hL.upd hqlt hK hc2 (fun b hb => .inl hb)
    refine ⟨undef, w', .ex undef, H.set q c', _, .inr ⟨?_, rfl⟩, hK.mono (fun b _ hb => hLA q b hb), hL', wide (H := H) hLA hfr (fun b hb => .inl hb), by simp [Fa.den], by rw [hdst]; exact h⟩
    simp [execOp, hop, e1, e2, Instr.storeAt, Instr.sureAddr, storeVar, sizeOf, typeInfo, hi1, hi2, hst]) hq
/-- A load of one value that is known to stand there, whatever else was turned. -/
theorem Plan.loadKnown {t : TypeId} {u : TypeDesc} {x : Operand} {ad : Addr} {v : Value} (ho : ops[i]? = some o) (hop : o.op = .load t x) (hg : wantB ops E o = some true)
    (hx : opF E x = some (.ex (.pointer (some ad)))) (hv : ∀ w, I w → w.cell? ad = some v) (hu : P.underlying t = some u) (hna : aggB u = false)
    (h : Plan P ops Q n I d k (i + 1) (setE o.dst (.ex v) E)) : Plan P ops Q n I d (k + 1) i E :=
  Plan.step ho (Step.run ho hg fun a w hI hs' => by
    have e1 := hs' x (by simp [hop, Op.operands]) _ hx
    simp only [Fa.den] at e1
    have hc := hv w hI
    refine ⟨v, w, ?_, Below.refl _ _, by simp [Fa.den]⟩
    have hagg : (isAgg t).run P w = .ok false w := by
      cases u <;> simp [aggB] at hna <;> simp [isAgg, run_underlying hu]
    simp [execOp, hop, e1, Instr.loadAt, Instr.sureAddr, loadVar, hagg, run_load, hc]) h
/-- A heap is laid over what is known of the world. -/
theorem J.lay {c : Code} (key : Nat) (A : Nat → Prop) (H : List Chunk) (hL : ∀ w, I w → ∃ φ, Lies H φ w ∧ ∀ q b, φ q b → A b) (h : J P n I c Q ((key, heap A H) :: E)) : J P n I c Q E := fun a w h1 h2 h3 => by
  refine h a w h1 h2 fun t f hf => ?_
  simp only [look] at hf
  by_cases ht : key = t
  · rw [if_pos ht] at hf; cases hf; exact hL w h1
  · rw [if_neg ht] at hf; exact h3 t f hf
end
theorem ownH_kept {B e sz : Nat} {cs : List Value} {w w' : World} {v : Value} {S : Nat → Prop} (hk : Kept S w w') (hS : ∀ b, S b → b < B) (h : ownH B e sz cs w v) : ownH B e sz cs w' v := by
  obtain ⟨hB, n, hl, h⟩ := h
  refine ⟨Nat.le_trans hB hk.size, n, hl, ?_⟩
  rcases h with h0 | ⟨g, cap, cur, hv, hb, hg, h1⟩
  · exact .inl h0
  · exact .inr ⟨g, cap, cur, hv, hb, by rw [hk.block g (Array.getElem?_eq_some_iff.1 hg).1 (fun hs => absurd (hS g hs) (by omega))]; exact hg, h1⟩
end Go.Free
end

section
set_option linter.unusedSimpArgs false
set_option linter.unusedVariables false
set_option maxRecDepth 20000
namespace Go.Free
open Go.RowKit
def sinceW (I : World → Prop) (G : Nat → Prop) (w1 w : World) : Prop := I w ∧ Kept G w1 w
theorem since_I {I : World → Prop} {G : Nat → Prop} {w1 : World} (hI : ∀ w w', I w → Below w.heap.size w w' → I w') : ∀ w w', sinceW I G w1 w → Below w.heap.size w w' → sinceW I G w1 w' := fun w w' ⟨h1, h2⟩ hb =>
  ⟨hI w w' h1 hb, h2.trans (.ofBelow (S := fun _ => False) hb) (fun _ _ h => h) (fun _ _ h => h.elim)⟩
theorem since_own {I : World → Prop} {A G : Nat → Prop} {w1 : World} (hA : Own I A) (hG : ∀ b, G b → A b) (h1 : ∀ b, w1.heap.size ≤ b → A b) : Own (sinceW I G w1) (fun b => G b ∨ w1.heap.size ≤ b) :=
  ⟨fun w h b hb => .inr (Nat.le_trans h.2.size hb),
   fun w w' ⟨h, h2⟩ hk => ⟨hA.turn w w' h (hk.mono fun b _ hb => hb.elim (hG b) (h1 b)), h2.trans hk (fun _ _ h => h) (fun i hi h => h.resolve_right (by omega))⟩⟩
section
variable {P : Program} {ops : Array Oper} {Q : Exit → Act → World → Prop} {n : Nat} {I : World → Prop} {k i : Nat} {E : Env} {o : Oper} {d : Bool} {A : Nat → Prop} {H : List Chunk} {key : Nat}
/-- The world that is now becomes a base: the heap lies below B, what is new since B isn't turned any more. -/
theorem J.since {c : Code} {B : Nat} (hk : look E key = some (heap (fun b => A b ∧ b < B) H)) (hA : Own I A)
    (h : ∀ w1, I w1 → (∀ b, w1.heap.size ≤ b → A b) → J P n (sinceW I (fun b => A b ∧ b < B) w1) c Q ((key, heap (fun b => (A b ∧ b < B) ∨ w1.heap.size ≤ b) H) :: markE w1 E)) : J P n I c Q E := fun a w h1 h2 h3 => by
  obtain ⟨φ, hL, hLA⟩ := h3 key _ hk
  refine h w h1 (hA.fresh w h1) a w ⟨h1, Kept.refl _ _⟩ h2 (heap_put (fun t f hf => ?_) hL fun q b hb => .inl (hLA q b hb))
  obtain ⟨g, hg, rfl⟩ := look_markE hf
  exact keepOld_den (h3 t g hg)
/-- The heap's blocks are told among more. -/
theorem J.widen {c : Code} {A' : Nat → Prop} (hk : look E key = some (heap A' H)) (hA : ∀ b, A' b → A b) (h : J P n I c Q ((key, heap A H) :: E)) : J P n I c Q E := fun a w h1 h2 h3 => by
  obtain ⟨φ, hL, hLA⟩ := h3 key _ hk
  exact h a w h1 h2 (heap_put h3 hL fun q b hb => hA b (hLA q b hb))
end
theorem Sub.sinceOwn {I : World → Prop} {G : Nat → Prop} {w1 : World} {B e sz : Nat} {cs : List Value} (hG : ∀ b, G b → b < B) : Sub (sinceW I G w1) (.old w1 (Free.own B e sz cs)) (Free.own B e sz cs) := fun w v hI h => ownH_kept hI.2 hG h
theorem Sub.sinceNest {I : World → Prop} {G : Nat → Prop} {w1 : World} {B e : Nat} {α : Type} {e' sz : α → Nat} {cs : α → List Value} {ls : List α} (hG : ∀ b, G b → b < B) :
    Sub (sinceW I G w1) (.old w1 (nest B e (ls.map fun l => Free.own B (e' l) (sz l) (cs l)))) (nest B e (ls.map fun l => Free.own B (e' l) (sz l) (cs l))) := fun w v hI ⟨vs, h1, h2⟩ =>
  ⟨vs, ownH_kept hI.2 hG h1, dens_imp (fun f hf v hv => by
    obtain ⟨l, _, rfl⟩ := List.mem_map.1 hf
    exact ownH_kept hI.2 hG hv) h2⟩
theorem dens_old {w1 w : World} {α : Type} {g : α → Fa} : ∀ {ls : List α} {vs : List Value}, Fa.dens (ls.map g) w1 vs → Fa.dens (ls.map fun l => .old w1 (g l)) w vs
  | [], _, h => h
  | _ :: r, _, ⟨u, us, h1, hu, hus⟩ => ⟨u, us, h1, hu, dens_old (ls := r) hus⟩
theorem Sub.sinceNestR {I : World → Prop} {G : Nat → Prop} {w1 : World} {B e : Nat} {α : Type} {g : α → Fa} {ls : List α} (hG : ∀ b, G b → b < B) :
    Sub (sinceW I G w1) (.old w1 (nest B e (ls.map g))) (nestR (ls.map fun l => .old w1 (g l))) := fun w v hI ⟨vs, h1, h2⟩ =>
  ⟨vs, own_row (ownH_kept hI.2 hG h1), dens_old h2⟩
theorem own_fresh {I : World → Prop} {A : Nat → Prop} {B : Nat} (hA : Own I A) : Own (fun w => I w ∧ B ≤ w.heap.size) A :=
  ⟨fun w h => hA.fresh w h.1, fun w w' h hk => ⟨hA.turn w w' h.1 hk, Nat.le_trans h.2 hk.size⟩⟩
end Go.Free
end

section
set_option linter.unusedSimpArgs false
set_option linter.unusedVariables false
set_option maxRecDepth 20000
namespace Go.Free
open Go.RowKit
/-- The blocks G, as they are in w1. -/
def frozenC (w1 : World) (G : Nat → Prop) : Chunk where
  holds w S := (∀ b, S b ↔ G b) ∧ ∀ b, G b → b < w.heap.size ∧ w.heap[b]? = w1.heap[b]?
  lt w S b h hb := (h.2 b ((h.1 b).1 hb)).1
  loc w w' S h hS := ⟨h.1, fun b hb => by
    have h2 := h.2 b hb
    have h3 := hS b ((h.1 b).2 hb)
    refine ⟨?_, h3.trans h2.2⟩
    rw [Array.getElem?_eq_getElem h2.1] at h3
    exact (Array.getElem?_eq_some_iff.1 h3).1⟩
theorem Ent.thaw {w1 : World} {G : Nat → Prop} {c : Chunk} (h : c.holds w1 G) : Ent (frozenC w1 G) c := fun w S hf =>
  ⟨G, c.loc w1 w G h fun b hb => (hf.2 b hb).2, fun b hb => (hf.1 b).2 hb⟩
theorem frozen_row {w1 : World} {G : Nat → Prop} {sz : Nat} {xs : List Value} {v : Value} (h : rowH sz xs w1 v) (hG : ∀ b, b < w1.heap.size → G b) : ∀ w : World, (∀ b, G b → w.heap[b]? = w1.heap[b]?) → rowH sz xs w v := fun w hw => by
  obtain ⟨A, m, cap, e1, e2, e3, e4, e5, e6⟩ := h
  refine ⟨A, m, cap, e1, e2, e3, e4, e5, fun j u hu => ?_⟩
  obtain ⟨ad, ha, hc⟩ := e6 j u hu
  refine ⟨ad, ha, ?_⟩
  have hb : (ad.add j).block < w1.heap.size := by
    rcases Nat.lt_or_ge (ad.add j).block w1.heap.size with h | h
    · exact h
    · simp only [World.cell?, Array.getElem?_eq_none h] at hc; cases hc
  rw [← hc]
  simp only [World.cell?, hw _ (hG _ hb)]
section
variable {P : Program} {ops : Array Oper} {Q : Exit → Act → World → Prop} {n : Nat} {I : World → Prop} {k i : Nat} {E : Env} {o : Oper} {d : Bool} {A : Nat → Prop} {H : List Chunk} {key : Nat}
/-- A chunk of the heap is taken as it is now. -/
theorem J.freeze {cd : Code} {c : Chunk} (q : Nat) (hk : look E key = some (heap A H)) (hq : H[q]? = some c) (h : ∀ w1 G, c.holds w1 G → J P n I cd Q ((key, heap A (H.set q (frozenC w1 G))) :: E)) : J P n I cd Q E := fun a w h1 h2 h3 => by
  obtain ⟨φ, hL, hLA⟩ := h3 key _ hk
  have hob := hL.holds q _ hq
  have hql := (List.getElem?_eq_some_iff.1 hq).1
  refine h w (φ q) hob a w h1 h2 (heap_put h3 (φ := φ) ⟨fun p c' hp => ?_, hL.apart, fun p b hb => by rw [List.length_set]; exact hL.bound p b hb⟩ hLA)
  by_cases hpq : p = q
  · subst hpq
    rw [List.getElem?_set_self hql] at hp
    cases hp
    exact ⟨fun _ => Iff.rfl, fun b hb => ⟨c.lt w _ b hob hb, rfl⟩⟩
  · rw [List.getElem?_set_ne (Ne.symm hpq)] at hp
    exact hL.holds p c' hp
/-- A call to which memory is handed that the function itself leaves as it is. -/
theorem Plan.callFz {f : FuncId} {xs : List Operand} {ts : Array TypeId} {fs : List Fa} {Hc Hr : List Chunk} {X : Type} {ok : X → Prop} {R : X → Fa} {c' : X → List Chunk} {fn : Func} {w1 : World} {G : Nat → Prop} (qs rs : List Nat) (ho : ops[i]? = some o)
    (hop : o.op = .call { callee := .value (.func f), args := xs.toArray, argTypes := ts }) (hg : wantB ops E o = some true) (hc : SpcC P f fs (allC (Hc ++ [frozenC w1 G])) ok R (fun x => allC (c' x ++ [frozenC w1 G])))
    (hf : P.funcs[f]? = some fn) (hbody : fn.body.isNone = false) (hname : (fn.name == "runtime.NumGoroutine") = false) (hd : ∀ d, o.dst = some d → d < n)
    (hx : Opnds I E xs fs) (hk : look E key = some (heap A H)) (hA : Own I A) (hp : Free.pick H qs = Hc) (hr : Free.pick H rs = Hr) (hn : nodupB (qs ++ rs) = true)
    (hF : ∀ w, I w → ∀ b, G b → b < w.heap.size ∧ w.heap[b]? = w1.heap[b]?) (hGA : ∀ b, A b → ¬ G b)
    (h : ∀ x, ok x → Plan P ops Q n I d k (i + 1) (setE o.dst (R x) ((key, heap A (c' x ++ Hr)) :: sieve E))) (hq : d = false ∨ barB ops i = true := by first | exact .inl rfl | exact .inr (by kernel_rfl)) : Plan P ops Q n I d (k + 1) i E :=
  Plan.turn ho hg hd hk hA (fun a w φ hI hs hs' hL hLA hfr hsh => by
    unfold wpOp
    simp only [ho, wantB_spec ho hsh (fun t _ f hf => hs t f hf) hg, if_true]
    refine .inl ?_
    unfold Oper.wp
    have hrun : (execOp a.eval o).run P w = .ok (.enter f (xs.map a.eval).toArray) w := by
      have hn : ¬ fn.name = "runtime.NumGoroutine" := by simpa using hname
      have hb : ¬ fn.body = none := by intro e; rw [e] at hbody; cases hbody
      simp [execOp, hop, resolve, invoke, callFunc, Deferred.ofValue, Act.eval, hf, hb, hn]
    rw [hrun]
    simp only [Oper.upon]
    have hden := Opnds.dens (a := a) hI hx (fun x hxm f hf => hs' x (by simp [hop, Op.operands, Call.operands, hxm]) f hf)
    have hsp : Ent (allC H) (Free.sepC (allC Hc) (allC Hr)) := (Ent.pickC (qs ++ rs) (by rw [Free.pick, List.map_append]; exact (congrArg (· ++ _) hp).trans (congrArg (Hc ++ ·) hr)) hn).trans Ent.splitC
    obtain ⟨G0, hG0, hG0s⟩ := hsp w _ hL.all
    obtain ⟨Gc, Gd, hG, hdis, hcH, hdH⟩ := hG0
    have hin : ∀ b, Gc b ∨ Gd b → A b := fun b hb => by
      obtain ⟨q, hq⟩ := hG0s b ((hG b).2 hb)
      exact hLA q b hq
    have hfz : (frozenC w1 G).holds w G := ⟨fun _ => Iff.rfl, hF w hI⟩
    obtain ⟨S, hS, hSs⟩ := (Ent.joinC (H1 := Hc) (H2 := [frozenC w1 G])) w (fun b => Gc b ∨ G b) ⟨Gc, G, fun _ => Iff.rfl, fun b hb => hGA b (hin b (.inl hb)), hcH,
      ⟨G, fun _ => False, fun b => ⟨.inl, fun e => e.elim id fun x => x.elim⟩, fun _ _ e => e, hfz, fun _ e => e⟩⟩
    refine (hc w _ S hden hS).mono ?_
    rintro e w' ⟨v, x, rfl, hok, hK, hR, F', hF', hFb⟩
    obtain ⟨S2, hS2, hS2s⟩ := (Ent.splitC (H1 := c' x) (H2 := [frozenC w1 G])) w' F' hF'
    obtain ⟨Gx, Gf, g1, g2, g3, g4⟩ := hS2
    obtain ⟨Ga, Gb, k1, _, k3, _⟩ := g4
    have hGx : ∀ b, Gx b → Gc b ∨ w.heap.size ≤ b := fun b hb => by
      rcases hFb b (hS2s b ((g1 b).2 (.inl hb))) with h1 | h1
      · rcases hSs b h1 with h2 | h2
        · exact .inl h2
        · exact absurd ((k1 b).2 (.inl ((k3.1 b).2 h2))) (g2 b hb)
      · exact .inr h1
    have hK' : Kept Gc w w' := ⟨hK.os, hK.tape, hK.output, hK.size, fun b hb hn => by
      by_cases hGb : G b
      · rw [(k3.2 b hGb).2, (hfz.2 b hGb).2]
      · exact hK.block b hb fun e => (hSs b e).elim hn hGb⟩
    have hdH' : (allC Hr).holds w' Gd := (allC Hr).keep hdH hK' (fun b hb hc => hdis b hc hb)
    obtain ⟨G2, hG2, hG2s⟩ := (Ent.joinC (H1 := c' x) (H2 := Hr)) w' (fun b => Gx b ∨ Gd b) ⟨Gx, Gd, fun b => Iff.rfl, fun b hb hb2 => by
      rcases hGx b hb with h1 | h1
      · exact hdis b h1 hb2
      · have := (allC Hr).lt w Gd b hdH hb2; omega, g3, hdH'⟩
    obtain ⟨φ', hL', hφ'⟩ := Lies.ofAll hG2
    refine ⟨v, R x, c' x ++ Hr, φ', rfl, hK'.mono (fun b _ hb => hin b (.inl hb)), hL', fun q b hb => ?_, hR, h x hok⟩
    rcases hG2s b (hφ' q b hb) with h1 | h1
    · rcases hGx b h1 with h2 | h2
      · exact hin b (.inl h2)
      · exact hfr b h2
    · exact hin b (.inr h1)) hq
theorem Plan.appendFullStrS {x y : Operand} {t u e : TypeId} {xs : List Value} {p : List UInt8} {f : Fa} (ho : ops[i]? = some o) (hop : o.op = .call { callee := .builtin .append, args := #[x, y], argTypes := #[t, u] })
    (hg : wantB ops E o = some true) (hx : opF E x = some f) (hfs : Sub I f (fullF xs)) (hy : opF E y = some (.ex (str p))) (hu : P.underlying u = some .string) (he : Elt P t e (.int .u8 0) 1 1) (hlim : xs.length + p.length ≤ 140737488355328)
    (h : Plan P ops Q n I d k (i + 1) (setE o.dst (row 1 (xs ++ bs p)) E)) : Plan P ops Q n I d (k + 1) i E :=
  Plan.step ho (Step.run ho hg fun a w hI hs' => by
    obtain ⟨A, m, e1, hrow⟩ := hfs w _ hI (hs' x (by simp [hop, Op.operands, Call.operands]) _ hx)
    have e2 := hs' y (by simp [hop, Op.operands, Call.operands]) _ hy
    simp only [Fa.den, str] at e2
    rw [e1] at hrow
    obtain ⟨v', w', hr, h2, h3⟩ := run_append_full_string (P := P) (ty := o.type) he hu hrow hlim
    refine ⟨v', w', ?_, h3, h2⟩
    simp only [execOp, hop, resolve, invoke, builtin, List.map_toArray, List.map_cons, List.map_nil, Sem.run_bind, Sem.run_pure, Result.andThen_ok, e1, e2, hr]) h
theorem Sub.tightFull {I : World → Prop} {B e m : Nat} {cs : List Value} : Sub I (tight B e 1 m cs) (fullF cs) := fun w v _ ⟨h, g, hv⟩ => ⟨_, _, hv, own_row h⟩
end
end Go.Free
end
