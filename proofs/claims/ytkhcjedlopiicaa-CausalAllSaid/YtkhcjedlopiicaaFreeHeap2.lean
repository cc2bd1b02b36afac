/-
  Memory that is turned: the operations over chunks, contracts of functions that turn one.
-/
import Derived.Test.YtkhcjedlopiicaaFreeHeap
set_option linter.unusedSimpArgs false
set_option linter.unusedVariables false
set_option maxRecDepth 20000
namespace Go.Free
open Go.RowKit

/-- Who has c has d in no more blocks. -/
def Ent (c d : Chunk) : Prop := ∀ w F, c.holds w F → ∃ G, d.holds w G ∧ ∀ b, G b → F b
theorem Ent.refl (c : Chunk) : Ent c c := fun _ F h => ⟨F, h, fun _ hb => hb⟩
theorem Ent.trans {c d e : Chunk} (h : Ent c d) (k : Ent d e) : Ent c e := fun w F hc => by
  obtain ⟨G, h1, h2⟩ := h w F hc
  obtain ⟨K, h3, h4⟩ := k w G h1
  exact ⟨K, h3, fun b hb => h2 b (h4 b hb)⟩
theorem Ent.ex {X : Type} {c : Chunk} {d : X → Chunk} (x : X) (h : Ent c (d x)) : Ent c (exC d) := fun w F hc => by
  obtain ⟨G, h1, h2⟩ := h w F hc
  exact ⟨G, ⟨x, h1⟩, h2⟩
theorem Ent.pur {p : Prop} {c d : Chunk} (hp : p) (h : Ent c d) : Ent c (purC p d) := fun w F hc => by
  obtain ⟨G, h1, h2⟩ := h w F hc
  exact ⟨G, ⟨hp, h1⟩, h2⟩
theorem Ent.sep {c d c' d' : Chunk} (h : Ent c c') (k : Ent d d') : Ent (sepC c d) (sepC c' d') := fun w F ⟨G, K, h1, h2, h3, h4⟩ => by
  obtain ⟨G', g1, g2⟩ := h w G h3
  obtain ⟨K', k1, k2⟩ := k w K h4
  exact ⟨fun b => G' b ∨ K' b, ⟨G', K', fun _ => Iff.rfl, fun b hb hb' => h2 b (g2 b hb) (k2 b hb'), g1, k1⟩, fun b hb => (h1 b).2 (hb.elim (fun e => .inl (g2 b e)) (fun e => .inr (k2 b e)))⟩
theorem Ent.one {c : Chunk} : Ent (sepC c emp) c := fun w F ⟨G, K, h1, _, h3, _⟩ => ⟨G, h3, fun b hb => (h1 b).2 (.inl hb)⟩
theorem Ent.left {c d : Chunk} : Ent (sepC c d) c := fun w F ⟨G, K, h1, _, h3, _⟩ => ⟨G, h3, fun b hb => (h1 b).2 (.inl hb)⟩
theorem Ent.right {c d : Chunk} : Ent (sepC c d) d := fun w F ⟨G, K, h1, _, _, h4⟩ => ⟨K, h4, fun b hb => (h1 b).2 (.inr hb)⟩
theorem Ent.emp {c : Chunk} : Ent c emp := fun _ _ _ => ⟨fun _ => False, fun _ h => h, fun _ h => h.elim⟩
theorem Ent.fst {c d e : Chunk} (h : Ent c e) : Ent (sepC c d) e := Ent.left.trans h

def allC : List Chunk → Chunk
  | [] => emp
  | c :: r => sepC c (allC r)
theorem Lies.all : ∀ {H : List Chunk} {φ : Nat → Nat → Prop} {w : World}, Lies H φ w → (allC H).holds w (fun b => ∃ q, φ q b)
  | [], φ, w, h => fun b ⟨q, hb⟩ => absurd (h.bound q b hb) (Nat.not_lt_zero _)
  | c :: r, φ, w, h => by
    have h' : Lies r (fun q => φ (q + 1)) w := ⟨fun q d hq => h.holds (q + 1) d (by simpa using hq), fun p q b hp hq => by have := h.apart _ _ b hp hq; omega, fun q b hb => by have := h.bound _ b hb; simpa using this⟩
    refine ⟨φ 0, fun b => ∃ q, φ (q + 1) b, fun b => ⟨fun ⟨q, hb⟩ => ?_, fun hb => ?_⟩, fun b hb ⟨q, hb'⟩ => ?_, h.holds 0 c rfl, Lies.all h'⟩
    · cases q with
      | zero => exact .inl hb
      | succ q => exact .inr ⟨q, hb⟩
    · rcases hb with hb | ⟨q, hb⟩
      · exact ⟨0, hb⟩
      · exact ⟨q + 1, hb⟩
    · have := h.apart _ _ b hb hb'
      omega

/-- A function that turns a chunk: called with As and c it ends with R x and c' x for some x, and turns no more than c's blocks. -/
def SpcC (P : Program) (f : FuncId) (As : List Fa) (c : Chunk) {X : Type} (ok : X → Prop) (R : X → Fa) (c' : X → Chunk) : Prop :=
  ∀ (w : World) (args : List Value) (F : Nat → Prop), Fa.dens As w args → c.holds w F → Calls P f args.toArray w fun e w' =>
    ∃ v x, e = .returned v ∧ ok x ∧ Kept F w w' ∧ (R x).den w' v ∧ ∃ F', (c' x).holds w' F' ∧ ∀ b, F' b → F b ∨ w.heap.size ≤ b
/-- A function that reads a chunk. -/
def SpcR (P : Program) (f : FuncId) (As : List Fa) (c : Chunk) (R : Nat → Fa) : Prop :=
  ∀ (w : World) (args : List Value) (F : Nat → Prop), Fa.dens As w args → c.holds w F → Calls P f args.toArray w fun e w' => ∃ v, e = .returned v ∧ Below w.heap.size w w' ∧ ∀ B, B ≤ w.heap.size → (R B).den w' v

section
variable {P : Program} {ops : Array Oper} {Q : Exit → Act → World → Prop} {n : Nat} {I : World → Prop} {k i : Nat} {E : Env} {o : Oper} {d : Bool} {A : Nat → Prop} {H : List Chunk} {key : Nat}

/-- An operation that turns chunks. -/
theorem Plan.turn (ho : ops[i]? = some o) (hg : wantB ops E o = some true) (hd : ∀ d, o.dst = some d → d < n) (hk : look E key = some (heap A H)) (hA : Own I A)
    (h : ∀ a w φ, I w → Sat E a w → (∀ x, x ∈ o.op.operands → ∀ f, opF E x = some f → f.den w (a.eval x)) → Lies H φ w → (∀ q b, φ q b → A b) → (∀ b, w.heap.size ≤ b → A b) → Sh n a →
      wpOp P ops Q i (fun a' w' => ∃ v F H' φ', a' = a.put o.dst v ∧ Kept A w w' ∧ Lies H' φ' w' ∧ (∀ q b, φ' q b → A b) ∧ F.den w' v ∧ Plan P ops Q n I d k (i + 1) (setE o.dst F ((key, heap A H') :: sieve E))) a w)
    (hq : d = false ∨ barB ops i = true) : Plan P ops Q n I d (k + 1) i E := by
  refine .inr ⟨hq, ?_⟩
  intro a w hI hsh hs
  obtain ⟨φ, hL, hLA⟩ := hs key _ hk
  refine wpOp_mono ?_ (h a w φ hI hs (fun x hx f hf => opF_den ho hx (fun t _ f hf => hs t f hf) hf) hL hLA (hA.fresh w hI) hsh)
  rintro a' w' ⟨v, F, H', φ', rfl, hK, hL', hLA', hF, hp⟩
  refine ⟨_, hp, hA.turn w w' hI hK, hsh.put _ _, ?_⟩
  have hs' : Sat ((key, heap A H') :: sieve E) a w' := by
    intro t f hf
    simp only [look] at hf
    by_cases ht : key = t
    · rw [if_pos ht] at hf; cases hf; exact ⟨φ', hL', hLA'⟩
    · rw [if_neg ht] at hf; exact sieve_sat hs w' t f hf
  intro t f hf
  cases hdst : o.dst with
  | none => rw [hdst] at hf; exact hs' t f hf
  | some dd =>
    rw [hdst] at hf
    simp only [setE, look] at hf
    by_cases hdt : dd = t
    · subst hdt
      simp only [if_true, Option.some.injEq] at hf
      subst hf
      rw [slot_put_same hsh (hd dd hdst)]
      exact hF
    · rw [if_neg hdt] at hf
      rw [slot_put_ne a hdt]
      have : look ((key, heap A H') :: sieve E) t = some f := by simpa only [look] using hf
      exact hs' t f this

/-- As it runs within the function. -/
theorem Plan.turnRun (ho : ops[i]? = some o) (hg : wantB ops E o = some true) (hd : ∀ d, o.dst = some d → d < n) (hk : look E key = some (heap A H)) (hA : Own I A)
    (h : ∀ a w φ, I w → Sat E a w → (∀ x, x ∈ o.op.operands → ∀ f, opF E x = some f → f.den w (a.eval x)) → Lies H φ w → (∀ q b, φ q b → A b) → (∀ b, w.heap.size ≤ b → A b) →
      ∃ v w' F H' φ', ((execOp a.eval o).run P w = .ok (.value v) w' ∨ ((execOp a.eval o).run P w = .ok .skip w' ∧ v = undef)) ∧ Kept A w w' ∧ Lies H' φ' w' ∧ (∀ q b, φ' q b → A b) ∧ F.den w' v ∧ Plan P ops Q n I d k (i + 1) (setE o.dst F ((key, heap A H') :: sieve E)))
    (hq : d = false ∨ barB ops i = true) : Plan P ops Q n I d (k + 1) i E :=
  Plan.turn ho hg hd hk hA (fun a w φ h1 h2 h3 h4 h5 h6 hsh => by
    obtain ⟨v, w', F, H', φ', hr, r⟩ := h a w φ h1 h2 h3 h4 h5 h6
    unfold wpOp
    simp only [ho, wantB_spec ho hsh (fun t _ f hf => h2 t f hf) hg, if_true]
    refine .inl ?_
    unfold Oper.wp
    rcases hr with hr | ⟨hr, rfl⟩ <;> rw [hr] <;> exact ⟨_, F, H', φ', rfl, r⟩) hq

theorem wide {H : List Chunk} {φ : Nat → Nat → Prop} {q : Nat} {w : World} {F : Nat → Prop} (h : ∀ q b, φ q b → A b) (h2 : ∀ b, w.heap.size ≤ b → A b) (hF : ∀ b, F b → φ q b ∨ w.heap.size ≤ b) : ∀ p b, (if p = q then F b else φ p b) → A b := fun p b hb => by
  by_cases he : p = q
  · rw [if_pos he] at hb
    exact (hF b hb).elim (h q b) (h2 b)
  · rw [if_neg he] at hb; exact h p b hb

/-- A store of one value, or of a struct, into a chunk. -/
theorem Plan.storeC {t : TypeId} {p x : Operand} {β off q : Nat} {c c' : Chunk} {v : Value} (ho : ops[i]? = some o) (hop : o.op = .store t p x) (hdst : o.dst = none) (hg : wantB ops E o = some true)
    (hp : opF E p = some (.ex (.pointer (some ⟨β, off, none⟩)))) (hx : opF E x = some (.ex v)) (hone : ∀ u ∈ v.cells.toList, u.oneCell' = true) (hi : (P.info? t).map (·.size) = some v.cells.size)
    (hk : look E key = some (heap A H)) (hA : Own I A) (hqH : H[q]? = some c) (hpat : c.pat β off v.cells.toList c')
    (h : Plan P ops Q n I d k (i + 1) ((key, heap A (H.set q c')) :: sieve E)) (hq : d = false ∨ barB ops i = true := by first | exact .inl rfl | exact .inr (by kernel_rfl)) : Plan P ops Q n I d (k + 1) i E :=
  Plan.turnRun ho hg (by rw [hdst]; intro _ e; cases e) hk hA (fun a w φ _ _ hs' hL hLA hfr => by
    have e1 := hs' p (by simp [hop, Op.operands]) _ hp
    have e2 := hs' x (by simp [hop, Op.operands]) _ hx
    simp only [Fa.den] at e1 e2
    obtain ⟨hβ, cur, e, hh, hle, hc'⟩ := hpat w (φ q) (hL.holds q c hqH)
    have hst := run_storeCells_at P β off e v.cells.toList 0 cur w hh (by simpa using hle) hone
    simp only [Nat.add_zero] at hst
    obtain ⟨inf, hi1, hi2⟩ : ∃ inf, P.info? t = some inf ∧ inf.size = v.cells.size := by
      cases hinf : P.info? t with
      | none => rw [hinf] at hi; cases hi
      | some inf => rw [hinf] at hi; exact ⟨inf, rfl, by simpa using hi⟩
    obtain ⟨w', hw'⟩ : ∃ w', w' = w.setRow β (cur.toList.take off ++ v.cells.toList ++ cur.toList.drop (off + v.cells.toList.length)).toArray := ⟨_, rfl⟩
    rw [← hw'] at hst
    have hK : Kept (φ q) w w' := by
      subst hw'
      exact ⟨rfl, rfl, rfl, by simp, fun kk _ hkk => setRow_other w β kk _ (fun e => hkk (by rw [e]; exact hβ))⟩
    have hc2 := hc' w' (by subst hw'; exact setRow_heap w β cur _ e _ hh)
    have hqlt : q < H.length := (List.getElem?_eq_some_iff.1 hqH).1
    have hL' := hL.upd hqlt hK hc2 (fun b hb => .inl hb)
    refine ⟨undef, w', .ex undef, H.set q c', _, .inr ⟨?_, rfl⟩, hK.mono (fun b _ hb => hLA q b hb), hL', wide (H := H) hLA hfr (fun b hb => .inl hb), by simp [Fa.den], by rw [hdst]; exact h⟩
    simp [execOp, hop, e1, e2, Instr.storeAt, Instr.sureAddr, storeVar, sizeOf, typeInfo, hi1, hi2, hst]) hq

/-- A load of one value out of a chunk. -/
theorem Plan.loadC {t : TypeId} {u : TypeDesc} {x : Operand} {β off q : Nat} {c : Chunk} {v : Value} (ho : ops[i]? = some o) (hop : o.op = .load t x) (hg : wantB ops E o = some true)
    (hx : opF E x = some (.ex (.pointer (some ⟨β, off, none⟩)))) (hk : look E key = some (heap A H)) (hqH : H[q]? = some c) (hr : c.reads β off [v]) (hu : P.underlying t = some u) (hna : aggB u = false) (hkn : n ≤ key)
    (h : Plan P ops Q n I d k (i + 1) (setE o.dst (.ex v) E)) : Plan P ops Q n I d (k + 1) i E :=
  Plan.step ho (Step.runK ho hg fun a w _ hs' hK => by
    have e1 := hs' x (by simp [hop, Op.operands]) _ hx
    simp only [Fa.den] at e1
    obtain ⟨φ, hL, _⟩ := hK key hkn _ hk
    have hc := hr w (φ q) (hL.holds q c hqH) 0 v rfl
    simp only [Nat.add_zero] at hc
    refine ⟨v, w, ?_, Below.refl _ _, by simp [Fa.den]⟩
    have hagg : (isAgg t).run P w = .ok false w := by
      cases u <;> simp [aggB] at hna <;> simp [isAgg, run_underlying hu]
    simp [execOp, hop, e1, Instr.loadAt, Instr.sureAddr, loadVar, hagg, run_load, hc]) h
/-- A load of a struct out of a chunk. -/
theorem Plan.loadAggC {t : TypeId} {u : TypeDesc} {x : Operand} {β off q : Nat} {c : Chunk} {vs : List Value} (ho : ops[i]? = some o) (hop : o.op = .load t x) (hg : wantB ops E o = some true)
    (hx : opF E x = some (.ex (.pointer (some ⟨β, off, none⟩)))) (hk : look E key = some (heap A H)) (hqH : H[q]? = some c) (hr : c.reads β off vs) (hu : P.underlying t = some u) (hna : aggB u = true) (hi : (P.info? t).map (·.size) = some vs.length) (hkn : n ≤ key)
    (h : Plan P ops Q n I d k (i + 1) (setE o.dst (.ex (.agg vs.toArray)) E)) : Plan P ops Q n I d (k + 1) i E :=
  Plan.step ho (Step.runK ho hg fun a w _ hs' hK => by
    have e1 := hs' x (by simp [hop, Op.operands]) _ hx
    simp only [Fa.den] at e1
    obtain ⟨φ, hL, _⟩ := hK key hkn _ hk
    have hc := hr w (φ q) (hL.holds q c hqH)
    obtain ⟨inf, hi1, hi2⟩ : ∃ inf, P.info? t = some inf ∧ inf.size = vs.length := by
      cases hinf : P.info? t with
      | none => rw [hinf] at hi; cases hi
      | some inf => rw [hinf] at hi; exact ⟨inf, rfl, by simpa using hi⟩
    refine ⟨.agg vs.toArray, w, ?_, Below.refl _ _, by simp [Fa.den]⟩
    have hagg : (isAgg t).run P w = .ok true w := by
      cases u <;> simp [aggB] at hna <;> simp [isAgg, run_underlying hu]
    have hl := run_loadCellsFrom (P := P) ⟨β, off, none⟩ w vs.length 0 #[] vs rfl (fun j u hu => by rw [Nat.zero_add, add_at]; exact hc j u hu)
    simp [execOp, hop, e1, Instr.loadAt, Instr.sureAddr, loadVar, hagg, sizeOf, typeInfo, hi1, hi2, loadCells, hl]) h

theorem Plan.fieldC {s : TypeId} {x : Operand} {β o0 f off : Nat} {fs : Array Field} {fld : Field} (ho : ops[i]? = some o) (hop : o.op = .fieldAddr s x f) (hg : wantB ops E o = some true)
    (hx : opF E x = some (.ex (.pointer (some ⟨β, o0, none⟩)))) (hu : P.underlying s = some (.struct fs)) (hf : fs[f]? = some fld) (hi : ((P.info? fld.type).map fun i => decide (0 < i.size)) = some true) (hoff : o0 + fld.offset = off)
    (h : Plan P ops Q n I d k (i + 1) (setE o.dst (.ex (.pointer (some ⟨β, off, none⟩))) E)) : Plan P ops Q n I d (k + 1) i E :=
  Plan.step ho (Step.run ho hg fun a w _ hs' => by
    have e1 := hs' x (by simp [hop, Op.operands]) _ hx
    simp only [Fa.den] at e1
    obtain ⟨inf, hi1, hi2⟩ : ∃ inf, P.info? fld.type = some inf ∧ ¬ inf.size = 0 := by
      cases hinf : P.info? fld.type with
      | none => rw [hinf] at hi; cases hi
      | some inf => rw [hinf] at hi; exact ⟨inf, rfl, by simp at hi; omega⟩
    refine ⟨.pointer (some ⟨β, off, none⟩), w, ?_, Below.refl _ _, by simp [Fa.den]⟩
    simp [execOp, hop, e1, Instr.fieldAt, Instr.sureAddr, run_underlying hu, hf, fieldPlace, sizeOf, typeInfo, hi1, hi2, add_at, hoff]) h

theorem Plan.nilOk {x : Operand} {ad : Addr} (ho : ops[i]? = some o) (hop : o.op = .nilCheck x) (hg : wantB ops E o = some true) (hx : opF E x = some (.ex (.pointer (some ad))))
    (h : Plan P ops Q n I d k (i + 1) (setE o.dst (.ex (.pointer (some ad))) E)) : Plan P ops Q n I d (k + 1) i E :=
  Plan.step ho (Step.run ho hg fun a w _ hs' => by
    have e1 := hs' x (by simp [hop, Op.operands]) _ hx
    simp only [Fa.den] at e1
    exact ⟨.pointer (some ad), w, by simp [execOp, hop, e1], Below.refl _ _, by simp [Fa.den]⟩) h

/-- A new variable. -/
theorem Plan.allocC {t : TypeId} {z : Value} (ho : ops[i]? = some o) (hop : o.op = .alloc t) (hg : wantB ops E o = some true) (hd : ∀ d, o.dst = some d → d < n) (hz : (P.info? t).bind (·.zero) = some z)
    (hk : look E key = some (heap A H)) (hA : Own I A)
    (h : ∀ β, Plan P ops Q n I d k (i + 1) (setE o.dst (.ex (ptr β)) ((key, heap A (H ++ [obj β z.cells.toList])) :: sieve E))) (hq : d = false ∨ barB ops i = true := by first | exact .inl rfl | exact .inr (by kernel_rfl)) : Plan P ops Q n I d (k + 1) i E :=
  Plan.turnRun ho hg hd hk hA (fun a w φ _ _ _ hL hLA hfr => by
    obtain ⟨inf, hi1, hi2⟩ : ∃ inf, P.info? t = some inf ∧ inf.zero = some z := by
      cases hinf : P.info? t with
      | none => rw [hinf] at hz; cases hz
      | some inf => rw [hinf] at hz; exact ⟨inf, rfl, by simpa using hz⟩
    have hb : Below w.heap.size w (w.alloc (.cells z.cells t)) := (Below.refl _ _).alloc (Nat.le_refl _) _
    have hL' := hL.add (c' := obj w.heap.size z.cells.toList) (F := fun b => b = w.heap.size) hb ⟨⟨t, by rw [Array.toArray_toList]; exact heap_alloc_new w _⟩, fun b => Iff.rfl⟩ (fun b e => Nat.le_of_eq e.symm)
    refine ⟨ptr w.heap.size, w.alloc (.cells z.cells t), .ex (ptr w.heap.size), _, _, .inl ?_, .ofBelow hb, hL', fun q b hb => ?_, by simp [Fa.den], h w.heap.size⟩
    · simp [execOp, hop, Instr.alloc, zeroValue, typeInfo, hi1, hi2, newVar, newRow]
    · by_cases he : q = H.length
      · simp only [if_pos he] at hb; exact hfr b (Nat.le_of_eq hb.symm)
      · simp only [if_neg he] at hb; exact hLA q b hb) hq

/-- A call that turns chunk q. -/
theorem Plan.callC {f : FuncId} {xs : List Operand} {ts : Array TypeId} {fs : List Fa} {c : Chunk} {X : Type} {ok : X → Prop} {R : X → Fa} {c' : X → Chunk} {fn : Func} {q : Nat} (ho : ops[i]? = some o)
    (hop : o.op = .call { callee := .value (.func f), args := xs.toArray, argTypes := ts }) (hg : wantB ops E o = some true) (hc : SpcC P f fs c ok R c')
    (hf : P.funcs[f]? = some fn) (hbody : fn.body.isNone = false) (hname : (fn.name == "runtime.NumGoroutine") = false) (hd : ∀ d, o.dst = some d → d < n)
    (hx : Opnds I E xs fs) (hk : look E key = some (heap A H)) (hA : Own I A) (hqH : H[q]? = some c)
    (h : ∀ x, ok x → Plan P ops Q n I d k (i + 1) (setE o.dst (R x) ((key, heap A (H.set q (c' x))) :: sieve E))) (hq : d = false ∨ barB ops i = true := by first | exact .inl rfl | exact .inr (by kernel_rfl)) : Plan P ops Q n I d (k + 1) i E :=
  Plan.turn ho hg hd hk hA (fun a w φ hI hs hs' hL hLA hfr hsh => by
    unfold wpOp
    simp only [ho, wantB_spec ho hsh (fun t _ f hf => hs t f hf) hg, if_true]
    refine .inl ?_
    unfold Oper.wp
    have hrun : (execOp a.eval o).run P w = .ok (.enter f (xs.map a.eval).toArray) w := by
      have hn : ¬ fn.name = "runtime.NumGoroutine" := by simpa using hname
      have hb : ¬ fn.body = none := by intro e; rw [e] at hbody; cases hbody
      simp [execOp, hop, resolve, invoke, callFunc, Deferred.ofValue, Act.eval, hf, hb, hn]
    rw [hrun]
    simp only [Oper.upon]
    have hden := Opnds.dens (a := a) hI hx (fun x hxm f hf => hs' x (by simp [hop, Op.operands, Call.operands, hxm]) f hf)
    refine (hc w _ (φ q) hden (hL.holds q c hqH)).mono ?_
    rintro e w' ⟨v, x, rfl, hok, hK, hR, F', hF', hFb⟩
    have hqlt : q < H.length := (List.getElem?_eq_some_iff.1 hqH).1
    exact ⟨v, R x, H.set q (c' x), _, rfl, hK.mono (fun b _ hb => hLA q b hb), hL.upd hqlt hK hF' hFb, wide (H := H) hLA hfr hFb, hR, h x hok⟩) hq

/-- A call that makes a chunk. -/
theorem Plan.callN {f : FuncId} {xs : List Operand} {ts : Array TypeId} {fs : List Fa} {X : Type} {ok : X → Prop} {R : X → Fa} {c' : X → Chunk} {fn : Func} (ho : ops[i]? = some o)
    (hop : o.op = .call { callee := .value (.func f), args := xs.toArray, argTypes := ts }) (hg : wantB ops E o = some true) (hc : SpcC P f fs emp ok R c')
    (hf : P.funcs[f]? = some fn) (hbody : fn.body.isNone = false) (hname : (fn.name == "runtime.NumGoroutine") = false) (hd : ∀ d, o.dst = some d → d < n)
    (hx : Opnds I E xs fs) (hk : look E key = some (heap A H)) (hA : Own I A)
    (h : ∀ x, ok x → Plan P ops Q n I d k (i + 1) (setE o.dst (R x) ((key, heap A (H ++ [c' x])) :: sieve E))) (hq : d = false ∨ barB ops i = true := by first | exact .inl rfl | exact .inr (by kernel_rfl)) : Plan P ops Q n I d (k + 1) i E :=
  Plan.turn ho hg hd hk hA (fun a w φ hI hs hs' hL hLA hfr hsh => by
    unfold wpOp
    simp only [ho, wantB_spec ho hsh (fun t _ f hf => hs t f hf) hg, if_true]
    refine .inl ?_
    unfold Oper.wp
    have hrun : (execOp a.eval o).run P w = .ok (.enter f (xs.map a.eval).toArray) w := by
      have hn : ¬ fn.name = "runtime.NumGoroutine" := by simpa using hname
      have hb : ¬ fn.body = none := by intro e; rw [e] at hbody; cases hbody
      simp [execOp, hop, resolve, invoke, callFunc, Deferred.ofValue, Act.eval, hf, hb, hn]
    rw [hrun]
    simp only [Oper.upon]
    have hden := Opnds.dens (a := a) hI hx (fun x hxm f hf => hs' x (by simp [hop, Op.operands, Call.operands, hxm]) f hf)
    refine (hc w _ (fun _ => False) hden (fun _ e => e)).mono ?_
    rintro e w' ⟨v, x, rfl, hok, hK, hR, F', hF', hFb⟩
    have hB : Below w.heap.size w w' := hK.below (fun _ _ e => e)
    refine ⟨v, R x, H ++ [c' x], _, rfl, .ofBelow hB, hL.add hB hF' (fun b hb => (hFb b hb).resolve_left id), fun q b hb => ?_, hR, h x hok⟩
    by_cases he : q = H.length
    · simp only [if_pos he] at hb; exact hfr b ((hFb b hb).resolve_left id)
    · simp only [if_neg he] at hb; exact hLA q b hb) hq

/-- A call that reads chunk q. -/
theorem Plan.callR {f : FuncId} {xs : List Operand} {ts : Array TypeId} {fs : List Fa} {c : Chunk} {R : Nat → Fa} {fn : Func} {q B : Nat} (ho : ops[i]? = some o)
    (hop : o.op = .call { callee := .value (.func f), args := xs.toArray, argTypes := ts }) (hg : wantB ops E o = some true) (hc : SpcR P f fs c R)
    (hf : P.funcs[f]? = some fn) (hbody : fn.body.isNone = false) (hname : (fn.name == "runtime.NumGoroutine") = false) (hB : ∀ w, I w → B ≤ w.heap.size)
    (hx : Opnds I E xs fs) (hk : look E key = some (heap A H)) (hqH : H[q]? = some c) (hkn : n ≤ key)
    (h : Plan P ops Q n I d k (i + 1) (setE o.dst (R B) E)) : Plan P ops Q n I d (k + 1) i E :=
  Plan.step (F := R B) ho (fun a w hI hsh hs => by
    unfold wpOp
    simp only [ho, wantB_spec ho hsh (fun t ht => hs t (.inl ht)) hg, if_true]
    refine .inl ?_
    unfold Oper.wp
    have hrun : (execOp a.eval o).run P w = .ok (.enter f (xs.map a.eval).toArray) w := by
      have hn : ¬ fn.name = "runtime.NumGoroutine" := by simpa using hname
      have hb : ¬ fn.body = none := by intro e; rw [e] at hbody; cases hbody
      simp [execOp, hop, resolve, invoke, callFunc, Deferred.ofValue, Act.eval, hf, hb, hn]
    rw [hrun]
    simp only [Oper.upon]
    obtain ⟨φ, hL, _⟩ := hs key (.inr hkn) _ hk
    have hden := Opnds.dens (a := a) hI hx (fun x hxm f hf => opF_den ho (by simp [hop, Op.operands, Call.operands, hxm]) (fun t ht => hs t (.inl ht)) hf)
    refine (hc w _ (φ q) hden (hL.holds q c hqH)).mono ?_
    rintro e w' ⟨v, rfl, hb, hR⟩
    exact ⟨v, by rw [dst_of ho], hb, hR B (hB w hI)⟩) h
end
end Go.Free
