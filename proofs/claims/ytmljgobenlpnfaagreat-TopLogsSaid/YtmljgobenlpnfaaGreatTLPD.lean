/-
  Laid together: FreePick, FreeFrame, FreeFrame2, FreeScrib, FreeBase, FreeBorrow, EvBase, SortFns, CrcPlain, CrcFns, CrcFns2, CrcRef, CrcLaws, CrcRef2, FrameFns, FrameRef, FrameLaws, FrameScan, FrameTexts, FrameLaid, FrameJoin, FrameCut, EvFns.
-/
import Derived.Test.YtmljgobenlpnfaaGreatTLPC
set_option linter.unusedSimpArgs false
set_option linter.unusedVariables false
set_option maxRecDepth 20000

section
namespace Go.Free
open Go.RowKit
def pick (H : List Chunk) (qs : List Nat) : List Chunk := qs.map fun q => (H[q]?).getD emp
def nodupB : List Nat → Bool
  | [] => true
  | q :: r => r.all (fun p => p != q) && nodupB r
theorem nodup_at {qs : List Nat} (h : nodupB qs = true) : ∀ {i j q : Nat}, qs[i]? = some q → qs[j]? = some q → i = j := by
  induction qs with
  | nil => intro i j q hi; simp at hi
  | cons p r ih =>
    simp only [nodupB, Bool.and_eq_true, List.all_eq_true, bne_iff_ne, ne_eq] at h
    intro i j q hi hj
    cases i with
    | zero =>
      cases j with
      | zero => rfl
      | succ j =>
        simp only [List.getElem?_cons_zero, Option.some.injEq] at hi
        subst hi
        exact absurd rfl (h.1 p (List.mem_of_getElem? (by simpa using hj)))
    | succ i =>
      cases j with
      | zero =>
        simp only [List.getElem?_cons_zero, Option.some.injEq] at hj
        subst hj
        exact absurd rfl (h.1 p (List.mem_of_getElem? (by simpa using hi)))
      | succ j => exact congrArg (· + 1) (ih h.2 (q := q) (by simpa using hi) (by simpa using hj))
theorem Lies.pick {H : List Chunk} {φ : Nat → Nat → Prop} {w : World} (h : Lies H φ w) (qs : List Nat) (hn : nodupB qs = true) : Lies (Free.pick H qs) (fun i b => ∃ q, qs[i]? = some q ∧ φ q b) w := by
  refine ⟨fun i c hi => ?_, fun i j b ⟨q, h1, h2⟩ ⟨q', h3, h4⟩ => ?_, fun i b ⟨q, h1, h2⟩ => ?_⟩
  · simp only [Free.pick, List.getElem?_map, Option.map_eq_some_iff] at hi
    obtain ⟨q, hq, rfl⟩ := hi
    have hF : (fun b => ∃ q', qs[i]? = some q' ∧ φ q' b) = φ q := by
      funext b; apply propext
      exact ⟨fun ⟨q', h1, h2⟩ => by rw [hq] at h1; cases h1; exact h2, fun hb => ⟨q, hq, hb⟩⟩
    rw [hF]
    cases hH : H[q]? with
    | none => exact fun b hb => by have := h.bound q b hb; have := List.getElem?_eq_none_iff.1 hH; omega
    | some c => exact h.holds q c hH
  · have := h.apart q q' b h2 h4
    subst this
    exact nodup_at hn h1 h3
  · simp only [Free.pick, List.length_map]
    exact (List.getElem?_eq_some_iff.1 h1).1
theorem Ent.pickC {H H' : List Chunk} (qs : List Nat) (hp : Free.pick H qs = H') (hn : nodupB qs = true) : Ent (allC H) (allC H') := fun w F h => by
  obtain ⟨φ, hL, hF⟩ := Lies.ofAll h
  subst hp
  exact ⟨_, (hL.pick qs hn).all, fun b ⟨i, q, _, hb⟩ => hF q b hb⟩
theorem Ent.assocR {c d e : Chunk} : Ent (sepC (sepC c d) e) (sepC c (sepC d e)) := fun w F ⟨G, K, h1, h2, ⟨G1, G2, g1, g2, g3, g4⟩, h4⟩ =>
  ⟨F, ⟨G1, fun b => G2 b ∨ K b, fun b => (h1 b).trans ⟨fun h => h.elim (fun h => ((g1 b).1 h).elim .inl (fun h => .inr (.inl h))) (fun h => .inr (.inr h)), fun h => h.elim (fun h => .inl ((g1 b).2 (.inl h))) (fun h => h.elim (fun h => .inl ((g1 b).2 (.inr h))) .inr)⟩,
    fun b hb hc => hc.elim (g2 b hb) (h2 b ((g1 b).2 (.inl hb))), g3, G2, K, fun b => Iff.rfl, fun b hb hc => h2 b ((g1 b).2 (.inr hb)) hc, g4, h4⟩, fun _ h => h⟩
theorem Ent.assocL {c d e : Chunk} : Ent (sepC c (sepC d e)) (sepC (sepC c d) e) := fun w F ⟨G, K, h1, h2, h3, K1, K2, k1, k2, k3, k4⟩ =>
  ⟨F, ⟨fun b => G b ∨ K1 b, K2, fun b => (h1 b).trans ⟨fun h => h.elim (fun h => .inl (.inl h)) (fun h => ((k1 b).1 h).elim (fun h => .inl (.inr h)) .inr), fun h => h.elim (fun h => h.elim .inl (fun h => .inr ((k1 b).2 (.inl h)))) (fun h => .inr ((k1 b).2 (.inr h)))⟩,
    fun b hb hc => hb.elim (fun hb => h2 b hb ((k1 b).2 (.inr hc))) (fun hb => k2 b hb hc), ⟨G, K1, fun b => Iff.rfl, fun b hb hc => h2 b hb ((k1 b).2 (.inl hc)), h3, k3⟩, k4⟩, fun _ h => h⟩
theorem Ent.splitC : ∀ {H1 H2 : List Chunk}, Ent (allC (H1 ++ H2)) (sepC (allC H1) (allC H2))
  | [], H2 => fun w F h => ⟨F, ⟨fun _ => False, F, fun b => ⟨.inr, fun h => h.elim (fun e => e.elim) id⟩, fun _ e _ => e, fun _ e => e, h⟩, fun _ h => h⟩
  | c :: r, H2 => (Ent.sep (Ent.refl c) (Ent.splitC (H1 := r))).trans Ent.assocL
theorem Ent.joinC : ∀ {H1 H2 : List Chunk}, Ent (sepC (allC H1) (allC H2)) (allC (H1 ++ H2))
  | [], H2 => Ent.right
  | c :: r, H2 => Ent.assocR.trans (Ent.sep (Ent.refl c) (Ent.joinC (H1 := r)))
theorem Sub.heap {I : World → Prop} {A : Nat → Prop} {H H' : List Chunk} (he : Ent (allC H) (allC H')) : Sub I (Free.heap A H) (Free.heap A H') := fun w v _ hh => by
  obtain ⟨φ, hL, hA⟩ := hh
  obtain ⟨G, g1, g2⟩ := he w _ hL.all
  obtain ⟨φ', hL', hF⟩ := Lies.ofAll g1
  exact ⟨φ', hL', fun q b hb => by obtain ⟨p, hp⟩ := g2 b (hF q b hb); exact hA p b hp⟩
section
variable {P : Program} {ops : Array Oper} {Q : Exit → Act → World → Prop} {n : Nat} {I : World → Prop} {k i : Nat} {E : Env} {o : Oper} {d : Bool} {A : Nat → Prop} {H : List Chunk} {key : Nat}
theorem Plan.callL {f : FuncId} {xs : List Operand} {ts : Array TypeId} {fs : List Fa} {Hc Hr : List Chunk} {X : Type} {ok : X → Prop} {R : X → Fa} {c' : X → List Chunk} {fn : Func} (qs rs : List Nat) (ho : ops[i]? = some o)
    (hop : o.op = .call { callee := .value (.func f), args := xs.toArray, argTypes := ts }) (hg : wantB ops E o = some true) (hc : SpcC P f fs (allC Hc) ok R (fun x => allC (c' x)))
    (hf : P.funcs[f]? = some fn) (hbody : fn.body.isNone = false) (hname : (fn.name == "runtime.NumGoroutine") = false) (hd : ∀ d, o.dst = some d → d < n)
    (hx : Opnds I E xs fs) (hk : look E key = some (heap A H)) (hA : Own I A) (hp : Free.pick H qs = Hc) (hr : Free.pick H rs = Hr) (hn : nodupB (qs ++ rs) = true)
    (h : ∀ x, ok x → Plan P ops Q n I d k (i + 1) (setE o.dst (R x) ((key, heap A (c' x ++ Hr)) :: sieve E))) (hq : d = false ∨ barB ops i = true := by first | exact .inl rfl | exact .inr (by kernel_rfl)) : Plan P ops Q n I d (k + 1) i E :=
  Plan.callG (allC Hr) (fun x => c' x ++ Hr) ho hop hg hc hf hbody hname hd hx hk hA ((Ent.pickC (qs ++ rs) (by rw [Free.pick, List.map_append]; exact (congrArg (· ++ _) hp).trans (congrArg (Hc ++ ·) hr)) hn).trans Ent.splitC) (fun x => Ent.joinC) h hq
theorem J.open1 {c : Code} {Hc : List Chunk} (hk : look E key = some (heap A [allC Hc])) (h : J P n I c Q ((key, heap A Hc) :: E)) : J P n I c Q E := J.regroup Hc hk Ent.one h
end
end Go.Free
end

section
namespace Go.Free
open Go.RowKit
def framed (I : World → Prop) (β : Nat) (cs : List Value) (w : World) : Prop := I w ∧ ∃ e, w.heap[β]? = some (.cells cs.toArray e (0, 0))
theorem framed_I {I : World → Prop} {β : Nat} {cs : List Value} (hI : ∀ w w', I w → Below w.heap.size w w' → I w') : ∀ w w', framed I β cs w → Below w.heap.size w w' → framed I β cs w' := fun w w' ⟨h1, e, h2⟩ hb =>
  ⟨hI w w' h1 hb, e, by rw [hb.block β (Array.getElem?_eq_some_iff.1 h2).1]; exact h2⟩
theorem framed_own {I : World → Prop} {A : Nat → Prop} {β : Nat} {cs : List Value} (hA : Own I A) : Own (framed I β cs) (fun b => A b ∧ b ≠ β) :=
  ⟨fun w ⟨h1, e, h2⟩ b hb => ⟨hA.fresh w h1 b hb, fun hbe => by have := (Array.getElem?_eq_some_iff.1 h2).1; omega⟩,
   fun w w' ⟨h1, e, h2⟩ hk => ⟨hA.turn w w' h1 (hk.mono fun b _ hb => hb.1), e, by rw [hk.block β (Array.getElem?_eq_some_iff.1 h2).1 (fun hb => hb.2 rfl)]; exact h2⟩⟩
theorem framed_cell {I : World → Prop} {β off : Nat} {cs us : List Value} (h : (cs.drop off).take us.length = us) : ∀ w, framed I β cs w → ∀ j u, us[j]? = some u → w.cell? ⟨β, off + j, none⟩ = some u := fun w ⟨_, e, hh⟩ j u hu => by
  simp only [World.cell?, hh, Option.isSome_none, Bool.false_eq_true, if_false, List.getElem?_toArray]
  have hj : j < us.length := (List.getElem?_eq_some_iff.1 hu).1
  rw [← h, List.getElem?_take, if_pos hj, List.getElem?_drop] at hu
  exact hu
section
variable {P : Program} {ops : Array Oper} {Q : Exit → Act → World → Prop} {n : Nat} {I : World → Prop} {k i : Nat} {E : Env} {o : Oper} {d : Bool} {A : Nat → Prop} {H : List Chunk} {key : Nat}
theorem J.frame {c : Code} {β : Nat} {cs : List Value} (q : Nat) (hk : look E key = some (heap A H)) (hq : H[q]? = some (obj β cs)) (h : A β → J P n (framed I β cs) c Q ((key, heap (fun b => A b ∧ b ≠ β) (H.eraseIdx q)) :: E)) : J P n I c Q E := fun a w h1 h2 h3 => by
  obtain ⟨φ, hL, hLA⟩ := h3 key _ hk
  have hob := hL.holds q _ hq
  obtain ⟨⟨e, hh⟩, hF⟩ := hob
  have hqβ : φ q β := (hF β).2 rfl
  have hne : ∀ p b, p ≠ q → φ p b → b ≠ β := fun p b hp hb he => by subst he; exact hp (hL.apart p q _ hb hqβ)
  refine h (hLA q β hqβ) a w ⟨h1, e, hh⟩ h2 (heap_put h3 (φ := fun p b => φ (if p < q then p else p + 1) b) ⟨fun p c hp => ?_, fun p p' b hp hp' => ?_, fun p b hp => ?_⟩ (fun p b hb => ⟨hLA _ b hb, hne _ b ?_ hb⟩))
  · refine hL.holds _ c ?_
    rw [List.getElem?_eraseIdx] at hp
    by_cases hpq : p < q
    · rw [if_pos hpq] at hp; rw [if_pos hpq]; exact hp
    · rw [if_neg hpq] at hp; rw [if_neg hpq]; exact hp
  · have := hL.apart _ _ b hp hp'
    split at this <;> split at this <;> omega
  · have := hL.bound _ b hp
    have hql := (List.getElem?_eq_some_iff.1 hq).1
    rw [List.length_eraseIdx, if_pos hql]
    split at this <;> omega
  · split <;> omega
theorem J.unframe {c : Code} {β : Nat} {cs : List Value} (hAβ : A β) (hk : look E key = some (heap (fun b => A b ∧ b ≠ β) H)) (h : J P n I c Q ((key, heap A (H ++ [obj β cs])) :: E)) : J P n (framed I β cs) c Q E := fun a w h1 h2 h3 => by
  obtain ⟨φ, hL, hLA⟩ := h3 key _ hk
  obtain ⟨h1, e, hh⟩ := h1
  refine h a w h1 h2 (heap_put h3 (φ := fun p b => if p = H.length then b = β else φ p b) ⟨fun p c hp => ?_, fun p p' b hp hp' => ?_, fun p b hp => ?_⟩ (fun p b hb => ?_))
  · by_cases he : p = H.length
    · subst he
      simp only [List.getElem?_concat_length, Option.some.injEq] at hp
      subst hp
      simp only [if_true]
      exact ⟨⟨e, hh⟩, fun b => Iff.rfl⟩
    · have hl : p < (H ++ [obj β cs]).length := (List.getElem?_eq_some_iff.1 hp).1
      have hl' : p < H.length := by simp at hl; omega
      rw [List.getElem?_append_left hl'] at hp
      simp only [if_neg he]
      exact hL.holds p c hp
  · by_cases he : p = H.length
    · by_cases he' : p' = H.length
      · rw [he, he']
      · simp only [if_pos he] at hp
        simp only [if_neg he'] at hp'
        exact absurd hp (hLA p' b hp').2
    · by_cases he' : p' = H.length
      · simp only [if_neg he] at hp
        simp only [if_pos he'] at hp'
        exact absurd hp' (hLA p b hp).2
      · simp only [if_neg he] at hp
        simp only [if_neg he'] at hp'
        exact hL.apart p p' b hp hp'
  · rw [List.length_append]
    by_cases he : p = H.length
    · simp [he]
    · simp only [if_neg he] at hp
      have := hL.bound p b hp
      simp; omega
  · by_cases he : p = H.length
    · simp only [if_pos he] at hb; subst hb; exact hAβ
    · simp only [if_neg he] at hb
      exact (hLA p b hb).1
theorem Plan.loadI {t : TypeId} {u : TypeDesc} {x : Operand} {β off : Nat} {v : Value} (ho : ops[i]? = some o) (hop : o.op = .load t x) (hg : wantB ops E o = some true)
    (hx : opF E x = some (.ex (.pointer (some ⟨β, off, none⟩)))) (hr : ∀ w, I w → ∀ j u, [v][j]? = some u → w.cell? ⟨β, off + j, none⟩ = some u) (hu : P.underlying t = some u) (hna : aggB u = false)
    (h : Plan P ops Q n I d k (i + 1) (setE o.dst (.ex v) E)) : Plan P ops Q n I d (k + 1) i E :=
  Plan.step ho (Step.run ho hg fun a w hI hs' => by
    have e1 := hs' x (by simp [hop, Op.operands]) _ hx
    simp only [Fa.den] at e1
    have hc := hr w hI 0 v rfl
    rw [Nat.add_zero] at hc
    refine ⟨v, w, ?_, Below.refl _ _, by simp [Fa.den]⟩
    have hagg : (isAgg t).run P w = .ok false w := by
      cases u <;> simp [aggB] at hna <;> simp [isAgg, run_underlying hu]
    simp [execOp, hop, e1, Instr.loadAt, Instr.sureAddr, loadVar, hagg, run_load, hc]) h
theorem Plan.loadAggI {t : TypeId} {u : TypeDesc} {x : Operand} {β off : Nat} {vs : List Value} (ho : ops[i]? = some o) (hop : o.op = .load t x) (hg : wantB ops E o = some true)
    (hx : opF E x = some (.ex (.pointer (some ⟨β, off, none⟩)))) (hr : ∀ w, I w → ∀ j u, vs[j]? = some u → w.cell? ⟨β, off + j, none⟩ = some u) (hu : P.underlying t = some u) (hna : aggB u = true) (hi : (P.info? t).map (·.size) = some vs.length)
    (h : Plan P ops Q n I d k (i + 1) (setE o.dst (.ex (.agg vs.toArray)) E)) : Plan P ops Q n I d (k + 1) i E :=
  Plan.step ho (Step.run ho hg fun a w hI hs' => by
    have e1 := hs' x (by simp [hop, Op.operands]) _ hx
    simp only [Fa.den] at e1
    have hc := hr w hI
    obtain ⟨inf, hi1, hi2⟩ : ∃ inf, P.info? t = some inf ∧ inf.size = vs.length := by
      cases hinf : P.info? t with
      | none => rw [hinf] at hi; cases hi
      | some inf => rw [hinf] at hi; exact ⟨inf, rfl, by simpa using hi⟩
    refine ⟨.agg vs.toArray, w, ?_, Below.refl _ _, by simp [Fa.den]⟩
    have hagg : (isAgg t).run P w = .ok true w := by
      cases u <;> simp [aggB] at hna <;> simp [isAgg, run_underlying hu]
    have hl := run_loadCellsFrom (P := P) ⟨β, off, none⟩ w vs.length 0 #[] vs rfl (fun j u hu => by rw [Nat.zero_add, add_at]; exact hc j u hu)
    simp [execOp, hop, e1, Instr.loadAt, Instr.sureAddr, loadVar, hagg, sizeOf, typeInfo, hi1, hi2, loadCells, hl]) h
end
end Go.Free
end

section
namespace Go.Free
open Go.RowKit
section
variable {P : Program} {ops : Array Oper} {Q : Exit → Act → World → Prop} {n : Nat} {I : World → Prop} {k i : Nat} {E : Env} {o : Oper} {d : Bool} {A : Nat → Prop} {H : List Chunk} {key : Nat}
theorem Plan.callRI {f : FuncId} {xs : List Operand} {ts : Array TypeId} {fs : List Fa} {c : Chunk} {R : Nat → Fa} {fn : Func} {B : Nat} (ho : ops[i]? = some o)
    (hop : o.op = .call { callee := .value (.func f), args := xs.toArray, argTypes := ts }) (hg : wantB ops E o = some true) (hc : SpcR P f fs c R)
    (hf : P.funcs[f]? = some fn) (hbody : fn.body.isNone = false) (hname : (fn.name == "runtime.NumGoroutine") = false) (hB : ∀ w, I w → B ≤ w.heap.size)
    (hx : Opnds I E xs fs) (hch : ∀ w, I w → ∃ F, c.holds w F)
    (h : Plan P ops Q n I d k (i + 1) (setE o.dst (R B) E)) : Plan P ops Q n I d (k + 1) i E :=
  Plan.step (F := R B) ho (fun a w hI hsh hs => by
    unfold wpOp
    simp only [ho, wantB_spec ho hsh (fun t ht => hs t (.inl ht)) hg, if_true]
    refine .inl ?_
    unfold Oper.wp
    have hrun : (execOp a.eval o).run P w = .ok (.enter f (xs.map a.eval).toArray) w := by
      have hn : ¬ fn.name = "runtime.NumGoroutine" := by simpa using hname
      have hb : ¬ fn.body = none := by intro e; rw [e] at hbody; cases hbody
      simp [execOp, hop, resolve, invoke, callFunc, Deferred.ofValue, Act.eval, hf, hb, hn]
    rw [hrun]
    simp only [Oper.upon]
    obtain ⟨G, hG⟩ := hch w hI
    have hden := Opnds.dens (a := a) hI hx (fun x hxm f hf => opF_den ho (by simp [hop, Op.operands, Call.operands, hxm]) (fun t ht => hs t (.inl ht)) hf)
    refine (hc w _ G hden hG).mono ?_
    rintro e w' ⟨v, rfl, hb, hR⟩
    exact ⟨v, by rw [dst_of ho], hb, hR B (hB w hI)⟩) h
theorem Plan.weakE (E' : Env) (h : Weak I E E') (hp : Plan P ops Q n I d 0 i E') : Plan P ops Q n I d 0 i E := fun a w h1 h2 h3 => hp a w h1 h2 (h.sat h1 h3)
theorem Sub.tupEx {a b : Value} : Sub I (.tup [.ex a, .ex b]) (.ex (.tuple #[a, b])) := fun w v _ h => by
  simp only [Fa.den, Fa.dens] at h ⊢
  obtain ⟨vs, rfl, x, r, rfl, h1, y, r', rfl, h2, rfl⟩ := h
  rw [h1, h2]
theorem Plan.extractEx {x : Operand} {j : Nat} {vs : Array Value} {v : Value} (ho : ops[i]? = some o) (hop : o.op = .extract x j) (hg : wantB ops E o = some true) (hx : opF E x = some (.ex (.tuple vs))) (hv : vs[j]? = some v)
    (h : Plan P ops Q n I d k (i + 1) (setE o.dst (.ex v) E)) : Plan P ops Q n I d (k + 1) i E :=
  Plan.step ho (Step.run ho hg fun a w hI hs' => by
    have e1 := hs' x (by simp [hop, Op.operands]) _ hx
    simp only [Fa.den] at e1
    refine ⟨v, w, ?_, Below.refl _ _, by simp [Fa.den]⟩
    simp [execOp, hop, e1, Instr.extract, hv]) h
end
end Go.Free
end

section
namespace Go.Free
open Go.RowKit
section
variable {P : Program} {ops : Array Oper} {Q : Exit → Act → World → Prop} {n : Nat} {I : World → Prop} {k i : Nat} {E : Env} {o : Oper} {d : Bool} {A : Nat → Prop} {H : List Chunk} {key : Nat}
end
theorem ownH_kept {B e sz : Nat} {cs : List Value} {w w' : World} {v : Value} {S : Nat → Prop} (hk : Kept S w w') (hS : ∀ b, S b → b < B) (h : ownH B e sz cs w v) : ownH B e sz cs w' v := by
  obtain ⟨hB, n, hl, h⟩ := h
  refine ⟨Nat.le_trans hB hk.size, n, hl, ?_⟩
  rcases h with h0 | ⟨g, cap, cur, hv, hb, hg, h1⟩
  · exact .inl h0
  · exact .inr ⟨g, cap, cur, hv, hb, by rw [hk.block g (Array.getElem?_eq_some_iff.1 hg).1 (fun hs => absurd (hS g hs) (by omega))]; exact hg, h1⟩
end Go.Free
end

section
namespace Go.Free
open Go.RowKit
def sinceW (I : World → Prop) (G : Nat → Prop) (w1 w : World) : Prop := I w ∧ Kept G w1 w
theorem since_I {I : World → Prop} {G : Nat → Prop} {w1 : World} (hI : ∀ w w', I w → Below w.heap.size w w' → I w') : ∀ w w', sinceW I G w1 w → Below w.heap.size w w' → sinceW I G w1 w' := fun w w' ⟨h1, h2⟩ hb =>
  ⟨hI w w' h1 hb, h2.trans (.ofBelow (S := fun _ => False) hb) (fun _ _ h => h) (fun _ _ h => h.elim)⟩
theorem since_own {I : World → Prop} {A G : Nat → Prop} {w1 : World} (hA : Own I A) (hG : ∀ b, G b → A b) (h1 : ∀ b, w1.heap.size ≤ b → A b) : Own (sinceW I G w1) (fun b => G b ∨ w1.heap.size ≤ b) :=
  ⟨fun w h b hb => .inr (Nat.le_trans h.2.size hb),
   fun w w' ⟨h, h2⟩ hk => ⟨hA.turn w w' h (hk.mono fun b _ hb => hb.elim (hG b) (h1 b)), h2.trans hk (fun _ _ h => h) (fun i hi h => h.resolve_right (by omega))⟩⟩
section
variable {P : Program} {ops : Array Oper} {Q : Exit → Act → World → Prop} {n : Nat} {I : World → Prop} {k i : Nat} {E : Env} {o : Oper} {d : Bool} {A : Nat → Prop} {H : List Chunk} {key : Nat}
theorem J.since {c : Code} {B : Nat} (hk : look E key = some (heap (fun b => A b ∧ b < B) H)) (hA : Own I A)
    (h : ∀ w1, I w1 → (∀ b, w1.heap.size ≤ b → A b) → J P n (sinceW I (fun b => A b ∧ b < B) w1) c Q ((key, heap (fun b => (A b ∧ b < B) ∨ w1.heap.size ≤ b) H) :: markE w1 E)) : J P n I c Q E := fun a w h1 h2 h3 => by
  obtain ⟨φ, hL, hLA⟩ := h3 key _ hk
  refine h w h1 (hA.fresh w h1) a w ⟨h1, Kept.refl _ _⟩ h2 (heap_put (fun t f hf => ?_) hL fun q b hb => .inl (hLA q b hb))
  obtain ⟨g, hg, rfl⟩ := look_markE hf
  exact keepOld_den (h3 t g hg)
theorem J.widen {c : Code} {A' : Nat → Prop} (hk : look E key = some (heap A' H)) (hA : ∀ b, A' b → A b) (h : J P n I c Q ((key, heap A H) :: E)) : J P n I c Q E := fun a w h1 h2 h3 => by
  obtain ⟨φ, hL, hLA⟩ := h3 key _ hk
  exact h a w h1 h2 (heap_put h3 hL fun q b hb => hA b (hLA q b hb))
end
theorem Sub.sinceOwn {I : World → Prop} {G : Nat → Prop} {w1 : World} {B e sz : Nat} {cs : List Value} (hG : ∀ b, G b → b < B) : Sub (sinceW I G w1) (.old w1 (Free.own B e sz cs)) (Free.own B e sz cs) := fun w v hI h => ownH_kept hI.2 hG h
theorem dens_old {w1 w : World} {α : Type} {g : α → Fa} : ∀ {ls : List α} {vs : List Value}, Fa.dens (ls.map g) w1 vs → Fa.dens (ls.map fun l => .old w1 (g l)) w vs
  | [], _, h => h
  | _ :: r, _, ⟨u, us, h1, hu, hus⟩ => ⟨u, us, h1, hu, dens_old (ls := r) hus⟩
theorem Sub.sinceNestR {I : World → Prop} {G : Nat → Prop} {w1 : World} {B e : Nat} {α : Type} {g : α → Fa} {ls : List α} (hG : ∀ b, G b → b < B) :
    Sub (sinceW I G w1) (.old w1 (nest B e (ls.map g))) (nestR (ls.map fun l => .old w1 (g l))) := fun w v hI ⟨vs, h1, h2⟩ =>
  ⟨vs, own_row (ownH_kept hI.2 hG h1), dens_old h2⟩
theorem own_fresh {I : World → Prop} {A : Nat → Prop} {B : Nat} (hA : Own I A) : Own (fun w => I w ∧ B ≤ w.heap.size) A :=
  ⟨fun w h => hA.fresh w h.1, fun w w' h hk => ⟨hA.turn w w' h.1 hk, Nat.le_trans h.2 hk.size⟩⟩
end Go.Free
end

section
namespace Go.Free
open Go.RowKit
def frozenC (w1 : World) (G : Nat → Prop) : Chunk where
  holds w S := (∀ b, S b ↔ G b) ∧ ∀ b, G b → b < w.heap.size ∧ w.heap[b]? = w1.heap[b]?
  lt w S b h hb := (h.2 b ((h.1 b).1 hb)).1
  loc w w' S h hS := ⟨h.1, fun b hb => by
    have h2 := h.2 b hb
    have h3 := hS b ((h.1 b).2 hb)
    refine ⟨?_, h3.trans h2.2⟩
    rw [Array.getElem?_eq_getElem h2.1] at h3
    exact (Array.getElem?_eq_some_iff.1 h3).1⟩
theorem frozen_row {w1 : World} {G : Nat → Prop} {sz : Nat} {xs : List Value} {v : Value} (h : rowH sz xs w1 v) (hG : ∀ b, b < w1.heap.size → G b) : ∀ w : World, (∀ b, G b → w.heap[b]? = w1.heap[b]?) → rowH sz xs w v := fun w hw => by
  obtain ⟨A, m, cap, e1, e2, e3, e4, e5, e6⟩ := h
  refine ⟨A, m, cap, e1, e2, e3, e4, e5, fun j u hu => ?_⟩
  obtain ⟨ad, ha, hc⟩ := e6 j u hu
  refine ⟨ad, ha, ?_⟩
  have hb : (ad.add j).block < w1.heap.size := by
    rcases Nat.lt_or_ge (ad.add j).block w1.heap.size with h | h
    · exact h
    · simp only [World.cell?, Array.getElem?_eq_none h] at hc; cases hc
  rw [← hc]
  simp only [World.cell?, hw _ (hG _ hb)]
section
variable {P : Program} {ops : Array Oper} {Q : Exit → Act → World → Prop} {n : Nat} {I : World → Prop} {k i : Nat} {E : Env} {o : Oper} {d : Bool} {A : Nat → Prop} {H : List Chunk} {key : Nat}
theorem Plan.callFz {f : FuncId} {xs : List Operand} {ts : Array TypeId} {fs : List Fa} {Hc Hr : List Chunk} {X : Type} {ok : X → Prop} {R : X → Fa} {c' : X → List Chunk} {fn : Func} {w1 : World} {G : Nat → Prop} (qs rs : List Nat) (ho : ops[i]? = some o)
    (hop : o.op = .call { callee := .value (.func f), args := xs.toArray, argTypes := ts }) (hg : wantB ops E o = some true) (hc : SpcC P f fs (allC (Hc ++ [frozenC w1 G])) ok R (fun x => allC (c' x ++ [frozenC w1 G])))
    (hf : P.funcs[f]? = some fn) (hbody : fn.body.isNone = false) (hname : (fn.name == "runtime.NumGoroutine") = false) (hd : ∀ d, o.dst = some d → d < n)
    (hx : Opnds I E xs fs) (hk : look E key = some (heap A H)) (hA : Own I A) (hp : Free.pick H qs = Hc) (hr : Free.pick H rs = Hr) (hn : nodupB (qs ++ rs) = true)
    (hF : ∀ w, I w → ∀ b, G b → b < w.heap.size ∧ w.heap[b]? = w1.heap[b]?) (hGA : ∀ b, A b → ¬ G b)
    (h : ∀ x, ok x → Plan P ops Q n I d k (i + 1) (setE o.dst (R x) ((key, heap A (c' x ++ Hr)) :: sieve E))) (hq : d = false ∨ barB ops i = true := by first | exact .inl rfl | exact .inr (by kernel_rfl)) : Plan P ops Q n I d (k + 1) i E :=
  Plan.turn ho hg hd hk hA (fun a w φ hI hs hs' hL hLA hfr hsh => by
    unfold wpOp
    simp only [ho, wantB_spec ho hsh (fun t _ f hf => hs t f hf) hg, if_true]
    refine .inl ?_
    unfold Oper.wp
    have hrun : (execOp a.eval o).run P w = .ok (.enter f (xs.map a.eval).toArray) w := by
      have hn : ¬ fn.name = "runtime.NumGoroutine" := by simpa using hname
      have hb : ¬ fn.body = none := by intro e; rw [e] at hbody; cases hbody
      simp [execOp, hop, resolve, invoke, callFunc, Deferred.ofValue, Act.eval, hf, hb, hn]
    rw [hrun]
    simp only [Oper.upon]
    have hden := Opnds.dens (a := a) hI hx (fun x hxm f hf => hs' x (by simp [hop, Op.operands, Call.operands, hxm]) f hf)
    have hsp : Ent (allC H) (Free.sepC (allC Hc) (allC Hr)) := (Ent.pickC (qs ++ rs) (by rw [Free.pick, List.map_append]; exact (congrArg (· ++ _) hp).trans (congrArg (Hc ++ ·) hr)) hn).trans Ent.splitC
    obtain ⟨G0, hG0, hG0s⟩ := hsp w _ hL.all
    obtain ⟨Gc, Gd, hG, hdis, hcH, hdH⟩ := hG0
    have hin : ∀ b, Gc b ∨ Gd b → A b := fun b hb => by
      obtain ⟨q, hq⟩ := hG0s b ((hG b).2 hb)
      exact hLA q b hq
    have hfz : (frozenC w1 G).holds w G := ⟨fun _ => Iff.rfl, hF w hI⟩
    obtain ⟨S, hS, hSs⟩ := (Ent.joinC (H1 := Hc) (H2 := [frozenC w1 G])) w (fun b => Gc b ∨ G b) ⟨Gc, G, fun _ => Iff.rfl, fun b hb => hGA b (hin b (.inl hb)), hcH,
      ⟨G, fun _ => False, fun b => ⟨.inl, fun e => e.elim id fun x => x.elim⟩, fun _ _ e => e, hfz, fun _ e => e⟩⟩
    refine (hc w _ S hden hS).mono ?_
    rintro e w' ⟨v, x, rfl, hok, hK, hR, F', hF', hFb⟩
    obtain ⟨S2, hS2, hS2s⟩ := (Ent.splitC (H1 := c' x) (H2 := [frozenC w1 G])) w' F' hF'
    obtain ⟨Gx, Gf, g1, g2, g3, g4⟩ := hS2
    obtain ⟨Ga, Gb, k1, _, k3, _⟩ := g4
    have hGx : ∀ b, Gx b → Gc b ∨ w.heap.size ≤ b := fun b hb => by
      rcases hFb b (hS2s b ((g1 b).2 (.inl hb))) with h1 | h1
      · rcases hSs b h1 with h2 | h2
        · exact .inl h2
        · exact absurd ((k1 b).2 (.inl ((k3.1 b).2 h2))) (g2 b hb)
      · exact .inr h1
    have hK' : Kept Gc w w' := ⟨hK.os, hK.tape, hK.output, hK.size, fun b hb hn => by
      by_cases hGb : G b
      · rw [(k3.2 b hGb).2, (hfz.2 b hGb).2]
      · exact hK.block b hb fun e => (hSs b e).elim hn hGb⟩
    have hdH' : (allC Hr).holds w' Gd := (allC Hr).keep hdH hK' (fun b hb hc => hdis b hc hb)
    obtain ⟨G2, hG2, hG2s⟩ := (Ent.joinC (H1 := c' x) (H2 := Hr)) w' (fun b => Gx b ∨ Gd b) ⟨Gx, Gd, fun b => Iff.rfl, fun b hb hb2 => by
      rcases hGx b hb with h1 | h1
      · exact hdis b h1 hb2
      · have := (allC Hr).lt w Gd b hdH hb2; omega, g3, hdH'⟩
    obtain ⟨φ', hL', hφ'⟩ := Lies.ofAll hG2
    refine ⟨v, R x, c' x ++ Hr, φ', rfl, hK'.mono (fun b _ hb => hin b (.inl hb)), hL', fun q b hb => ?_, hR, h x hok⟩
    rcases hG2s b (hφ' q b hb) with h1 | h1
    · rcases hGx b h1 with h2 | h2
      · exact hin b (.inl h2)
      · exact hfr b h2
    · exact hin b (.inr h1)) hq
end
end Go.Free
end

section
namespace Go.Proofs.YtmljgobenlpnfaaGreat
open Go.Free Go.RowKit Go.Proofs
set_option maxHeartbeats 2000000
def in64 (x : Int) : Prop := -9223372036854775808 ≤ x ∧ x ≤ 9223372036854775807
structure EvV where
  r : Int
  n : Int
  time : Int
  d : Nat → Int
  kind : Int
  key : List UInt8
  field : List UInt8
  value : List UInt8
  num : Int
  rr : Int
  rn : Int
abbrev vi (x : Int) : Value := .int .i64 x
def EvV.enc (e : EvV) : List Value := [vi e.r, vi e.n, vi e.time, vi (e.d 0), vi (e.d 1), vi (e.d 2), vi (e.d 3), vi (e.d 4), vi (e.d 5), vi (e.d 6), vi (e.d 7), vi (e.d 8), vi (e.d 9), vi (e.d 10), vi (e.d 11), vi (e.d 12), vi (e.d 13), vi (e.d 14), vi (e.d 15),
  vi e.kind, str e.key, str e.field, str e.value, vi e.num, vi e.rr, vi e.rn]
def EvV.okV (e : EvV) : Prop := in64 e.r ∧ in64 e.n ∧ in64 e.time ∧ (∀ i, i < 16 → in64 (e.d i)) ∧ in64 e.kind ∧ e.key.length ≤ 9223372036854775807 ∧ e.field.length ≤ 9223372036854775807 ∧ e.value.length ≤ 9223372036854775807 ∧ in64 e.num ∧ in64 e.rr ∧ in64 e.rn
def ev0 : EvV := ⟨0, 0, 0, fun _ => 0, 0, [], [], [], 0, 0, 0⟩
theorem encE (e : EvV) : e.enc.length = 26 := rfl
def kdsEvent : List Kd := [.int .i64, .int .i64, .int .i64, .int .i64, .int .i64, .int .i64, .int .i64, .int .i64, .int .i64, .int .i64, .int .i64, .int .i64, .int .i64, .int .i64, .int .i64, .int .i64, .int .i64, .int .i64, .int .i64, .int .i64, .str, .str, .str, .int .i64, .int .i64, .int .i64]
theorem eltE : Elt Tryz.prog 22 40 (.agg ev0.enc.toArray) 26 232 := Elt.mk' Tryz.underlying22 (by kernel_rfl) rfl (by decide) (by decide)
theorem in64_wf {n : Int} : (Lit.int .i64 n).wf = true ↔ in64 n := by
  have k1 : IntKind.min .i64 = -9223372036854775808 := by decide +kernel
  have k2 : IntKind.max .i64 = 9223372036854775807 := by decide +kernel
  simp [Lit.wf, k1, k2, in64]
theorem str_len {s : ByteArray} (h : s.size ≤ maxLen) : s.data.toList.length ≤ 9223372036854775807 := by
  simp only [maxLen, ByteArray.size] at h
  simp only [Array.length_toList]; omega
theorem str_mk (s : ByteArray) : (Value.string s) = str s.data.toList := by simp [str]
theorem intF {x : Int} (h : in64 x) : (Kd.int .i64).ok (vi x) := ⟨x, rfl, in64_wf.2 h⟩
theorem strF {l : List UInt8} (h : l.length ≤ 9223372036854775807) : Kd.str.ok (str l) := ⟨_, rfl, by simpa [maxLen, ByteArray.size] using h⟩
theorem enc_ok {e : EvV} (h : e.okV) : CellsOk kdsEvent e.enc := by
  obtain ⟨h1, h2, h3, hd, h4, h5, h6, h7, h8, h9, h10⟩ := h
  exact ⟨_, _, rfl, intF h1, _, _, rfl, intF h2, _, _, rfl, intF h3, _, _, rfl, intF (hd 0 (by decide)), _, _, rfl, intF (hd 1 (by decide)), _, _, rfl, intF (hd 2 (by decide)), _, _, rfl, intF (hd 3 (by decide)),
    _, _, rfl, intF (hd 4 (by decide)), _, _, rfl, intF (hd 5 (by decide)), _, _, rfl, intF (hd 6 (by decide)), _, _, rfl, intF (hd 7 (by decide)), _, _, rfl, intF (hd 8 (by decide)), _, _, rfl, intF (hd 9 (by decide)),
    _, _, rfl, intF (hd 10 (by decide)), _, _, rfl, intF (hd 11 (by decide)), _, _, rfl, intF (hd 12 (by decide)), _, _, rfl, intF (hd 13 (by decide)), _, _, rfl, intF (hd 14 (by decide)), _, _, rfl, intF (hd 15 (by decide)),
    _, _, rfl, intF h4, _, _, rfl, strF h5, _, _, rfl, strF h6, _, _, rfl, strF h7, _, _, rfl, intF h8, _, _, rfl, intF h9, _, _, rfl, intF h10, rfl⟩
theorem ev_of {c : List Value} (h : CellsOk kdsEvent c) : ∃ e : EvV, c = e.enc ∧ e.okV := by
  obtain ⟨_, _, rfl, ⟨r, rfl, hr⟩, _, _, rfl, ⟨n, rfl, hn⟩, _, _, rfl, ⟨t, rfl, ht⟩, _, _, rfl, ⟨d0, rfl, g0⟩, _, _, rfl, ⟨d1, rfl, g1⟩, _, _, rfl, ⟨d2, rfl, g2⟩, _, _, rfl, ⟨d3, rfl, g3⟩,
    _, _, rfl, ⟨d4, rfl, g4⟩, _, _, rfl, ⟨d5, rfl, g5⟩, _, _, rfl, ⟨d6, rfl, g6⟩, _, _, rfl, ⟨d7, rfl, g7⟩, _, _, rfl, ⟨d8, rfl, g8⟩, _, _, rfl, ⟨d9, rfl, g9⟩, _, _, rfl, ⟨d10, rfl, g10⟩, _, _, rfl, ⟨d11, rfl, g11⟩,
    _, _, rfl, ⟨d12, rfl, g12⟩, _, _, rfl, ⟨d13, rfl, g13⟩, _, _, rfl, ⟨d14, rfl, g14⟩, _, _, rfl, ⟨d15, rfl, g15⟩, _, _, rfl, ⟨k, rfl, hk⟩, _, _, rfl, ⟨a, rfl, ha⟩, _, _, rfl, ⟨b, rfl, hb⟩, _, _, rfl, ⟨c, rfl, hc⟩,
    _, _, rfl, ⟨m, rfl, hm⟩, _, _, rfl, ⟨p, rfl, hp⟩, _, _, rfl, ⟨q, rfl, hq⟩, rfl⟩ := h
  refine ⟨⟨r, n, t, fun i => [d0, d1, d2, d3, d4, d5, d6, d7, d8, d9, d10, d11, d12, d13, d14, d15].getD i 0, k, a.data.toList, b.data.toList, c.data.toList, m, p, q⟩, ?_, in64_wf.1 hr, in64_wf.1 hn, in64_wf.1 ht, ?_, in64_wf.1 hk, str_len ha, str_len hb, str_len hc, in64_wf.1 hm, in64_wf.1 hp, in64_wf.1 hq⟩
  · simp [EvV.enc, str_mk]
  · intro i hi
    match i, hi with
    | 0, _ => exact in64_wf.1 g0
    | 1, _ => exact in64_wf.1 g1
    | 2, _ => exact in64_wf.1 g2
    | 3, _ => exact in64_wf.1 g3
    | 4, _ => exact in64_wf.1 g4
    | 5, _ => exact in64_wf.1 g5
    | 6, _ => exact in64_wf.1 g6
    | 7, _ => exact in64_wf.1 g7
    | 8, _ => exact in64_wf.1 g8
    | 9, _ => exact in64_wf.1 g9
    | 10, _ => exact in64_wf.1 g10
    | 11, _ => exact in64_wf.1 g11
    | 12, _ => exact in64_wf.1 g12
    | 13, _ => exact in64_wf.1 g13
    | 14, _ => exact in64_wf.1 g14
    | 15, _ => exact in64_wf.1 g15
    | _ + 16, h => exact absurd h (by omega)
theorem evs_of : ∀ (ls : List (List Value)), (∀ c ∈ ls, CellsOk kdsEvent c) → ∃ es : List EvV, es.length = ls.length ∧ ls.flatten = es.flatMap EvV.enc ∧ ∀ e ∈ es, e.okV
  | [], _ => ⟨[], rfl, rfl, by simp⟩
  | c :: r, h => by
    obtain ⟨o, rfl, ho⟩ := ev_of (h c List.mem_cons_self)
    obtain ⟨sc, h1, h2, h3⟩ := evs_of r (fun c hc => h c (List.mem_cons_of_mem _ hc))
    exact ⟨o :: sc, by simp [h1], by simp [h2], fun x hx => by rcases List.mem_cons.1 hx with rfl | hx; exact ho; exact h3 x hx⟩
abbrev aggE (e : EvV) : Value := .agg e.enc.toArray
abbrev newB (w0 : World) : Nat → Prop := fun b => w0.heap.size ≤ b
def later (b a : EvV) : Bool := decide (a.time < b.time ∨ (a.time = b.time ∧ (a.r < b.r ∨ (a.r = b.r ∧ a.n < b.n))))
def cmp3 (x y : Int) : Int := if x < y then -1 else if y < x then 1 else 0
theorem isNaN_fn (x : Int) : Spc Tryz.prog 106 [.ex (vi x)] fun _ => .ex (.bool false) := by
  refine Spc.intro Tryz.func106 rfl (Nat.le_of_ble_eq_true rfl) fun w0 => ?_
  have hI := hIb w0
  repeat (first | refine Plan.move rfl rfl rfl rfl ?_ | refine Plan.assign rfl rfl rfl rfl ?_ | (refine Plan.ints rfl rfl rfl rfl rfl rfl ?_; (skip)) | refine J.seq (J.region mixed hI (by kernel_rfl) ?_))
  refine Plan.boolv (y := false) (by simp) ?_
  repeat (fail)
  exact J.ret (Nrm.ret1 rfl (fun _ h => h) rfl fun B _ => Sub.refl _)
theorem compare_fn (x y : Int) : Spc Tryz.prog 83 [.ex (vi x), .ex (vi y)] fun _ => .ex (vi (cmp3 x y)) := by
  refine Spc.intro Tryz.func83 rfl (Nat.le_of_ble_eq_true rfl) fun w0 => ?_
  have hI := hIb w0
  repeat (first | refine Plan.move rfl rfl rfl rfl ?_ | refine Plan.assign rfl rfl rfl rfl ?_ | refine J.seq (J.region mixed hI (by kernel_rfl) ?_))
  refine Plan.call (B := w0.heap.size) rfl rfl rfl (isNaN_fn x) Tryz.func106 rfl rfl (hBb w0) (by repeat (first | exact Opnds.nil | refine Opnds.cons rfl (by exact Sub.refl _) ?_)) ?_
  repeat (first | refine Plan.move rfl rfl rfl rfl ?_ | refine Plan.assign rfl rfl rfl rfl ?_ | refine J.seq (J.region mixed hI (by kernel_rfl) ?_))
  refine Plan.call (B := w0.heap.size) rfl rfl rfl (isNaN_fn y) Tryz.func106 rfl rfl (hBb w0) (by repeat (first | exact Opnds.nil | refine Opnds.cons rfl (by exact Sub.refl _) ?_)) ?_
  repeat (first | refine Plan.move rfl rfl rfl rfl ?_ | refine Plan.assign rfl rfl rfl rfl ?_ | (refine Plan.ints rfl rfl rfl rfl rfl rfl ?_; (skip)) | refine J.seq (J.seq (J.region mixed hI (by kernel_rfl) ?_)) | refine J.condF rfl ?_ | refine J.skip ?_)
  refine J.condD rfl (fun h => ?_) (fun h => ?_)
  · have e : cmp3 x y = -1 := by unfold cmp3; rw [if_pos h]
    rw [e]
    repeat (first | refine Plan.assign rfl rfl rfl rfl ?_ | refine J.seq (J.region mixed hI (by kernel_rfl) ?_))
    exact J.ret (Nrm.ret1 rfl (fun _ h => h) rfl fun B _ => Sub.refl _)
  repeat (first | refine Plan.move rfl rfl rfl rfl ?_ | (refine Plan.ints rfl rfl rfl rfl rfl rfl ?_; (skip)) | refine J.seq (J.seq (J.region mixed hI (by kernel_rfl) ?_)) | refine J.skip ?_)
  refine J.condD rfl (fun h2 => ?_) (fun h2 => ?_)
  · have e : cmp3 x y = 1 := by unfold cmp3; rw [if_neg h, if_pos (by omega)]
    rw [e]
    repeat (first | refine Plan.assign rfl rfl rfl rfl ?_ | refine J.seq (J.region mixed hI (by kernel_rfl) ?_))
    exact J.ret (Nrm.ret1 rfl (fun _ h => h) rfl fun B _ => Sub.refl _)
  · have e : cmp3 x y = 0 := by unfold cmp3; rw [if_neg h, if_neg (by omega)]
    rw [e]
    repeat (first | refine Plan.assign rfl rfl rfl rfl ?_ | refine J.seq (J.region mixed hI (by kernel_rfl) ?_) | refine J.skip ?_)
    exact J.ret (Nrm.ret1 rfl (fun _ h => h) rfl fun B _ => Sub.refl _)
def firstN : List Int → Int
  | [] => 0
  | x :: r => if x = 0 then firstN r else x
abbrev is (l : List Int) : List Value := l.flatMap fun x => [vi x]
theorem eltI : Elt Tryz.prog 127 3 (vi 0) 1 8 := Elt.mk' Tryz.underlying127 (by kernel_rfl) rfl (by decide) (by decide)
theorem or_fn (l : List Int) (hl : l.length ≤ 9223372036854775807) : Spc Tryz.prog 82 [row 1 (is l)] fun _ => .ex (vi (firstN l)) := by
  refine Spc.intro Tryz.func82 rfl (Nat.le_of_ble_eq_true rfl) fun w0 => ?_
  have hI := hIb w0
  repeat (first | refine Plan.move rfl rfl rfl rfl ?_ | refine Plan.assign rfl rfl rfl rfl ?_ | refine J.seq (J.region mixed hI (by kernel_rfl) ?_) | refine J.seq (J.seq (J.region mixed hI (by kernel_rfl) ?_)))
  refine Plan.lenRow (m := l.length) rfl rfl rfl rfl (Sub.old fun _ h => h) Tryz.underlying127 (by rw [flatMap_length _ 1 (fun _ => rfl)]) (by decide) ?_
  repeat (refine Plan.move rfl rfl rfl rfl ?_)
  refine J.block (J.loop (fun i : Nat => [(3, .ex (vi 0)), (6, old w0 (row 1 (is l))), (7, .ex (vi l.length)), (8, .ex (vi i))]) (fun i => i ≤ l.length ∧ firstN (l.drop i) = firstN l) (fun i => l.length - i) 0 ⟨Nat.zero_le _, rfl⟩ ?_ ?_)
  · repeat (first | exact Weak.nil | refine Weak.cons rfl (Sub.refl _) ?_)
  rintro i ⟨hi, hf⟩
  repeat (first | (refine Plan.ints rfl rfl rfl rfl rfl rfl ?_; (skip)) | refine J.seq (J.region mixed hI (by kernel_rfl) ?_))
  refine J.seq (J.condD rfl (fun hlt => ?_) (fun hlt => ?_))
  · have hlt' : i < l.length := by omega
    have hget : l.getD i 0 = l[i] := by simp [List.getD_eq_getElem?_getD, List.getElem?_eq_getElem hlt']
    rw [List.drop_eq_getElem_cons hlt'] at hf
    repeat (refine J.skip ?_)
    refine J.seq (J.block ?_)
    repeat (refine J.seq (J.region mixed hI (by kernel_rfl) ?_))
    refine Plan.indexAddr (fun x => [vi x]) 1 l 0 rfl rfl rfl rfl (Sub.old fun _ h => h) rfl eltI (fun _ => rfl) (by omega) (by omega) ?_
    rw [Int.toNat_natCast, hget]
    refine Plan.load rfl rfl rfl rfl (Sub.refl _) Tryz.underlying3 rfl ?_
    repeat (first | refine Plan.move rfl rfl rfl rfl ?_ | refine Plan.assign rfl rfl rfl rfl ?_ | (refine Plan.ints rfl rfl rfl rfl rfl rfl ?_; (skip)) | refine J.seq (J.region mixed hI (by kernel_rfl) ?_))
    refine J.condN rfl (fun h => ?_) (fun h => ?_)
    · have e : l[i] = firstN l := by rw [← hf]; unfold firstN; rw [if_neg h]
      repeat (first | refine Plan.move rfl rfl rfl rfl ?_ | refine Plan.assign rfl rfl rfl rfl ?_ | refine J.seq (J.region mixed hI (by kernel_rfl) ?_))
      exact J.ret (Nrm.ret1 rfl (fun _ h => h) rfl fun B _ => Sub.of_eq (by rw [e]))
    · repeat (first | refine Plan.move rfl rfl rfl rfl ?_ | (refine Plan.ints rfl rfl rfl rfl rfl rfl ?_; (refine Plan.int (i64r (by omega)) ?_)) | refine J.region mixed hI (by kernel_rfl) ?_ | refine J.skip ?_)
      refine Plan.int (y := ((i + 1 : Nat) : Int)) (by omega) ?_
      refine Nrm.next (i + 1) ⟨hlt', ?_⟩ (by omega) (by repeat (first | exact Weak.nil | refine Weak.cons rfl (Sub.refl _) ?_))
      rw [← hf]; simp [firstN, h]
  · have hie : i = l.length := by omega
    subst hie
    rw [List.drop_length] at hf
    refine J.exit ?_
    repeat (first | refine Plan.move rfl rfl rfl rfl ?_ | refine Plan.assign rfl rfl rfl rfl ?_ | refine J.seq (J.region mixed hI (by kernel_rfl) ?_))
    exact J.ret (Nrm.ret1 rfl (fun _ h => h) rfl fun B _ => Sub.of_eq (by rw [← hf]; rfl))
end Go.Proofs.YtmljgobenlpnfaaGreat
end

section
namespace Go.Free
open Go.RowKit
section
variable {P : Program} {ops : Array Oper} {Q : Exit → Act → World → Prop} {n : Nat} {I : World → Prop} {k i : Nat} {E : Env} {o : Oper} {d : Bool}
theorem Plan.indexCI {t e : TypeId} {z : Value} {bytes m cap β : Nat} {x y : Operand} {kd : IntKind} {xi : Int} (j : Nat) (hxj : xi = (j : Int)) (ho : ops[i]? = some o) (hop : o.op = .indexAddr t x y)
    (hg : wantB ops E o = some true) (hx : opF E x = some (.ex (.slice (some ⟨β, 0, none⟩) m cap))) (hy : opF E y = some (.ex (.int kd xi))) (he : Elt P t e z 1 bytes) (h1 : j < m)
    (h : Plan P ops Q n I d k (i + 1) (setE o.dst (.ex (.pointer (some ⟨β, j, none⟩))) E)) : Plan P ops Q n I d (k + 1) i E := by
  subst hxj
  exact Plan.indexC ho hop hg hx hy he h1 (by omega) h
end
end Go.Free
namespace Go.Proofs.YtmljgobenlpnfaaGreat
open Go.Free Go.RowKit Go.Proofs Go.Free.Sorts
set_option maxHeartbeats 4000000
abbrev slI (g n cap : Nat) : Value := .slice (some ⟨g, 0, none⟩) n cap
abbrev rowI (g n cap : Nat) (f : Nat → Nat) : Chunk := rowC 3 1 (some ⟨g, 0, none⟩) n cap (intsF f n)
def srE (F : Nat → Prop) (w0 : World) (g n cap a b k : Nat) (f : Nat → Nat) (i : Nat) : Env :=
  [(0, .ex (slI g n cap)), (1, .ex (vi a)), (2, .ex (vi b)), (3, .ex (vi k)), (10, .ex (vi i)), (1000, heap (fun b => F b ∨ w0.heap.size ≤ b) [rowI g n cap (swpR f a b i)])]
theorem swapRange_fn (g n cap a b k : Nat) (f : Nat → Nat) (cmp : Value) (h1 : a + k ≤ b) (h2 : b + k ≤ n) (hn : n ≤ 1000000) :
    SpcC Tryz.prog 124 [.ex (slI g n cap), .ex (vi a), .ex (vi b), .ex (vi k), .ex cmp] (rowI g n cap f) (fun _ : Unit => True) (fun _ => Fa.any) (fun _ => rowI g n cap (swpR f a b k)) := by
  refine SpcC.intro Tryz.func124 rfl (Nat.le_of_ble_eq_true rfl) fun w0 F => ?_
  have hI := kept_below F w0
  have hA := Own.kept F w0
  repeat (first | refine Plan.assign rfl rfl rfl rfl ?_ | refine J.seq (J.region mixed hI (by kernel_rfl) ?_))
  refine J.block (J.loop (srE F w0 g n cap a b k f) (fun i => i ≤ k) (fun i => k - i) 0 (Nat.zero_le _) ?_ ?_)
  · rw [srE, swpR_zero]
    repeat (first | exact Weak.nil | refine Weak.cons rfl (Sub.refl _) ?_)
  intro i hi
  repeat (first | refine Plan.move rfl rfl rfl rfl ?_ | (refine Plan.ints rfl rfl rfl rfl rfl rfl ?_; (skip)) | refine J.seq (J.seq (J.region mixed hI (by kernel_rfl) ?_)))
  refine J.condD rfl (fun hc => ?_) (fun hc => ?_)
  · have hlt : i < k := by omega
    refine J.skip ?_
    refine J.seq (J.block ?_)
    refine J.loose2 [(4, slI g n cap), (5, vi b), (6, vi i), (7, vi ((b + i : Nat) : Int))] [(0, .ex (slI g n cap)), (2, .ex (vi b)), (10, .ex (vi i))] mixed hI rfl rfl rfl (by kernel_rfl) (by kernel_rfl) (by kernel_rfl) rfl rfl (fun ⟨_, _, h⟩ => h) (fun _ _ _ _ h => h) (by repeat (first | exact Weak.nil | refine Weak.cons rfl (Sub.refl _) ?_)) ?_ ?_
    · refine Gives.cons [(0, .ex (slI g n cap)), (2, .ex (vi b)), (10, .ex (vi i))] (by kernel_rfl) rfl (by kernel_rfl) (Plan.move rfl rfl rfl rfl (Plan.gives rfl)) ?_
      refine Gives.cons [(0, .ex (slI g n cap)), (2, .ex (vi b)), (10, .ex (vi i))] (by kernel_rfl) rfl (by kernel_rfl) (Plan.move rfl rfl rfl rfl (Plan.gives rfl)) ?_
      refine Gives.cons [(0, .ex (slI g n cap)), (2, .ex (vi b)), (10, .ex (vi i))] (by kernel_rfl) rfl (by kernel_rfl) (Plan.move rfl rfl rfl rfl (Plan.gives rfl)) ?_
      exact Gives.cons [(21, .ex (vi b)), (22, .ex (vi i)), (0, .ex (slI g n cap)), (2, .ex (vi b)), (10, .ex (vi i))] (by kernel_rfl) rfl (by kernel_rfl) (Plan.ints rfl rfl rfl rfl rfl rfl (Plan.int (y := ((b + i : Nat) : Int)) (by rw [i64r (by omega)]; omega) (Plan.gives rfl))) Gives.nil
    repeat (first | refine Plan.move rfl rfl rfl rfl ?_ | refine Plan.assign rfl rfl rfl rfl ?_ | (refine Plan.ints rfl rfl rfl rfl rfl rfl ?_; (refine Plan.int (i64r (by omega)) ?_)))
    refine Plan.indexCI (b + i) (by omega) rfl rfl rfl rfl rfl eltI (by omega) ?_
    refine Plan.loadC (key := 1000) (q := 0) rfl rfl rfl rfl rfl rfl (row_reads1 (ints_get (by omega))) Tryz.underlying3 (by rfl) (by decide) ?_
    repeat (first | refine Plan.move rfl rfl rfl rfl ?_ | (refine Plan.ints rfl rfl rfl rfl rfl rfl ?_; (refine Plan.int (i64r (by omega)) ?_)))
    refine Plan.indexCI (a + i) (by omega) rfl rfl rfl rfl rfl eltI (by omega) ?_
    refine Plan.loadC (key := 1000) (q := 0) rfl rfl rfl rfl rfl rfl (row_reads1 (ints_get (by omega))) Tryz.underlying3 (by rfl) (by decide) ?_
    refine Plan.indexCI (a + i) (by omega) rfl rfl rfl rfl rfl eltI (by omega) ?_
    refine Plan.storeC (key := 1000) (q := 0) rfl rfl rfl rfl rfl rfl (by simp [Value.cells, Value.oneCell']) (by kernel_rfl) rfl hA rfl (row_pat1 (by rw [ints_len]; omega)) ?_
    refine Plan.indexCI (b + i) (by omega) rfl rfl rfl rfl rfl eltI (by omega) ?_
    refine Plan.storeC (key := 1000) (q := 0) rfl rfl rfl rfl rfl rfl (by simp [Value.cells, Value.oneCell']) (by kernel_rfl) rfl hA rfl (row_pat1 (by rw [List.length_set, ints_len]; omega)) ?_
    rw [ints_swap (by omega) (by omega) (by omega), swpR_succ f (by omega)]
    repeat (first | refine Plan.move rfl rfl rfl rfl ?_ | refine Plan.assign rfl rfl rfl rfl ?_ | (refine Plan.ints rfl rfl rfl rfl rfl rfl ?_; (refine Plan.int (i64r (by omega)) ?_)) | refine J.region mixed hI (by kernel_rfl) ?_)
    refine Plan.int (y := ((i + 1 : Nat) : Int)) (by omega) ?_
    repeat (fail)
    exact Nrm.next (i + 1) hlt (by omega) (by repeat (first | exact Weak.nil | refine Weak.cons rfl (Sub.refl _) ?_))
  · have hie : i = k := by omega
    subst hie
    refine J.exit ?_
    exact Nrm.retC0 (key := 1000) () rfl rfl rfl trivial (by exact Ent.one) (.inl rfl)
def roE (F : Nat → Prop) (w0 : World) (g n cap m : Nat) (cmp : Value) (s : Nat × Nat × (Nat → Nat)) : Env :=
  [(0, .ex (slI g n cap)), (2, .ex (vi m)), (4, .ex cmp), (10, .ex (vi s.1)), (11, .ex (vi s.2.1)), (1000, heap (fun b => F b ∨ w0.heap.size ≤ b) [rowI g n cap s.2.2])]
theorem rotate_fn (g n cap a m b : Nat) (f : Nat → Nat) (cmp : Value) (h1 : a < m) (h2 : m < b) (h3 : b ≤ n) (hn : n ≤ 1000000) :
    SpcC Tryz.prog 122 [.ex (slI g n cap), .ex (vi a), .ex (vi m), .ex (vi b), .ex cmp] (rowI g n cap f) (fun _ : Unit => True) (fun _ => Fa.any) (fun _ => rowI g n cap (rotF f a m b)) := by
  refine SpcC.intro Tryz.func122 rfl (Nat.le_of_ble_eq_true rfl) fun w0 F => ?_
  have hI := kept_below F w0
  have hA := Own.kept F w0
  refine J.seq (J.region mixed hI (by kernel_rfl) ?_)
  repeat (first | refine Plan.move rfl rfl rfl rfl ?_ | refine Plan.assign rfl rfl rfl rfl ?_ | (refine Plan.ints rfl rfl rfl rfl rfl rfl ?_; (refine Plan.int (i64r (by omega)) ?_)))
  refine Plan.int (y := ((m - a : Nat) : Int)) (by omega) ?_
  refine J.seq (J.region mixed hI (by kernel_rfl) ?_)
  repeat (first | refine Plan.move rfl rfl rfl rfl ?_ | refine Plan.assign rfl rfl rfl rfl ?_ | (refine Plan.ints rfl rfl rfl rfl rfl rfl ?_; (refine Plan.int (i64r (by omega)) ?_)))
  refine Plan.int (y := ((b - m : Nat) : Int)) (by omega) ?_
  refine J.seq (J.block (J.loop (roE F w0 g n cap m cmp) (fun s => 0 < s.1 ∧ s.1 ≤ m ∧ 0 < s.2.1 ∧ m + s.2.1 ≤ n ∧ rotF s.2.2 (m - s.1) m (m + s.2.1) = rotF f a m b) (fun s => s.1 + s.2.1) (m - a, b - m, f) ⟨by dsimp only; omega, by dsimp only; omega, by dsimp only; omega, by dsimp only; omega, by dsimp only; congr 1 <;> omega⟩ ?_ ?_))
  · repeat (first | exact Weak.nil | refine Weak.cons rfl (Sub.refl _) ?_)
  rintro ⟨i, j, h⟩ ⟨hi0, him, hj0, hjn, hro⟩
  simp only at hi0 him hj0 hjn hro
  change J _ _ _ _ _ (roE F w0 g n cap m cmp (i, j, h))
  repeat (first | refine Plan.move rfl rfl rfl rfl ?_ | (refine Plan.ints rfl rfl rfl rfl rfl rfl ?_; (skip)) | refine J.seq (J.seq (J.region mixed hI (by kernel_rfl) ?_)))
  refine J.condN rfl (fun hc => ?_) (fun hc => ?_)
  · have hij : i ≠ j := fun e => by subst e; exact hc rfl
    refine J.skip ?_
    refine J.block ?_
    repeat (first | refine Plan.move rfl rfl rfl rfl ?_ | (refine Plan.ints rfl rfl rfl rfl rfl rfl ?_; (skip)) | refine J.seq (J.region mixed hI (by kernel_rfl) ?_))
    refine J.condD rfl (fun hd => ?_) (fun hd => ?_)
    · have hlt : j < i := by
        dsimp only at hd; omega
      refine J.seq (J.region mixed hI (by kernel_rfl) ?_)
      refine Plan.move rfl rfl rfl rfl ?_
      refine Plan.move rfl rfl rfl rfl ?_
      refine Plan.move rfl rfl rfl rfl ?_
      refine Plan.ints rfl rfl rfl rfl rfl rfl ?_
      refine Plan.int (y := ((m - i : Nat) : Int)) (by dsimp only; rw [i64r (by omega)]; omega) ?_
      repeat (refine Plan.move rfl rfl rfl rfl ?_)
      refine Plan.callC (key := 1000) (q := 0) rfl rfl rfl (swapRange_fn g n cap (m - i) m j h cmp (by omega) (by omega) hn) Tryz.func124 rfl rfl (by intro _ e; cases e; decide) (by repeat (first | exact Opnds.nil | refine Opnds.cons rfl (by exact Sub.refl _) ?_)) rfl hA rfl ?_
      intro _ _
      refine J.region mixed hI (by kernel_rfl) ?_
      repeat (first | refine Plan.move rfl rfl rfl rfl ?_ | refine Plan.assign rfl rfl rfl rfl ?_ | (refine Plan.ints rfl rfl rfl rfl rfl rfl ?_; (refine Plan.int (i64r (by omega)) ?_)))
      refine Plan.int (y := ((i - j : Nat) : Int)) (by (dsimp only; omega)) ?_
      refine Nrm.next (i - j, j, swpR h (m - i) m j) ⟨by dsimp only; omega, by dsimp only; omega, hj0, hjn, ?_⟩ (by dsimp only; omega) (by repeat (first | exact Weak.nil | refine Weak.cons rfl (Sub.refl _) ?_))
      dsimp only
      rw [show m - (i - j) = m - i + j by omega, rot_left hlt him]
      exact hro
    · have hlt : i < j := by
        dsimp only at hd; omega
      refine J.seq (J.region mixed hI (by kernel_rfl) ?_)
      refine Plan.move rfl rfl rfl rfl ?_
      refine Plan.move rfl rfl rfl rfl ?_
      refine Plan.move rfl rfl rfl rfl ?_
      refine Plan.ints rfl rfl rfl rfl rfl rfl ?_
      refine Plan.int (y := ((m - i : Nat) : Int)) (by dsimp only; rw [i64r (by omega)]; omega) ?_
      refine Plan.move rfl rfl rfl rfl ?_
      refine Plan.move rfl rfl rfl rfl ?_
      refine Plan.ints rfl rfl rfl rfl rfl rfl ?_
      refine Plan.int (y := ((m + j : Nat) : Int)) (by dsimp only; rw [i64r (by omega)]; omega) ?_
      refine Plan.move rfl rfl rfl rfl ?_
      refine Plan.ints rfl rfl rfl rfl rfl rfl ?_
      refine Plan.int (y := ((m + j - i : Nat) : Int)) (by dsimp only; rw [i64r (by omega)]; omega) ?_
      repeat (refine Plan.move rfl rfl rfl rfl ?_)
      refine Plan.callC (key := 1000) (q := 0) rfl rfl rfl (swapRange_fn g n cap (m - i) (m + j - i) i h cmp (by omega) (by omega) hn) Tryz.func124 rfl rfl (by intro _ e; cases e; decide) (by repeat (first | exact Opnds.nil | refine Opnds.cons rfl (by exact Sub.refl _) ?_)) rfl hA rfl ?_
      intro _ _
      refine J.region mixed hI (by kernel_rfl) ?_
      repeat (first | refine Plan.move rfl rfl rfl rfl ?_ | refine Plan.assign rfl rfl rfl rfl ?_ | (refine Plan.ints rfl rfl rfl rfl rfl rfl ?_; (skip)))
      refine Plan.int (y := ((j - i : Nat) : Int)) (by (dsimp only; rw [i64r (by omega)]; omega)) ?_
      refine Nrm.next (i, j - i, swpR h (m - i) (m + j - i) i) ⟨hi0, him, by dsimp only; omega, by dsimp only; omega, ?_⟩ (by dsimp only; omega) (by repeat (first | exact Weak.nil | refine Weak.cons rfl (Sub.refl _) ?_))
      dsimp only
      rw [show m + (j - i) = m + j - i by omega, rot_right hlt him]
      exact hro
  · have hij : i = j := by
      dsimp only at hc; omega
    subst hij
    refine J.exit ?_
    refine J.region mixed hI (by kernel_rfl) ?_
    refine Plan.move rfl rfl rfl rfl ?_
    refine Plan.move rfl rfl rfl rfl ?_
    refine Plan.move rfl rfl rfl rfl ?_
    refine Plan.ints rfl rfl rfl rfl rfl rfl ?_
    refine Plan.int (y := ((m - i : Nat) : Int)) (by dsimp only; rw [i64r (by omega)]; omega) ?_
    repeat (refine Plan.move rfl rfl rfl rfl ?_)
    refine Plan.callC (key := 1000) (q := 0) rfl rfl rfl (swapRange_fn g n cap (m - i) m i h cmp (by omega) (by omega) hn) Tryz.func124 rfl rfl (by intro _ e; cases e; decide) (by repeat (first | exact Opnds.nil | refine Opnds.cons rfl (by exact Sub.refl _) ?_)) rfl hA rfl ?_
    intro _ _
    rw [rot_same him, hro]
    exact Nrm.retC0 (key := 1000) () rfl rfl rfl trivial (by exact Ent.one) (.inl rfl)
structure CmpK (fid : FuncId) (caps : List Value) (cN : Chunk) (N : Nat) (R : Nat → Nat → Prop) : Prop where
  fn : ∃ fn, Tryz.prog.funcs[fid]? = some fn ∧ fn.body.isNone = false ∧ (fn.name == "runtime.NumGoroutine") = false
  call : ∀ x y, x < N → y < N → ∃ c : Int, SpcR Tryz.prog fid ([.ex (vi x), .ex (vi y)] ++ caps.map .ex) cN (fun _ => .ex (vi c)) ∧ (y < x → (c < 0 ↔ R x y))
abbrev fnV (fid : FuncId) (caps : List Value) : Value := .func (.func fid) #[] caps.toArray
def isE (F : Nat → Prop) (w0 : World) (g n cap a b : Nat) (cmp : Value) (cN : Chunk) (s : Nat × (Nat → Nat)) : Env :=
  [(0, .ex (slI g n cap)), (1, .ex (vi a)), (2, .ex (vi b)), (3, .ex cmp), (8, .ex (vi s.1)), (1000, heap (fun b => F b ∨ w0.heap.size ≤ b) [rowI g n cap s.2, cN])]
def iiE (F : Nat → Prop) (w0 : World) (g n cap a b : Nat) (cmp : Value) (cN : Chunk) (i : Nat) (h : Nat → Nat) (j : Nat) : Env :=
  [(0, .ex (slI g n cap)), (1, .ex (vi a)), (2, .ex (vi b)), (3, .ex cmp), (8, .ex (vi i)), (9, .ex (vi j)), (1000, heap (fun b => F b ∨ w0.heap.size ≤ b) [rowI g n cap (unshF h j i), cN])]
theorem insertionSort_fn {fid : FuncId} {caps : List Value} {cN : Chunk} {N : Nat} {R : Nat → Nat → Prop} (o : Ord R) (K : CmpK fid caps cN N R) (g n cap a b : Nat) (f : Nat → Nat) (hab : a ≤ b) (hb : b ≤ n) (hn : n ≤ 1000000)
    (hN : ∀ i, i < n → f i < N) (hinc : ∀ i j, a ≤ i → i < j → j < b → f i < f j) :
    SpcC Tryz.prog 119 [.ex (slI g n cap), .ex (vi a), .ex (vi b), .ex (fnV fid caps)] (allC [rowI g n cap f, cN]) (fun h : Nat → Nat => Mix a b f h ∧ SortedF R a b h) (fun _ => Fa.any)
      (fun h => allC [rowI g n cap h, cN]) := by
  obtain ⟨fn, hfn, hfb, hfm⟩ := K.fn
  refine SpcC.intro Tryz.func119 rfl (Nat.le_of_ble_eq_true rfl) fun w0 F => ?_
  have hI := kept_below F w0
  have hA := Own.kept F w0
  refine J.open1 (key := 1000) rfl ?_
  refine J.seq (J.region mixed hI (by kernel_rfl) ?_)
  repeat (first | refine Plan.move rfl rfl rfl rfl ?_ | refine Plan.assign rfl rfl rfl rfl ?_ | (refine Plan.ints rfl rfl rfl rfl rfl rfl ?_; (refine Plan.int (i64r (by omega)) ?_)))
  refine Plan.int (y := ((a + 1 : Nat) : Int)) (by omega) ?_
  refine J.block (J.loop (isE F w0 g n cap a b (fnV fid caps) cN) (fun s => a + 1 ≤ s.1 ∧ (s.1 ≤ b ∨ s.1 = a + 1) ∧ (s.1 = a + 1 → s.2 = f) ∧ Mix a s.1 f s.2 ∧ SortedF R a s.1 s.2) (fun s => b - s.1) (a + 1, f) ⟨Nat.le_refl _, .inr rfl, fun _ => rfl, Mix.refl _ _ _, fun i j p q r => by dsimp only at r; omega⟩ ?_ ?_)
  · repeat (first | exact Weak.nil | refine Weak.cons rfl (Sub.refl _) ?_)
  rintro ⟨i, h⟩ ⟨hi1, hi2, hi3, hmx, hso⟩
  simp only at hi1 hi2 hi3 hmx hso
  change J _ _ _ _ _ (isE F w0 g n cap a b (fnV fid caps) cN (i, h))
  repeat (first | refine Plan.move rfl rfl rfl rfl ?_ | (refine Plan.ints rfl rfl rfl rfl rfl rfl ?_; (skip)) | refine J.seq (J.seq (J.region mixed hI (by kernel_rfl) ?_)))
  refine J.condD rfl (fun hc => ?_) (fun hc => ?_)
  · have hlt : i < b := by
      dsimp only at hc; omega
    have hhi : h i = f i := hmx.out i (.inr (Nat.le_refl _))
    have hles : ∀ k, a ≤ k → k < i → h k < h i := fun k p q => by
      obtain ⟨k2, p2, q2, e⟩ := hmx.fro k p q
      rw [hhi, e]; exact hinc k2 i p2 q2 hlt
    have hNh : ∀ k, a ≤ k → k ≤ i → h k < N := fun k p q => by
      by_cases e : k = i
      · rw [e, hhi]; exact hN i (by omega)
      · obtain ⟨k2, p2, q2, e2⟩ := hmx.fro k p (by omega)
        rw [e2]; exact hN k2 (by omega)
    refine J.skip ?_
    refine J.seq (J.block ?_)
    repeat (first | refine Plan.move rfl rfl rfl rfl ?_ | refine Plan.assign rfl rfl rfl rfl ?_ | refine J.seq (J.region mixed hI (by kernel_rfl) ?_))
    refine J.block (J.loop (iiE F w0 g n cap a b (fnV fid caps) cN i h) (fun j => a ≤ j ∧ j ≤ i ∧ ∀ k, j ≤ k → k < i → R (h i) (h k)) (fun j => j) i ⟨by omega, Nat.le_refl _, fun k p q => by omega⟩ ?_ ?_)
    · rw [iiE, unsh_zero]
      repeat (first | exact Weak.nil | refine Weak.cons rfl (Sub.refl _) ?_)
    rintro j ⟨hj1, hj2, hj3⟩
    have hcj : unshF h j i j = h i := by unfold unshF; rw [if_pos rfl]
    have hstop : (j = a ∨ ¬ R (h i) (h (j - 1))) → Mix a (i + 1) f (unshF h j i) ∧ SortedF R a (i + 1) (unshF h j i) := fun hx =>
      ⟨(hmx.wide (Nat.le_refl _) (by omega)).trans (unsh_mix hj1 hj2 (by omega)),
       unsh_sorted hso hj2 (fun k p q => by
        rcases hx with hx | hx
        · omega
        · have h1 := o.not (by have := hles (j - 1) (by omega) (by omega); omega) hx
          exact sorted_le o hso p (by omega) (by omega) h1) hj3 hj1⟩
    refine J.seq (J.seq (J.region mixed hI (by kernel_rfl) ?_))
    repeat (first | refine Plan.move rfl rfl rfl rfl ?_ | (refine Plan.ints rfl rfl rfl rfl rfl rfl ?_; (skip)))
    by_cases hja : a < j
    rotate_left
    · have hjea : j = a := by omega
      refine Plan.boolv (y := false) (decide_eq_false (by omega)) ?_
      repeat (first | refine Plan.skip rfl rfl ?_ | refine Plan.pick rfl rfl rfl rfl rfl ?_ | refine J.condF rfl ?_)
      refine J.exit ?_
      obtain ⟨e1, e2⟩ := hstop (.inl hjea)
      repeat (first | refine Plan.move rfl rfl rfl rfl ?_ | refine Plan.assign rfl rfl rfl rfl ?_ | (refine Plan.ints rfl rfl rfl rfl rfl rfl ?_; (refine Plan.int (i64r (by omega)) ?_)) | refine J.region mixed hI (by kernel_rfl) ?_)
      refine Plan.int (y := ((i + 1 : Nat) : Int)) (by omega) ?_
      exact Nrm.next (i + 1, unshF h j i) ⟨by dsimp only; omega, .inl hlt, fun e => by dsimp only at e; omega, e1, e2⟩ (by dsimp only; omega) (by repeat (first | exact Weak.nil | refine Weak.cons rfl (Sub.refl _) ?_))
    have hcj1 : unshF h j i (j - 1) = h (j - 1) := by unfold unshF; rw [if_neg (by omega), if_neg (by omega)]
    obtain ⟨c, hcall, hcR⟩ := K.call (h i) (h (j - 1)) (hNh i (by omega) (Nat.le_refl _)) (hNh (j - 1) (by omega) (by omega))
    have hcR := hcR (hles (j - 1) (by omega) (by omega))
    refine Plan.boolv (y := true) (decide_eq_true (by omega)) ?_
    repeat (refine Plan.move rfl rfl rfl rfl ?_)
    refine Plan.indexCI j (by omega) rfl rfl rfl rfl rfl eltI (by omega) ?_
    refine Plan.loadC (key := 1000) (q := 0) rfl rfl rfl rfl rfl rfl (row_reads1 (ints_get (by omega))) Tryz.underlying3 (by rfl) (by decide) ?_
    rw [hcj]
    repeat (first | refine Plan.move rfl rfl rfl rfl ?_ | (refine Plan.ints rfl rfl rfl rfl rfl rfl ?_; (refine Plan.int (i64r (by omega)) ?_)))
    refine Plan.indexCI (j - 1) (by omega) rfl rfl rfl rfl rfl eltI (by omega) ?_
    refine Plan.loadC (key := 1000) (q := 0) rfl rfl rfl rfl rfl rfl (row_reads1 (ints_get (by omega))) Tryz.underlying3 (by rfl) (by decide) ?_
    rw [hcj1]
    repeat (fail)
    refine Plan.callFR (key := 1000) (B := 0) (fs := [.ex (vi (h i)), .ex (vi (h (j - 1)))]) (caps := caps) rfl rfl rfl rfl hcall hfn hfb hfm (fun _ _ => Nat.zero_le _) (Opnds.cons rfl (Sub.refl _) (Opnds.cons rfl (Sub.refl _) Opnds.nil)) rfl (Ent.right.trans Ent.left) (by decide) ?_
    repeat (first | refine Plan.pick rfl rfl rfl rfl rfl ?_ | (refine Plan.ints rfl rfl rfl rfl rfl rfl ?_; (skip)))
    refine J.condD rfl (fun hd => ?_) (fun hd => ?_)
    · have hRR : R (h i) (h (j - 1)) := hcR.1 hd
      obtain ⟨j', rfl⟩ : ∃ j', j = j' + 1 := ⟨j - 1, by omega⟩
      rw [Nat.add_sub_cancel] at hcj1 hRR
      refine J.skip ?_
      refine J.seq (J.block ?_)
      refine J.loose2 [(2, slI g n cap), (3, vi ((j' + 1 : Nat) : Int)), (4, vi j')] [(0, .ex (slI g n cap)), (9, .ex (vi ((j' + 1 : Nat) : Int)))] mixed hI rfl rfl rfl (by kernel_rfl) (by kernel_rfl) (by kernel_rfl) rfl rfl (fun ⟨_, _, h⟩ => h) (fun _ _ _ _ h => h) (by repeat (first | exact Weak.nil | refine Weak.cons rfl (Sub.refl _) ?_)) ?_ ?_
      · refine Gives.cons [(0, .ex (slI g n cap)), (9, .ex (vi ((j' + 1 : Nat) : Int)))] (by kernel_rfl) rfl (by kernel_rfl) (Plan.move rfl rfl rfl rfl (Plan.gives rfl)) ?_
        refine Gives.cons [(0, .ex (slI g n cap)), (9, .ex (vi ((j' + 1 : Nat) : Int)))] (by kernel_rfl) rfl (by kernel_rfl) (Plan.move rfl rfl rfl rfl (Plan.gives rfl)) ?_
        exact Gives.cons [(40, .ex (vi ((j' + 1 : Nat) : Int))), (0, .ex (slI g n cap)), (9, .ex (vi ((j' + 1 : Nat) : Int)))] (by kernel_rfl) rfl (by kernel_rfl) (Plan.ints rfl rfl rfl rfl rfl rfl (Plan.int (y := (j' : Int)) (by rw [i64r (by omega)]; omega) (Plan.gives rfl))) Gives.nil
      repeat (first | refine Plan.move rfl rfl rfl rfl ?_ | refine Plan.assign rfl rfl rfl rfl ?_ | (refine Plan.ints rfl rfl rfl rfl rfl rfl ?_; (refine Plan.int (i64r (by omega)) ?_)))
      refine Plan.indexCI j' (by omega) rfl rfl rfl rfl rfl eltI (by omega) ?_
      refine Plan.loadC (key := 1000) (q := 0) rfl rfl rfl rfl rfl rfl (row_reads1 (ints_get (by omega))) Tryz.underlying3 (by rfl) (by decide) ?_
      repeat (refine Plan.move rfl rfl rfl rfl ?_)
      refine Plan.indexCI (j' + 1) (by omega) rfl rfl rfl rfl rfl eltI (by omega) ?_
      refine Plan.loadC (key := 1000) (q := 0) rfl rfl rfl rfl rfl rfl (row_reads1 (ints_get (by omega))) Tryz.underlying3 (by rfl) (by decide) ?_
      refine Plan.indexCI (j' + 1) (by omega) rfl rfl rfl rfl rfl eltI (by omega) ?_
      refine Plan.storeC (key := 1000) (q := 0) rfl rfl rfl rfl rfl rfl (by simp [Value.cells, Value.oneCell']) (by kernel_rfl) rfl hA rfl (row_pat1 (by rw [ints_len]; omega)) ?_
      refine Plan.indexCI j' (by omega) rfl rfl rfl rfl rfl eltI (by omega) ?_
      refine Plan.storeC (key := 1000) (q := 0) rfl rfl rfl rfl rfl rfl (by simp [Value.cells, Value.oneCell']) (by kernel_rfl) rfl hA rfl (row_pat1 (by rw [List.length_set, ints_len]; omega)) ?_
      rw [ints_swap (by omega) (by omega) (by omega), unsh_succ h (by omega)]
      repeat (first | refine Plan.move rfl rfl rfl rfl ?_ | refine Plan.assign rfl rfl rfl rfl ?_ | (refine Plan.ints rfl rfl rfl rfl rfl rfl ?_; (refine Plan.int (i64r (by omega)) ?_)) | refine J.region mixed hI (by kernel_rfl) ?_)
      refine Plan.int (y := (j' : Int)) (by omega) ?_
      refine Nrm.next j' ⟨by omega, by omega, fun k p q => ?_⟩ (by omega) (by repeat (first | exact Weak.nil | refine Weak.cons rfl (Sub.refl _) ?_))
      by_cases e : k = j'
      · rw [e]; exact hRR
      · exact hj3 k (by omega) q
    · have hRR : ¬ R (h i) (h (j - 1)) := fun e => hd (hcR.2 e)
      refine J.exit ?_
      obtain ⟨e1, e2⟩ := hstop (.inr hRR)
      repeat (first | refine Plan.move rfl rfl rfl rfl ?_ | refine Plan.assign rfl rfl rfl rfl ?_ | (refine Plan.ints rfl rfl rfl rfl rfl rfl ?_; (refine Plan.int (i64r (by omega)) ?_)) | refine J.region mixed hI (by kernel_rfl) ?_)
      refine Plan.int (y := ((i + 1 : Nat) : Int)) (by omega) ?_
      exact Nrm.next (i + 1, unshF h j i) ⟨by dsimp only; omega, .inl hlt, fun e => by dsimp only at e; omega, e1, e2⟩ (by dsimp only; omega) (by repeat (first | exact Weak.nil | refine Weak.cons rfl (Sub.refl _) ?_))
  · refine J.exit ?_
    have hfin : Mix a b f h ∧ SortedF R a b h := by
      by_cases hib : i = b
      · rw [← hib]; exact ⟨hmx, hso⟩
      · have hia : i = a + 1 := by
          dsimp only at hc; omega
        rw [hi3 hia]
        exact ⟨Mix.refl _ _ _, fun p q r s t => by
          dsimp only at hc; omega⟩
    exact Nrm.retC0 (key := 1000) h rfl rfl rfl hfin (Ent.refl _) (.inl rfl)
end Go.Proofs.YtmljgobenlpnfaaGreat
end

section
namespace Go.Proofs.YtmljgobenlpnfaaGreat
open Go.Free Go.RowKit Go.Proofs
/-! ### The check, on bit vectors -/
def crcStep (n : BitVec 16) : BitVec 16 := (n <<< 1) ^^^ (0x1021#16 * (n >>> 15))
def crcSteps : Nat → BitVec 16 → BitVec 16
  | 0, n => n
  | k + 1, n => crcStep (crcSteps k n)
def lift16 (c : UInt8) : BitVec 16 := c.toBitVec.setWidth 16
def crcByte (n : BitVec 16) (c : UInt8) : BitVec 16 := crcSteps 8 (n ^^^ (lift16 c <<< 8))
def crcFrom (n : BitVec 16) (l : List UInt8) : BitVec 16 := l.foldl crcByte n
def crcOf (l : List UInt8) : BitVec 16 := crcFrom 0xffff#16 l
theorem crcOf_take_succ (l : List UInt8) (j : Nat) (h : j < l.length) : crcOf (l.take (j + 1)) = crcByte (crcOf (l.take j)) (l.getD j 0) := by
  rw [List.take_succ_eq_append_getElem h]
  simp only [crcOf, crcFrom, List.foldl_append, List.foldl_cons, List.foldl_nil, List.getD_eq_getElem?_getD, List.getElem?_eq_getElem h, Option.getD_some]
def hi8 (n : BitVec 16) : UInt8 := ⟨(n >>> 8).setWidth 8⟩
def lo8 (n : BitVec 16) : UInt8 := ⟨n.setWidth 8⟩
def crcSeal (l : List UInt8) : List UInt8 := l ++ [hi8 (crcOf l), lo8 (crcOf l)]
def join16 (a b : UInt8) : BitVec 16 := (lift16 a <<< 8) ||| lift16 b
def crcOpen (l : List UInt8) : Option (List UInt8) :=
  if 2 ≤ l.length ∧ crcOf (l.take (l.length - 2)) = join16 (l.getD (l.length - 2) 0) (l.getD (l.length - 1) 0) then some (l.take (l.length - 2)) else none
/-! ### Numbers of sixteen bits as the model has them -/
theorem w16 (x : BitVec 16) : IntKind.u16.wrap (x.toNat : Int) = x.toNat := by have := x.isLt; rw [IntKind.wrap_u16]; omega
theorem b16 (x : BitVec 16) : BitVec.ofInt IntKind.u16.bits (x.toNat : Int) = x := by
  show BitVec.ofInt 16 (x.toNat : Int) = x
  rw [BitVec.ofInt_natCast, BitVec.ofNat_toNat, BitVec.setWidth_eq]
theorem u16_lift (c : UInt8) : IntKind.u16.wrap (c.toNat : Int) = (lift16 c).toNat := by
  have := c.toNat_lt
  rw [IntKind.wrap_u16]
  simp only [lift16, BitVec.toNat_setWidth, UInt8.toNat_toBitVec]
  omega
theorem u16_shl (x : BitVec 16) (k : Nat) : IntKind.u16.wrap ((x.toNat : Int) * 2 ^ k) = (x <<< k).toNat := by
  rw [IntKind.wrap_u16, BitVec.toNat_shiftLeft, Nat.shiftLeft_eq]
  rw [Int.natCast_emod, Int.natCast_mul, Int.natCast_pow]
  rfl
theorem u16_shr (x : BitVec 16) (k : Nat) : (x.toNat : Int).fdiv (2 ^ k) = (x >>> k).toNat := by
  rw [BitVec.toNat_ushiftRight, Nat.shiftRight_eq_div_pow, Int.fdiv_eq_ediv_of_nonneg _ (by exact Int.le_of_lt (Int.pow_pos (by decide)))]
  simp
theorem u16_xor (a b : BitVec 16) : IntKind.u16.wrap ((BitVec.ofInt IntKind.u16.bits (a.toNat : Int) ^^^ BitVec.ofInt IntKind.u16.bits (b.toNat : Int)).toNat : Int) = (a ^^^ b).toNat := by
  rw [b16, b16]; exact w16 (a ^^^ b)
theorem u16_or (a b : BitVec 16) : IntKind.u16.wrap ((BitVec.ofInt IntKind.u16.bits (a.toNat : Int) ||| BitVec.ofInt IntKind.u16.bits (b.toNat : Int)).toNat : Int) = (a ||| b).toNat := by
  rw [b16, b16]; exact w16 (a ||| b)
theorem u16_poly (a : BitVec 16) : IntKind.u16.wrap (4129 * (a.toNat : Int)) = (0x1021#16 * a).toNat := by
  rw [IntKind.wrap_u16, BitVec.toNat_mul]
  simp
theorem u8_of (x : BitVec 16) : IntKind.u8.wrap (x.toNat : Int) = (⟨x.setWidth 8⟩ : UInt8).toNat := by
  rw [IntKind.wrap_u8]
  show _ = ((x.setWidth 8).toNat : Int)
  rw [BitVec.toNat_setWidth]
  omega
theorem u16_in (n : BitVec 16) (c : UInt8) : IntKind.u16.wrap ((BitVec.ofInt IntKind.u16.bits (n.toNat : Int) ^^^ BitVec.ofInt IntKind.u16.bits (IntKind.u16.wrap (IntKind.u16.wrap (c.toNat : Int) * 2 ^ min (Int.toNat 8) IntKind.u16.bits))).toNat : Int) = (n ^^^ (lift16 c <<< 8)).toNat := by
  rw [u16_lift]
  have h := u16_shl (lift16 c) 8
  rw [show (IntKind.u16.wrap (((lift16 c).toNat : Int) * 2 ^ min (Int.toNat 8) IntKind.u16.bits)) = ((lift16 c <<< 8).toNat : Int) from h]
  exact u16_xor n (lift16 c <<< 8)
theorem u16_round (n : BitVec 16) : IntKind.u16.wrap ((BitVec.ofInt IntKind.u16.bits (IntKind.u16.wrap ((n.toNat : Int) * 2 ^ min (Int.toNat 1) IntKind.u16.bits)) ^^^ BitVec.ofInt IntKind.u16.bits (IntKind.u16.wrap (4129 * (n.toNat : Int).fdiv (2 ^ min (Int.toNat 15) IntKind.u16.bits)))).toNat : Int) = (crcStep n).toNat := by
  rw [show (IntKind.u16.wrap ((n.toNat : Int) * 2 ^ min (Int.toNat 1) IntKind.u16.bits)) = ((n <<< 1).toNat : Int) from u16_shl n 1,
    show (n.toNat : Int).fdiv (2 ^ min (Int.toNat 15) IntKind.u16.bits) = ((n >>> 15).toNat : Int) from u16_shr n 15, u16_poly]
  exact u16_xor _ _
theorem beq16 (a b : BitVec 16) : ((a.toNat : Int) == (b.toNat : Int)) = (a == b) := by
  rw [Bool.eq_iff_iff]
  simp only [beq_iff_eq]
  constructor
  · intro h; exact BitVec.eq_of_toNat_eq (by omega)
  · intro h; rw [h]
theorem bne16 (a b : BitVec 16) : ((a.toNat : Int) != (b.toNat : Int)) = (a != b) := by
  simp only [bne, beq16]
end Go.Proofs.YtmljgobenlpnfaaGreat
end

section
namespace Go.Proofs.YtmljgobenlpnfaaGreat
open Go.Free Go.RowKit Go.Proofs
def crcEnv (w0 : World) (l : List UInt8) (j : Nat) : Env := [(3, .ex (.int .u16 (crcOf (l.take j)).toNat)), (6, .old w0 (bytesF l)), (7, .ex (.int .i64 l.length)), (8, .ex (.int .i64 j))]
def crcEnv2 (w0 : World) (l : List UInt8) (j : Nat) (m : BitVec 16) (q : Nat) : Env :=
  [(3, .ex (.int .u16 (crcSteps q m).toNat)), (6, .old w0 (bytesF l)), (7, .ex (.int .i64 l.length)), (8, .ex (.int .i64 j)), (17, .ex (.int .i64 q))]
theorem crc_Of (l : List UInt8) (hl : l.length ≤ 9223372036854775806) : Spc Tryz.prog 102 [bytesF l] fun _ => .ex (.int .u16 (crcOf l).toNat) := by
  refine Spc.intro Tryz.func102 rfl (Nat.le_of_ble_eq_true rfl) fun w0 => ?_
  have hI := hIb w0
  refine J.seq (J.region mixed hI (by kernel_rfl) ?_)
  repeat (refine Plan.assign rfl rfl rfl rfl ?_)
  refine J.seq (J.region mixed hI (by kernel_rfl) ?_)
  repeat (refine Plan.assign rfl rfl rfl rfl ?_)
  refine J.seq (J.seq (J.region mixed hI (by kernel_rfl) ?_))
  repeat (refine Plan.move rfl rfl rfl rfl ?_)
  refine Plan.lenRow rfl rfl rfl rfl (Sub.old fun _ h => h) Tryz.underlying56 (m := l.length) (by simp [bs]) (by decide) ?_
  repeat (refine Plan.move rfl rfl rfl rfl ?_)
  refine J.block (J.loop (crcEnv w0 l) (fun j => j ≤ l.length) (fun j => l.length - j) 0 (Nat.zero_le _) ?_ ?_)
  · exact Weak.cons rfl (Sub.refl _) (Weak.cons rfl (Sub.refl _) (Weak.cons rfl (Sub.refl _) (Weak.cons rfl (Sub.refl _) Weak.nil)))
  intro j hj
  refine J.seq (J.region mixed hI (by kernel_rfl) ?_)
  repeat (refine Plan.ints rfl rfl rfl rfl rfl rfl ?_)
  refine J.seq (J.cond rfl (fun hc => ?_) (fun hc => ?_))
  · have hlt : j < l.length := by simpa using hc
    refine J.skip ?_
    refine J.seq (J.block ?_)
    refine J.seq (J.region mixed hI (by kernel_rfl) ?_)
    refine Plan.indexAddr (fun b : UInt8 => [.int .u8 b.toNat]) 1 l 0 rfl rfl rfl rfl (Sub.trans (Sub.old fun _ h => h) (Sub.rowEq (bs_flat l) (Sub.refl _))) rfl eltB (fun _ => rfl) (by omega) (by omega) ?_
    refine Plan.load rfl rfl rfl rfl (Sub.refl _) Tryz.underlying5 rfl ?_
    repeat (refine Plan.assign rfl rfl rfl rfl ?_)
    refine J.seq (J.region mixed hI (by kernel_rfl) ?_)
    repeat (refine Plan.move rfl rfl rfl rfl ?_)
    refine Plan.convInt rfl rfl rfl rfl Tryz.underlying5 Tryz.underlying154 ?_
    repeat (first | refine Plan.assign rfl rfl rfl rfl ?_ | refine Plan.ints rfl rfl rfl rfl rfl rfl ?_ | refine Plan.shift rfl rfl rfl rfl rfl rfl ?_)
    refine Plan.int (u16_in _ _) ?_
    refine J.seq (J.region mixed hI (by kernel_rfl) ?_)
    repeat (refine Plan.move rfl rfl rfl rfl ?_)
    refine J.block (J.loop (crcEnv2 w0 l j (crcOf (l.take j) ^^^ (lift16 (l.getD j 0) <<< 8))) (fun q => q ≤ 8) (fun q => 8 - q) 0 (Nat.zero_le _) ?_ ?_)
    · exact Weak.cons rfl (Sub.refl _) (Weak.cons rfl (Sub.refl _) (Weak.cons rfl (Sub.refl _) (Weak.cons rfl (Sub.refl _) (Weak.cons rfl (Sub.refl _) Weak.nil))))
    intro q hq
    refine J.seq (J.region mixed hI (by kernel_rfl) ?_)
    repeat (refine Plan.ints rfl rfl rfl rfl rfl rfl ?_)
    refine J.seq (J.cond rfl (fun hc2 => ?_) (fun hc2 => ?_))
    · have hlt2 : q < 8 := by have : (q : Int) < 8 := by simpa using hc2
                              omega
      refine J.skip ?_
      refine J.seq (J.block (J.region mixed hI (by kernel_rfl) ?_))
      repeat (first | refine Plan.move rfl rfl rfl rfl ?_ | refine Plan.assign rfl rfl rfl rfl ?_ | refine Plan.ints rfl rfl rfl rfl rfl rfl ?_ | refine Plan.shift rfl rfl rfl rfl rfl rfl ?_)
      refine Plan.int (u16_round _) ?_
      refine (J.region mixed hI (by kernel_rfl) ?_)
      repeat (first | refine Plan.move rfl rfl rfl rfl ?_ | refine Plan.ints rfl rfl rfl rfl rfl rfl ?_)
      refine Nrm.weak (crcEnv2 w0 l j (crcOf (l.take j) ^^^ (lift16 (l.getD j 0) <<< 8)) (q + 1)) ?_ ?_
      · exact Weak.cons rfl (Sub.refl _) (Weak.cons rfl (Sub.refl _) (Weak.cons rfl (Sub.refl _) (Weak.cons rfl (Sub.refl _) (Weak.cons rfl (Sub.of_eq (by rw [i64r (by omega)]; rfl)) Weak.nil))))
      · exact fun a w h1 h2 h3 => ⟨q + 1, hlt2, by omega, h1, h2, h3⟩
    · have hq8 : q = 8 := by have : ¬ (q : Int) < 8 := by simpa using hc2
                             omega
      subst hq8
      refine J.exit ?_
      refine (J.region mixed hI (by kernel_rfl) ?_)
      repeat (first | refine Plan.move rfl rfl rfl rfl ?_ | refine Plan.ints rfl rfl rfl rfl rfl rfl ?_)
      refine Nrm.weak (crcEnv w0 l (j + 1)) ?_ ?_
      · refine Weak.cons rfl (Sub.of_eq ?_) (Weak.cons rfl (Sub.refl _) (Weak.cons rfl (Sub.refl _) (Weak.cons rfl (Sub.of_eq (by rw [i64r (by omega)]; rfl)) Weak.nil)))
        rw [crcOf_take_succ l j hlt]; rfl
      · exact fun a w h1 h2 h3 => ⟨j + 1, hlt, by omega, h1, h2, h3⟩
  · have hge : j = l.length := by have : ¬ (j : Int) < l.length := by simpa using hc
                                  omega
    subst hge
    refine J.exit ?_
    refine J.seq (J.region mixed hI (by kernel_rfl) ?_)
    repeat (first | refine Plan.move rfl rfl rfl rfl ?_ | refine Plan.assign rfl rfl rfl rfl ?_)
    refine J.ret (Nrm.ret1 rfl (fun _ h => h) rfl fun B _ => Sub.of_eq ?_)
    rw [List.take_length]
end Go.Proofs.YtmljgobenlpnfaaGreat
end

section
namespace Go.Proofs.YtmljgobenlpnfaaGreat
open Go.Free Go.RowKit Go.Proofs
theorem bytes_Clone (l : List UInt8) (hl : l.length ≤ 140737488355328) : Spc Tryz.prog 51 [bytesF l] fun B => ownB B l := by
  refine Spc.intro Tryz.func51 rfl (Nat.le_of_ble_eq_true rfl) fun w0 => ?_
  have hI := hIb w0
  refine J.seq (J.region mixed hI (by kernel_rfl) ?_)
  repeat (refine Plan.assign rfl rfl rfl rfl ?_)
  refine J.seq (J.seq (J.region mixed hI (by kernel_rfl) ?_))
  repeat (refine Plan.move rfl rfl rfl rfl ?_)
  refine Plan.eqlNil rfl rfl rfl rfl (Sub.old fun _ h => h) Tryz.underlying56 ?_
  refine J.condNil rfl (fun hc => ?_) ?_
  · have hl0 : l = [] := by simpa [bs] using hc
    subst hl0
    refine J.seq (J.region mixed hI (by kernel_rfl) ?_)
    repeat (refine Plan.assign rfl rfl rfl rfl ?_)
    refine J.ret (Nrm.ret1 rfl (fun _ h => h) rfl fun B hB => Sub.nilOwn fun w h => Nat.le_trans hB (hBb w0 w h))
  refine J.skip ?_
  refine J.seq (J.region mixed hI (by kernel_rfl) ?_)
  refine Plan.lit (B := w0.heap.size) (vs := []) (ps := []) rfl rfl rfl eltB rfl (hBb w0) rfl (by simp) (by decide) ?_
  repeat (refine Plan.move rfl rfl rfl rfl ?_)
  refine Plan.append rfl rfl rfl rfl (Sub.refl _) rfl (Sub.old fun _ h => h) eltB (by intro d hd; cases hd; decide) (hGb w0) (bs_one l) (by simp [flat, bs]; omega) ?_
  repeat (refine Plan.assign rfl rfl rfl rfl ?_)
  refine J.ret (Nrm.ret1 rfl (fun _ h => h) rfl fun B hB => Sub.ownLower hB)
theorem crc_Seal (l : List UInt8) (hl : l.length ≤ 140737488355320) : Spc Tryz.prog 93 [bytesF l] fun B => ownB B (crcSeal l) := by
  refine Spc.intro Tryz.func93 rfl (Nat.le_of_ble_eq_true rfl) fun w0 => ?_
  have hI := hIb w0
  refine J.seq (J.region mixed hI (by kernel_rfl) ?_)
  repeat (refine Plan.assign rfl rfl rfl rfl ?_)
  refine J.seq (J.region mixed hI (by kernel_rfl) ?_)
  repeat (refine Plan.move rfl rfl rfl rfl ?_)
  refine Plan.call (B := w0.heap.size) rfl rfl rfl (crc_Of l (by omega)) Tryz.func102 rfl rfl (hBb w0) (Opnds.cons rfl (Sub.old fun _ h => h) Opnds.nil) ?_
  repeat (refine Plan.assign rfl rfl rfl rfl ?_)
  refine J.seq (J.region mixed hI (by kernel_rfl) ?_)
  repeat (refine Plan.move rfl rfl rfl rfl ?_)
  refine Plan.lenRow rfl rfl rfl rfl (Sub.old fun _ h => h) Tryz.underlying56 (m := l.length) (by simp [bs]) (by decide) ?_
  repeat (refine Plan.ints rfl rfl rfl rfl rfl rfl ?_)
  refine Plan.int (y := ((l.length + 2 : Nat) : Int)) (by rw [i64r (by omega)]; omega) ?_
  refine Plan.make0 (B := w0.heap.size) rfl rfl rfl rfl rfl eltB (hBb w0) (by omega) ?_
  repeat (refine Plan.move rfl rfl rfl rfl ?_)
  refine Plan.append rfl rfl rfl rfl (Sub.refl _) rfl (Sub.old fun _ h => h) eltB (by intro d hd; cases hd; decide) (hGb w0) (bs_one l) (by simp [bs]; omega) ?_
  repeat (first | refine Plan.move rfl rfl rfl rfl ?_ | refine Plan.shift rfl rfl rfl rfl rfl rfl ?_)
  refine Plan.int (u16_shr _ 8) ?_
  refine Plan.convInt rfl rfl rfl rfl Tryz.underlying154 Tryz.underlying5 ?_
  refine Plan.int (u8_of _) ?_
  repeat (refine Plan.move rfl rfl rfl rfl ?_)
  refine Plan.convInt rfl rfl rfl rfl Tryz.underlying154 Tryz.underlying5 ?_
  refine Plan.int (u8_of _) ?_
  refine Plan.lit (B := w0.heap.size) rfl rfl rfl eltB rfl (hBb w0) rfl (by simp [Value.cells]) (by decide) ?_
  refine Plan.append (news := bs [hi8 (crcOf l), lo8 (crcOf l)]) rfl rfl rfl rfl (Sub.refl _) rfl Sub.own eltB (by intro d hd; cases hd; decide) (hGb w0) (bs_one _) (by simp [bs]; omega) ?_
  repeat (refine Plan.assign rfl rfl rfl rfl ?_)
  refine J.ret (Nrm.ret1 rfl (fun _ h => h) rfl fun B hB => Sub.trans (Sub.of_eq ?_) (Sub.ownLower hB))
  rw [List.nil_append, ← bs_append]; rfl
theorem crc_Open (l : List UInt8) (hl : l.length ≤ 140737488355320) : Spc Tryz.prog 76 [bytesF l] fun B => .tup [ownB B ((crcOpen l).getD []), .ex (.bool (crcOpen l).isSome)] := by
  refine Spc.intro Tryz.func76 rfl (Nat.le_of_ble_eq_true rfl) fun w0 => ?_
  have hI := hIb w0
  refine J.seq (J.region mixed hI (by kernel_rfl) ?_)
  repeat (refine Plan.assign rfl rfl rfl rfl ?_)
  refine J.seq (J.region mixed hI (by kernel_rfl) ?_)
  repeat (refine Plan.move rfl rfl rfl rfl ?_)
  refine Plan.lenRow rfl rfl rfl rfl (Sub.old fun _ h => h) Tryz.underlying56 (m := l.length) (by simp [bs]) (by decide) ?_
  refine Plan.ints rfl rfl rfl rfl rfl rfl ?_
  rcases Nat.lt_or_ge l.length 2 with hlt | hge
  · have hno : crcOpen l = none := by unfold crcOpen; rw [if_neg (by omega)]
    rw [hno]
    refine Plan.int (i64r (by omega)) ?_
    repeat (refine Plan.assign rfl rfl rfl rfl ?_)
    refine J.seq (J.seq (J.region mixed hI (by kernel_rfl) ?_))
    refine Plan.move rfl rfl rfl rfl ?_
    refine Plan.ints rfl rfl rfl rfl rfl rfl ?_
    refine Plan.boolv (y := true) (by simp; omega) ?_
    repeat (first | refine Plan.move rfl rfl rfl rfl ?_ | refine Plan.skip rfl rfl ?_ | refine Plan.pick rfl rfl rfl rfl rfl ?_)
    refine J.cond rfl (fun _ => ?_) (fun h => by cases h)
    refine J.seq (J.region mixed hI (by kernel_rfl) ?_)
    repeat (refine Plan.assign rfl rfl rfl rfl ?_)
    refine J.ret (Nrm.ret2 rfl (fun _ h => h) fun B hB => ⟨_, rfl, Ress.cons rfl (Sub.nilOwn fun w h => Nat.le_trans hB (hBb w0 w h)) (Ress.cons rfl (Sub.refl _) Ress.nil)⟩)
  · have htk : (l.take (l.length - 2)).length = l.length - 2 := by rw [List.length_take]; omega
    refine Plan.int (y := ((l.length - 2 : Nat) : Int)) (by rw [i64r (by omega)]; omega) ?_
    repeat (refine Plan.assign rfl rfl rfl rfl ?_)
    refine J.seq (J.seq (J.region mixed hI (by kernel_rfl) ?_))
    refine Plan.move rfl rfl rfl rfl ?_
    refine Plan.ints rfl rfl rfl rfl rfl rfl ?_
    refine Plan.boolv (y := false) (by simp) ?_
    repeat (refine Plan.move rfl rfl rfl rfl ?_)
    refine Plan.sliceRow (m := l.length) (a0 := 0) (b0 := l.length - 2) rfl rfl rfl rfl (Sub.old fun _ h => h) eltB (by simp [bs]) (.inl ⟨rfl, rfl⟩) (.inr ⟨_, _, rfl, rfl⟩) (Nat.zero_le _) (by omega) ?_
    refine Plan.call (B := w0.heap.size) rfl rfl rfl (crc_Of (l.take (l.length - 2)) (by omega)) Tryz.func102 rfl rfl (hBb w0) (Opnds.cons rfl (Sub.of_eq (by simp [bytesF, bs, List.map_take])) Opnds.nil) ?_
    repeat (refine Plan.move rfl rfl rfl rfl ?_)
    refine Plan.indexAddr (fun b : UInt8 => [.int .u8 b.toNat]) 1 l 0 rfl rfl rfl rfl (Sub.trans (Sub.old fun _ h => h) (Sub.rowEq (bs_flat l) (Sub.refl _))) rfl eltB (fun _ => rfl) (by omega) (by omega) ?_
    refine Plan.load rfl rfl rfl rfl (Sub.refl _) Tryz.underlying5 rfl ?_
    refine Plan.convInt rfl rfl rfl rfl Tryz.underlying5 Tryz.underlying154 ?_
    refine Plan.int (u16_lift _) ?_
    refine Plan.shift rfl rfl rfl rfl rfl rfl ?_
    refine Plan.int (u16_shl _ 8) ?_
    repeat (first | refine Plan.move rfl rfl rfl rfl ?_ | refine Plan.ints rfl rfl rfl rfl rfl rfl ?_)
    refine Plan.int (y := ((l.length - 1 : Nat) : Int)) (by rw [i64r (by omega)]; omega) ?_
    refine Plan.indexAddr (fun b : UInt8 => [.int .u8 b.toNat]) 1 l 0 rfl rfl rfl rfl (Sub.trans (Sub.old fun _ h => h) (Sub.rowEq (bs_flat l) (Sub.refl _))) rfl eltB (fun _ => rfl) (by omega) (by omega) ?_
    refine Plan.load rfl rfl rfl rfl (Sub.refl _) Tryz.underlying5 rfl ?_
    refine Plan.convInt rfl rfl rfl rfl Tryz.underlying5 Tryz.underlying154 ?_
    refine Plan.int (u16_lift _) ?_
    refine Plan.ints rfl rfl rfl rfl rfl rfl ?_
    refine Plan.int (u16_or _ _) ?_
    refine Plan.ints rfl rfl rfl rfl rfl rfl ?_
    refine Plan.boolv (bne16 _ _) ?_
    repeat (refine Plan.pick rfl rfl rfl rfl rfl ?_)
    have hj : ((lift16 (l.getD (((l.length - 2 : Nat) : Int)).toNat 0) <<< 8) ||| lift16 (l.getD (((l.length - 1 : Nat) : Int)).toNat 0)) = join16 (l.getD (l.length - 2) 0) (l.getD (l.length - 1) 0) := by
      simp only [Int.toNat_natCast]; rfl
    rw [hj]
    refine J.cond rfl (fun hc => ?_) (fun hc => ?_)
    · have hno : crcOpen l = none := by
        unfold crcOpen; rw [if_neg]
        rintro ⟨_, h⟩
        rw [h] at hc
        simp at hc
      rw [hno]
      refine J.seq (J.region mixed hI (by kernel_rfl) ?_)
      repeat (refine Plan.assign rfl rfl rfl rfl ?_)
      refine J.ret (Nrm.ret2 rfl (fun _ h => h) fun B hB => ⟨_, rfl, Ress.cons rfl (Sub.nilOwn fun w h => Nat.le_trans hB (hBb w0 w h)) (Ress.cons rfl (Sub.refl _) Ress.nil)⟩)
    · have hyes : crcOpen l = some (l.take (l.length - 2)) := by
        unfold crcOpen; rw [if_pos]
        exact ⟨hge, by simpa using hc⟩
      rw [hyes]
      refine J.skip ?_
      refine J.seq (J.region mixed hI (by kernel_rfl) ?_)
      repeat (refine Plan.move rfl rfl rfl rfl ?_)
      refine Plan.sliceRow (m := l.length) (a0 := 0) (b0 := l.length - 2) rfl rfl rfl rfl (Sub.old fun _ h => h) eltB (by simp [bs]) (.inl ⟨rfl, rfl⟩) (.inr ⟨_, _, rfl, rfl⟩) (Nat.zero_le _) (by omega) ?_
      refine Plan.call (B := w0.heap.size) rfl rfl rfl (bytes_Clone (l.take (l.length - 2)) (by omega)) Tryz.func51 rfl rfl (hBb w0) (Opnds.cons rfl (Sub.of_eq (by simp [bytesF, bs, List.map_take])) Opnds.nil) ?_
      repeat (refine Plan.assign rfl rfl rfl rfl ?_)
      refine J.ret (Nrm.ret2 rfl (fun _ h => h) fun B hB => ⟨_, rfl, Ress.cons rfl (Sub.ownLower hB) (Ress.cons rfl (Sub.refl _) Ress.nil)⟩)
end Go.Proofs.YtmljgobenlpnfaaGreat
end

section
namespace Go.Proofs.YtmljgobenlpnfaaGreat
open Go.Free Go.RowKit Go.Proofs
theorem step_lo (n : BitVec 16) (h : n.toNat * 2 ≤ 65535) : (crcStep n).toNat = n.toNat * 2 := by
  have h1 : n >>> 15 = 0#16 := by
    apply BitVec.eq_of_toNat_eq
    rw [BitVec.toNat_ushiftRight, Nat.shiftRight_eq_div_pow]
    simp; omega
  simp only [crcStep, h1]
  rw [BitVec.toNat_xor, BitVec.toNat_mul, BitVec.toNat_shiftLeft, Nat.shiftLeft_eq]
  simp
  omega
theorem step_hi (n : BitVec 16) (h : 65535 < n.toNat * 2) : (crcStep n).toNat = (n.toNat * 2 - 65536) ^^^ 4129 := by
  have hn := n.isLt
  have h1 : n >>> 15 = 1#16 := by
    apply BitVec.eq_of_toNat_eq
    rw [BitVec.toNat_ushiftRight, Nat.shiftRight_eq_div_pow]
    simp; omega
  simp only [crcStep, h1]
  rw [BitVec.toNat_xor, BitVec.toNat_mul, BitVec.toNat_shiftLeft, Nat.shiftLeft_eq]
  have e : n.toNat * 2 ^ 1 % 2 ^ 16 = n.toNat * 2 - 65536 := by omega
  rw [e]
  rfl
end Go.Proofs.YtmljgobenlpnfaaGreat
end

section
namespace Go.Proofs.YtmljgobenlpnfaaGreat
open Go.Free Go.RowKit Go.Proofs
theorem join_nat (a b : UInt8) : (join16 a b).toNat = a.toNat * 256 + b.toNat := by
  have h1 := a.toNat_lt
  have h2 := b.toNat_lt
  simp only [join16, lift16, BitVec.toNat_or, BitVec.toNat_shiftLeft, BitVec.toNat_setWidth, UInt8.toNat_toBitVec]
  have e1 : a.toNat % 2 ^ 16 = a.toNat := by omega
  have e2 : b.toNat % 2 ^ 16 = b.toNat := by omega
  rw [e1, e2]
  have e3 : a.toNat <<< 8 % 2 ^ 16 = a.toNat <<< 8 := by rw [Nat.shiftLeft_eq]; omega
  rw [e3, ← Nat.shiftLeft_add_eq_or_of_lt (by omega), Nat.shiftLeft_eq]
theorem hi_nat (n : BitVec 16) : UInt8.ofNat (n.toNat / 256) = hi8 n := by
  apply UInt8.toNat_inj.1
  have := n.isLt
  rw [UInt8.toNat_ofNat']
  simp only [hi8]
  show _ = ((n >>> 8).setWidth 8).toNat
  rw [BitVec.toNat_setWidth, BitVec.toNat_ushiftRight, Nat.shiftRight_eq_div_pow]
theorem lo_nat (n : BitVec 16) : UInt8.ofNat (n.toNat % 256) = lo8 n := by
  apply UInt8.toNat_inj.1
  rw [UInt8.toNat_ofNat']
  simp only [lo8]
  show _ = (n.setWidth 8).toNat
  rw [BitVec.toNat_setWidth]
  omega
theorem seal_open (l : List UInt8) : crcOpen l = if 2 ≤ l.length ∧ crcSeal (l.take (l.length - 2)) = l then some (l.take (l.length - 2)) else none := by
  unfold crcOpen
  by_cases h2 : 2 ≤ l.length
  · have hsplit : l = l.take (l.length - 2) ++ [l.getD (l.length - 2) 0, l.getD (l.length - 1) 0] := by
      have h1 : l.drop (l.length - 2) = [l.getD (l.length - 2) 0, l.getD (l.length - 1) 0] := by
        rw [List.drop_eq_getElem_cons (by omega), List.drop_eq_getElem_cons (by omega), List.drop_of_length_le (by omega)]
        simp only [List.getD_eq_getElem?_getD]
        rw [List.getElem?_eq_getElem (by omega), List.getElem?_eq_getElem (by omega)]
        simp only [Option.getD_some, List.cons.injEq, and_true, true_and]
        congr 1; omega
      calc l = l.take (l.length - 2) ++ l.drop (l.length - 2) := (List.take_append_drop _ _).symm
        _ = _ := by rw [h1]
    have hj : ∀ n a b, n = join16 a b ↔ hi8 n = a ∧ lo8 n = b := by
      intro n a b
      rw [← hi_nat, ← lo_nat, ← UInt8.toNat_inj, ← UInt8.toNat_inj]
      rw [show (n = join16 a b) ↔ n.toNat = (join16 a b).toNat from ⟨fun h => by rw [h], BitVec.eq_of_toNat_eq⟩, join_nat]
      have h1 := a.toNat_lt
      have h2 := b.toNat_lt
      have h3 := n.isLt
      rw [UInt8.toNat_ofNat', UInt8.toNat_ofNat']
      omega
    have : (crcOf (l.take (l.length - 2)) = join16 (l.getD (l.length - 2) 0) (l.getD (l.length - 1) 0)) ↔ crcSeal (l.take (l.length - 2)) = l := by
      rw [hj]
      constructor
      · rintro ⟨h3, h4⟩
        rw [crcSeal, h3, h4]; exact hsplit.symm
      · intro h
        have h5 := h.trans hsplit
        rw [crcSeal, List.append_cancel_left_eq] at h5
        simpa using h5
    simp only [h2, true_and, this]
  · simp [h2]
end Go.Proofs.YtmljgobenlpnfaaGreat
end

section
namespace Go.Proofs.YtmljgobenlpnfaaGreat
open Go.Free Go.RowKit Go.Proofs
theorem crc_Back_open (l : List UInt8) : crcOpen (crcSeal l) = some l := by
  have hlen : (crcSeal l).length = l.length + 2 := by simp [crcSeal]
  have ht : (crcSeal l).take ((crcSeal l).length - 2) = l := by rw [hlen]; simp [crcSeal]
  rw [seal_open, ht, if_pos ⟨by omega, rfl⟩]
end Go.Proofs.YtmljgobenlpnfaaGreat
end

section
namespace Go.Proofs.YtmljgobenlpnfaaGreat
open Go.Free Go.RowKit Go.Proofs
set_option maxHeartbeats 2000000
def hdr (n : Nat) : List UInt8 := [UInt8.ofNat (n / 256), UInt8.ofNat (n % 256)]
def fPut (l : List UInt8) : List UInt8 := crcSeal (hdr l.length) ++ crcSeal l
theorem seal_length (l : List UInt8) : (crcSeal l).length = l.length + 2 := by simp [crcSeal]
theorem fPut_length (l : List UInt8) : (fPut l).length = l.length + 6 := by simp [fPut, seal_length, hdr]; omega
abbrev opened (l : List UInt8) : List UInt8 := (crcOpen l).getD []
abbrev fits (l : List UInt8) : Bool := (crcOpen l).isSome
def hlen (h : List UInt8) : Nat := (h.getD 0 0).toNat * 256 + (h.getD 1 0).toNat
def fTake0 (r : List UInt8) : List UInt8 × Nat × Nat :=
  if r.length < 4 then ([], 0, 2)
  else if fits (r.take 4) = false then ([], 0, 5)
  else if 65529 < hlen (opened (r.take 4)) then ([], 0, 4)
  else if r.length < hlen (opened (r.take 4)) + 6 then ([], 0, 2)
  else if fits ((r.take (hlen (opened (r.take 4)) + 6)).drop 4) = false then ([], 0, 5)
  else (opened ((r.take (hlen (opened (r.take 4)) + 6)).drop 4), hlen (opened (r.take 4)) + 6, 0)
def fTake (l : List UInt8) (p : Int) : List UInt8 × Nat × Nat :=
  if p < 0 ∨ (l.length : Int) < p then ([], 0, 1)
  else if (fTake0 (l.drop p.toNat)).2.2 = 0 then ((fTake0 (l.drop p.toNat)).1, p.toNat + (fTake0 (l.drop p.toNat)).2.1, 0) else ([], 0, (fTake0 (l.drop p.toNat)).2.2)
theorem hlen_le (h : List UInt8) : hlen h ≤ 65535 := by
  have h1 := (h.getD 0 0).toNat_lt
  have h2 := (h.getD 1 0).toNat_lt
  unfold hlen; omega
theorem opened_len {l : List UInt8} (h : fits l = true) : 2 ≤ l.length ∧ (opened l).length = l.length - 2 := by
  unfold fits opened crcOpen at *
  split at h
  · rename_i g
    rw [if_pos g]
    simp only [Option.getD_some, List.length_take]; omega
  · cases h
theorem shl8 (x : Nat) (h : x < 65536) : IntKind.i64.wrap ((x : Int) * 2 ^ 8) = ((x * 256 : Nat) : Int) := by rw [i64r (by omega)]; omega
theorem hdr_cells (n : Nat) : flat [Value.int .u8 ((n / 256 % 256 : Nat) : Int), Value.int .u8 ((n % 256 % 256 : Nat) : Int)] = bs (hdr n) := by
  simp [hdr, bs, flat, Value.cells]
theorem hdr_cells2 {n : Nat} (h : n < 65536) : flat [Value.int .u8 ((n / 2 ^ 8 : Nat) : Int), Value.int .u8 ((n % 256 : Nat) : Int)] = bs (hdr n) := by
  rw [← hdr_cells, Nat.mod_mod, Nat.mod_eq_of_lt (a := n / 256) (by omega)]
theorem frame_Put (l : List UInt8) (hl : l.length ≤ 140737488355000) : Spc Tryz.prog 65 [bytesF l] fun B => .tup [ownB B (if 65529 < l.length then [] else fPut l), .ex (.int .i64 (if 65529 < l.length then 4 else 0))] := by
  refine Spc.intro Tryz.func65 rfl (Nat.le_of_ble_eq_true rfl) fun w0 => ?_
  have hI := hIb w0
  repeat (first | refine Plan.move rfl rfl rfl rfl ?_ | refine Plan.assign rfl rfl rfl rfl ?_ | (refine Plan.ints rfl rfl rfl rfl rfl rfl ?_; (skip)) | refine Plan.lenB rfl rfl rfl rfl (by exact Sub.old (fun _ h => h)) Tryz.underlying56 ?_ | refine J.seq (J.region mixed hI (by kernel_rfl) ?_) | refine J.seq (J.seq (J.region mixed hI (by kernel_rfl) ?_)))
  refine J.condD rfl (fun h => ?_) (fun h => ?_)
  · have h' : 65529 < l.length := by omega
    rw [if_pos h', if_pos h']
    repeat (first | refine Plan.assign rfl rfl rfl rfl ?_ | refine J.seq (J.region mixed hI (by kernel_rfl) ?_))
    exact J.ret (Nrm.ret2 rfl (fun _ h => h) fun B hB => ⟨_, rfl, Ress.cons rfl (by exact Sub.nilOwn (fun _ h => Nat.le_trans hB h.size)) (Ress.cons rfl (by exact Sub.refl _) Ress.nil)⟩)
  · have h' : ¬ 65529 < l.length := by omega
    rw [if_neg h', if_neg h']
    repeat (first | refine Plan.move rfl rfl rfl rfl ?_ | refine J.seq (J.region mixed hI (by kernel_rfl) ?_) | refine J.skip ?_)
    refine Plan.shift rfl rfl rfl rfl rfl rfl ?_
    refine Plan.int (fdivN l.length 8) ?_
    repeat (first | refine Plan.move rfl rfl rfl rfl ?_ | (refine Plan.convInt rfl rfl rfl rfl (by exact Tryz.underlying3) (by first | exact Tryz.underlying3 | exact Tryz.underlying5) ?_; (first | refine Plan.int (u8r (by omega)) ?_ | refine Plan.int (remN _ _) ?_)))
    refine Plan.lit (B := w0.heap.size) rfl rfl rfl eltB rfl (hBb w0) rfl (by simp [Value.cells]) (by decide) ?_
    refine Plan.call (B := w0.heap.size) rfl rfl rfl (crc_Seal (hdr l.length) (by simp [hdr])) Tryz.func93 rfl rfl (hBb w0) (Opnds.cons rfl (Sub.rowEq (hdr_cells2 (by omega)) Sub.own) Opnds.nil) ?_
    repeat (refine Plan.move rfl rfl rfl rfl ?_)
    refine Plan.call (B := w0.heap.size) rfl rfl rfl (crc_Seal l (by omega)) Tryz.func93 rfl rfl (hBb w0) (by repeat (first | exact Opnds.nil | refine Opnds.cons rfl (by exact Sub.old (fun _ h => h)) ?_)) ?_
    refine Plan.append (news := bs (crcSeal l)) rfl rfl rfl rfl (Sub.refl _) rfl Sub.own eltB (by intro d hd; cases hd; decide) (hGb w0) (bs_one _) (by simp [bs, seal_length, hdr]; omega) ?_
    rw [← bs_append]
    repeat (refine Plan.assign rfl rfl rfl rfl ?_)
    exact J.ret (Nrm.ret2 rfl (fun _ h => h) fun B hB => ⟨_, rfl, Ress.cons rfl (by exact Sub.ownLower hB) (Ress.cons rfl (by exact Sub.refl _) Ress.nil)⟩)
theorem frame_Take (l : List UInt8) (p : Int) (hp : -9223372036854775808 ≤ p ∧ p ≤ 9223372036854775807) (hl : l.length ≤ 140737488355000) :
    Spc Tryz.prog 52 [bytesF l, .ex (.int .i64 p)] fun B => .tup [ownB B (fTake l p).1, .ex (.int .i64 (fTake l p).2.1), .ex (.int .i64 (fTake l p).2.2)] := by
  refine Spc.intro Tryz.func52 rfl (Nat.le_of_ble_eq_true rfl) fun w0 => ?_
  have hI := hIb w0
  repeat (first | refine Plan.move rfl rfl rfl rfl ?_ | refine Plan.assign rfl rfl rfl rfl ?_ | (refine Plan.ints rfl rfl rfl rfl rfl rfl ?_; (skip)) | refine J.seq (J.region mixed hI (by kernel_rfl) ?_) | refine J.seq (J.seq (J.region mixed hI (by kernel_rfl) ?_)))
  refine Plan.splitD (fun h0 => ?_) (fun h0 => ?_)
  · have hv : fTake l p = ([], 0, 1) := by unfold fTake; rw [if_pos (.inl h0)]
    rw [hv]
    repeat (first | refine Plan.assign rfl rfl rfl rfl ?_ | refine Plan.skip rfl rfl ?_ | refine Plan.pick rfl rfl rfl rfl rfl ?_ | refine J.seq (J.region mixed hI (by kernel_rfl) ?_) | refine J.condT rfl ?_)
    exact J.ret (Nrm.ret3 rfl (fun _ h => h) fun B hB => ⟨_, rfl, Ress.cons rfl (by exact Sub.nilOwn (fun _ h => Nat.le_trans hB h.size)) (Ress.cons rfl (by exact Sub.refl _) (Ress.cons rfl (by exact Sub.refl _) Ress.nil))⟩)
  repeat (first | refine Plan.move rfl rfl rfl rfl ?_ | refine Plan.pick rfl rfl rfl rfl rfl ?_ | (refine Plan.ints rfl rfl rfl rfl rfl rfl ?_; (skip)) | refine Plan.lenB rfl rfl rfl rfl (by exact Sub.old (fun _ h => h)) Tryz.underlying56 ?_)
  refine J.condD rfl (fun h1 => ?_) (fun h1 => ?_)
  · have hv : fTake l p = ([], 0, 1) := by unfold fTake; rw [if_pos (.inr (by omega))]
    rw [hv]
    repeat (first | refine Plan.assign rfl rfl rfl rfl ?_ | refine J.seq (J.region mixed hI (by kernel_rfl) ?_))
    exact J.ret (Nrm.ret3 rfl (fun _ h => h) fun B hB => ⟨_, rfl, Ress.cons rfl (by exact Sub.nilOwn (fun _ h => Nat.le_trans hB h.size)) (Ress.cons rfl (by exact Sub.refl _) (Ress.cons rfl (by exact Sub.refl _) Ress.nil))⟩)
  have hnn : ¬ (p < 0 ∨ (l.length : Int) < p) := by omega
  obtain ⟨r, hr⟩ : ∃ r, r = l.drop p.toNat := ⟨_, rfl⟩
  have hrl : r.length = l.length - p.toNat := by rw [hr, List.length_drop]
  have err : ∀ e, fTake0 r = ([], 0, e) → e ≠ 0 → fTake l p = ([], 0, e) := by
    intro e he h0
    unfold fTake; rw [if_neg hnn, ← hr, he, if_neg h0]
  repeat (first | refine Plan.move rfl rfl rfl rfl ?_ | refine J.seq (J.region mixed hI (by kernel_rfl) ?_) | refine J.skip ?_)
  refine Plan.int (y := ((p.toNat : Nat) : Int)) (by omega) ?_
  refine Plan.sliceB (l := l) (a0 := p.toNat) (b0 := l.length) rfl rfl rfl rfl (Sub.old fun _ h => h) eltB (.inr ⟨_, _, rfl, rfl⟩) (.inl ⟨rfl, rfl⟩) (by omega) (Nat.le_refl _) ?_
  rw [List.take_length, ← hr]
  repeat (first | refine Plan.move rfl rfl rfl rfl ?_ | refine Plan.assign rfl rfl rfl rfl ?_ | (refine Plan.ints rfl rfl rfl rfl rfl rfl ?_; (skip)) | refine Plan.lenB rfl rfl rfl rfl (by exact Sub.refl _) Tryz.underlying56 ?_ | refine J.seq (J.seq (J.region mixed hI (by kernel_rfl) ?_)))
  refine J.condD rfl (fun h2 => ?_) (fun h2 => ?_)
  · rw [err 2 (by unfold fTake0; rw [if_pos (by omega)]) (by decide)]
    repeat (first | refine Plan.assign rfl rfl rfl rfl ?_ | refine J.seq (J.region mixed hI (by kernel_rfl) ?_))
    exact J.ret (Nrm.ret3 rfl (fun _ h => h) fun B hB => ⟨_, rfl, Ress.cons rfl (by exact Sub.nilOwn (fun _ h => Nat.le_trans hB h.size)) (Ress.cons rfl (by exact Sub.refl _) (Ress.cons rfl (by exact Sub.refl _) Ress.nil))⟩)
  repeat (first | refine Plan.move rfl rfl rfl rfl ?_ | refine J.seq (J.region mixed hI (by kernel_rfl) ?_) | refine J.skip ?_)
  refine Plan.sliceB (l := r) (a0 := 0) (b0 := 4) rfl rfl rfl rfl (Sub.refl _) eltB (.inl ⟨rfl, rfl⟩) (.inr ⟨_, _, rfl, rfl⟩) (by omega) (by omega) ?_
  rw [List.drop_zero]
  refine Plan.call (B := w0.heap.size) rfl rfl rfl (crc_Open (r.take 4) (by rw [List.length_take]; omega)) Tryz.func76 rfl rfl (hBb w0) (by repeat (first | exact Opnds.nil | refine Opnds.cons rfl (by exact Sub.refl _) ?_)) ?_
  repeat (first | refine Plan.move rfl rfl rfl rfl ?_ | refine Plan.assign rfl rfl rfl rfl ?_ | refine Plan.extract rfl rfl rfl rfl rfl ?_ | refine Plan.un rfl rfl rfl rfl rfl ?_ | refine J.seq (J.seq (J.region mixed hI (by kernel_rfl) ?_)))
  refine J.cond rfl (fun h3 => ?_) (fun h3 => ?_)
  · have h3' : fits (r.take 4) = false := by simpa using h3
    rw [err 5 (by unfold fTake0; rw [if_neg (by omega), if_pos h3']) (by decide)]
    repeat (first | refine Plan.assign rfl rfl rfl rfl ?_ | refine J.seq (J.region mixed hI (by kernel_rfl) ?_))
    exact J.ret (Nrm.ret3 rfl (fun _ h => h) fun B hB => ⟨_, rfl, Ress.cons rfl (by exact Sub.nilOwn (fun _ h => Nat.le_trans hB h.size)) (Ress.cons rfl (by exact Sub.refl _) (Ress.cons rfl (by exact Sub.refl _) Ress.nil))⟩)
  have h3' : fits (r.take 4) = true := by simpa using h3
  clear h3
  obtain ⟨h, hh⟩ : ∃ h, h = opened (r.take 4) := ⟨_, rfl⟩
  have hh2 : h.length = 2 := by rw [hh, (opened_len h3').2, List.length_take]; omega
  have hhl := hlen_le h
  have e0 : ∀ x y, fTake0 r = x → x = y → fTake0 r = y := fun x y h1 h2 => h1.trans h2
  have step : fTake0 r = if 65529 < hlen h then ([], 0, 4) else if r.length < hlen h + 6 then ([], 0, 2) else if fits ((r.take (hlen h + 6)).drop 4) = false then ([], 0, 5) else (opened ((r.take (hlen h + 6)).drop 4), hlen h + 6, 0) := by
    unfold fTake0; rw [if_neg (by omega), if_neg (by rw [h3']; decide), ← hh]
  refine J.weak [(0, .old w0 (bytesF l)), (1, .ex (.int .i64 p)), (7, bytesF r), (8, ownB w0.heap.size h)] (Weak.cons rfl (Sub.refl _) (Weak.cons rfl (Sub.refl _) (Weak.cons rfl (Sub.refl _) (Weak.cons rfl (Sub.of_eq (by rw [hh])) Weak.nil)))) ?_
  have c0 := (h.getD 0 0).toNat_lt
  have c1 := (h.getD 1 0).toNat_lt
  repeat (first | refine Plan.move rfl rfl rfl rfl ?_ | refine J.seq (J.region mixed hI (by kernel_rfl) ?_) | refine J.skip ?_)
  refine Plan.indexB (l := h) (q := 0) rfl rfl rfl rfl Sub.own rfl eltB (by omega) ?_
  refine Plan.load rfl rfl rfl rfl (Sub.refl _) Tryz.underlying5 rfl ?_
  repeat ((refine Plan.convInt rfl rfl rfl rfl (by first | exact Tryz.underlying3 | exact Tryz.underlying5) (by exact Tryz.underlying3) ?_; (refine Plan.int (i64u8 _) ?_)))
  refine Plan.shift rfl rfl rfl rfl rfl rfl ?_
  refine Plan.int (shl8 (h.getD 0 0).toNat (by omega)) ?_
  repeat (refine Plan.move rfl rfl rfl rfl ?_)
  refine Plan.indexB (l := h) (q := 1) rfl rfl rfl rfl Sub.own rfl eltB (by omega) ?_
  refine Plan.load rfl rfl rfl rfl (Sub.refl _) Tryz.underlying5 rfl ?_
  refine Plan.convInt rfl rfl rfl rfl (by exact Tryz.underlying5) (by exact Tryz.underlying3) ?_
  refine Plan.int (i64r (by omega)) ?_
  refine Plan.ints rfl rfl rfl rfl rfl rfl ?_
  refine Plan.int (y := (hlen h : Int)) (or256 (h.getD 0 0).toNat (h.getD 1 0).toNat (by omega) (by omega)) ?_
  repeat (refine Plan.assign rfl rfl rfl rfl ?_)
  refine J.seq (J.block ?_)
  repeat (first | refine Plan.move rfl rfl rfl rfl ?_ | refine Plan.assign rfl rfl rfl rfl ?_ | (refine Plan.ints rfl rfl rfl rfl rfl rfl ?_; (skip)) | refine J.seq (J.region mixed hI (by kernel_rfl) ?_))
  refine J.condD rfl (fun h4 => ?_) (fun h4 => ?_)
  · rw [err 4 (by rw [step, if_pos (by omega)]) (by decide)]
    repeat (first | refine Plan.assign rfl rfl rfl rfl ?_ | refine J.seq (J.region mixed hI (by kernel_rfl) ?_))
    exact J.ret (Nrm.ret3 rfl (fun _ h => h) fun B hB => ⟨_, rfl, Ress.cons rfl (by exact Sub.nilOwn (fun _ h => Nat.le_trans hB h.size)) (Ress.cons rfl (by exact Sub.refl _) (Ress.cons rfl (by exact Sub.refl _) Ress.nil))⟩)
  rw [if_neg (by omega)] at step
  repeat (first | refine Plan.move rfl rfl rfl rfl ?_ | refine Plan.assign rfl rfl rfl rfl ?_ | (refine Plan.ints rfl rfl rfl rfl rfl rfl ?_; (first | refine Plan.int (i64r (by omega)) ?_ | skip)) | refine Plan.lenB rfl rfl rfl rfl (by exact Sub.refl _) Tryz.underlying56 ?_ | refine J.seq (J.region mixed hI (by kernel_rfl) ?_))
  refine J.condD rfl (fun h5 => ?_) (fun h5 => ?_)
  · rw [err 2 (by rw [step, if_pos (by omega)]) (by decide)]
    repeat (first | refine Plan.assign rfl rfl rfl rfl ?_ | refine J.seq (J.region mixed hI (by kernel_rfl) ?_))
    exact J.ret (Nrm.ret3 rfl (fun _ h => h) fun B hB => ⟨_, rfl, Ress.cons rfl (by exact Sub.nilOwn (fun _ h => Nat.le_trans hB h.size)) (Ress.cons rfl (by exact Sub.refl _) (Ress.cons rfl (by exact Sub.refl _) Ress.nil))⟩)
  rw [if_neg (by omega)] at step
  repeat (first | refine Plan.move rfl rfl rfl rfl ?_ | (refine Plan.ints rfl rfl rfl rfl rfl rfl ?_; (refine Plan.int (i64r (by omega)) ?_)) | refine J.seq (J.region mixed hI (by kernel_rfl) ?_) | refine J.skip ?_)
  refine Plan.sliceB (l := r) (a0 := 4) (b0 := hlen h + 6) rfl rfl rfl rfl (Sub.refl _) eltB (.inr ⟨_, _, rfl, rfl⟩) (.inr ⟨_, _, rfl, rfl⟩) (by omega) (by omega) ?_
  refine Plan.call (B := w0.heap.size) rfl rfl rfl (crc_Open ((r.take (hlen h + 6)).drop 4) (by rw [List.length_drop, List.length_take]; omega)) Tryz.func76 rfl rfl (hBb w0) (by repeat (first | exact Opnds.nil | refine Opnds.cons rfl (by exact Sub.refl _) ?_)) ?_
  repeat (first | refine Plan.move rfl rfl rfl rfl ?_ | refine Plan.assign rfl rfl rfl rfl ?_ | refine Plan.extract rfl rfl rfl rfl rfl ?_ | refine Plan.un rfl rfl rfl rfl rfl ?_ | refine J.seq (J.seq (J.region mixed hI (by kernel_rfl) ?_)))
  refine J.cond rfl (fun h6 => ?_) (fun h6 => ?_)
  · have h6' : fits ((r.take (hlen h + 6)).drop 4) = false := by simpa using h6
    rw [err 5 (by rw [step, if_pos h6']) (by decide)]
    repeat (first | refine Plan.assign rfl rfl rfl rfl ?_ | refine J.seq (J.region mixed hI (by kernel_rfl) ?_))
    exact J.ret (Nrm.ret3 rfl (fun _ h => h) fun B hB => ⟨_, rfl, Ress.cons rfl (by exact Sub.nilOwn (fun _ h => Nat.le_trans hB h.size)) (Ress.cons rfl (by exact Sub.refl _) (Ress.cons rfl (by exact Sub.refl _) Ress.nil))⟩)
  have h6' : fits ((r.take (hlen h + 6)).drop 4) = true := by simpa using h6
  clear h6
  rw [if_neg (by rw [h6']; decide)] at step
  have hv : fTake l p = (opened ((r.take (hlen h + 6)).drop 4), p.toNat + (hlen h + 6), 0) := by
    unfold fTake; rw [if_neg hnn, ← hr, step]; rfl
  rw [hv]
  repeat (first | refine Plan.move rfl rfl rfl rfl ?_ | refine Plan.assign rfl rfl rfl rfl ?_ | (refine Plan.ints rfl rfl rfl rfl rfl rfl ?_; (refine Plan.int (i64r (by omega)) ?_)) | refine J.seq (J.region mixed hI (by kernel_rfl) ?_) | refine J.skip ?_)
  refine J.ret (Nrm.ret3 rfl (fun _ h => h) fun B hB => ⟨_, rfl, Ress.cons rfl (Sub.ownLower hB) (Ress.cons rfl (Sub.of_eq ?_) (Ress.cons rfl (Sub.refl _) Ress.nil))⟩)
  congr 2
  dsimp only
  omega
end Go.Proofs.YtmljgobenlpnfaaGreat
end

section
namespace Go.Proofs.YtmljgobenlpnfaaGreat
open Go.Free Go.RowKit Go.Proofs
set_option maxHeartbeats 2000000
end Go.Proofs.YtmljgobenlpnfaaGreat
end

section
namespace Go.Proofs.YtmljgobenlpnfaaGreat
open Go.Free Go.RowKit Go.Proofs
set_option maxHeartbeats 2000000
theorem fits_seal (l : List UInt8) : crcOpen (crcSeal l) = some l := crc_Back_open l
theorem hlen_hdr {n : Nat} (h : n ≤ 65529) : hlen (hdr n) = n := by
  simp only [hlen, hdr, List.getD_eq_getElem?_getD, List.getElem?_cons_zero, List.getElem?_cons_succ, Option.getD_some, UInt8.toNat_ofNat']
  omega
theorem fTake0_put (l r : List UInt8) (h : l.length ≤ 65529) : fTake0 (fPut l ++ r) = (l, l.length + 6, 0) := by
  have hl := fPut_length l
  have h4 : (fPut l ++ r).take 4 = crcSeal (hdr l.length) := by
    unfold fPut; rw [List.append_assoc, List.take_left' (by rw [seal_length]; rfl)]
  have h6 : ((fPut l ++ r).take (l.length + 6)).drop 4 = crcSeal l := by
    rw [List.take_left' hl]; unfold fPut; rw [List.drop_left' (by rw [seal_length]; rfl)]
  unfold fTake0
  rw [h4]
  unfold opened fits
  rw [fits_seal]
  simp only [Option.getD_some, Option.isSome_some]
  rw [hlen_hdr h, h6, fits_seal, List.length_append, hl, if_neg (by omega), if_neg (by decide), if_neg (by omega), if_neg (by omega)]
  simp
end Go.Proofs.YtmljgobenlpnfaaGreat
end

section
namespace Go.Proofs.YtmljgobenlpnfaaGreat
open Go.Free Go.RowKit Go.Proofs
set_option maxHeartbeats 2000000
theorem fTake_bd (l : List UInt8) (p : Int) (h : (fTake l p).2.2 = 0) : p < (fTake l p).2.1 ∧ (fTake l p).2.1 ≤ l.length := by
  unfold fTake at h ⊢
  by_cases g : p < 0 ∨ (l.length : Int) < p
  · rw [if_pos g] at h; simp at h
  · rw [if_neg g] at h ⊢
    by_cases g2 : (fTake0 (l.drop p.toNat)).2.2 = 0
    · rw [if_pos g2]
      have hb : 0 < (fTake0 (l.drop p.toNat)).2.1 ∧ (fTake0 (l.drop p.toNat)).2.1 ≤ (l.drop p.toNat).length := by
        unfold fTake0 at g2 ⊢
        split at g2
        · simp at g2
        rename_i k1; rw [if_neg k1]
        split at g2
        · simp at g2
        rename_i k2; rw [if_neg k2]
        split at g2
        · simp at g2
        rename_i k3; rw [if_neg k3]
        split at g2
        · simp at g2
        rename_i k4; rw [if_neg k4]
        split at g2
        · simp at g2
        rename_i k5; rw [if_neg k5]
        dsimp only
        omega
      rw [List.length_drop] at hb
      dsimp only
      omega
    · rw [if_neg g2] at h; exact absurd h g2
def scanL (l : List UInt8) (at_ : Nat) : List (List UInt8) × Nat :=
  if _h : at_ < l.length ∧ (fTake l at_).2.2 = 0 then
    ((fTake l at_).1 :: (scanL l (fTake l at_).2.1).1, (scanL l (fTake l at_).2.1).2)
  else ([], at_)
termination_by l.length - at_
decreasing_by
  all_goals
    have := fTake_bd l at_ _h.2
    omega
theorem scanL_go {l : List UInt8} {p : Nat} (h : p < l.length) (h2 : (fTake l p).2.2 = 0) : scanL l p = ((fTake l p).1 :: (scanL l (fTake l p).2.1).1, (scanL l (fTake l p).2.1).2) := by
  rw [scanL]; simp [h, h2]
theorem scanL_stop {l : List UInt8} {p : Nat} (h : ¬ (p < l.length ∧ (fTake l p).2.2 = 0)) : scanL l p = ([], p) := by
  rw [scanL]; simp only [h, dite_false]
theorem scanL_le (l : List UInt8) : ∀ (k p : Nat), l.length - p = k → p ≤ l.length → (scanL l p).2 ≤ l.length ∧ (scanL l p).1.length + p ≤ l.length := by
  intro k
  induction k using Nat.strongRecOn with
  | _ k ih =>
    intro p hk hp
    by_cases h : p < l.length ∧ (fTake l p).2.2 = 0
    · have hb := fTake_bd l p h.2
      have := ih (l.length - (fTake l p).2.1) (by omega) (fTake l p).2.1 rfl (by omega)
      rw [scanL_go h.1 h.2]
      simp only [List.length_cons]
      omega
    · rw [scanL_stop h]; simp; omega
theorem eltBB : Elt Tryz.prog 62 56 (.slice none 0 0) 1 24 := Elt.mk' Tryz.underlying62 (by kernel_rfl) rfl (by decide) (by decide)
abbrev nestB (B : Nat) (ls : List (List UInt8)) : Fa := nest B 56 (ls.map (ownB B))
def scE (w0 : World) (l : List UInt8) (s : List (List UInt8) × Nat) : Env := [(0, .old w0 (bytesF l)), (5, nestB w0.heap.size s.1), (6, .ex (.int .i64 s.2))]
def scOk (l : List UInt8) (s : List (List UInt8) × Nat) : Prop := s.2 ≤ l.length ∧ s.1.length ≤ s.2 ∧ scanL l 0 = (s.1 ++ (scanL l s.2).1, (scanL l s.2).2)
theorem frame_Scan (l : List UInt8) (hl : l.length ≤ 1000000) :
    Spc Tryz.prog 21 [bytesF l] fun B => .tup [nestB B (scanL l 0).1, .ex (.int .i64 (scanL l 0).2), .ex (.bool (((scanL l 0).2 : Int) == l.length))] := by
  refine Spc.intro Tryz.func21 rfl (Nat.le_of_ble_eq_true rfl) fun w0 => ?_
  have hI := hIb w0
  repeat (first | refine Plan.assign rfl rfl rfl rfl ?_ | refine J.seq (J.region mixed hI (by kernel_rfl) ?_))
  refine J.seqMid (scE w0 l) (fun s => scOk l s ∧ scanL l s.2 = ([], s.2)) ?_ ?_
  · refine J.block (J.loop (scE w0 l) (scOk l) (fun s => l.length - s.2) ([], 0) ⟨Nat.zero_le _, Nat.zero_le _, by simp⟩ ?_ ?_)
    · exact Weak.cons rfl (Sub.refl _) (Weak.cons rfl (Sub.nestNil (hBb w0)) (Weak.cons rfl (Sub.refl _) Weak.nil))
    rintro ⟨ls, p⟩ ⟨h1, h2, h3⟩
    dsimp only at h1 h2 h3
    repeat (first | refine Plan.move rfl rfl rfl rfl ?_ | (refine Plan.ints rfl rfl rfl rfl rfl rfl ?_; (skip)) | refine Plan.lenB rfl rfl rfl rfl (by exact Sub.old (fun _ h => h)) Tryz.underlying56 ?_ | refine J.seq (J.seq (J.region mixed hI (by kernel_rfl) ?_)))
    refine J.condD rfl (fun hc => ?_) (fun hc => ?_)
    · repeat (refine J.skip ?_)
      refine J.block ?_
      repeat (first | refine Plan.move rfl rfl rfl rfl ?_ | refine J.seq (J.region mixed hI (by kernel_rfl) ?_))
      refine Plan.call (B := w0.heap.size) rfl rfl rfl (frame_Take l p (by omega) (by omega)) Tryz.func52 rfl rfl (hBb w0) (by repeat (first | exact Opnds.nil | refine Opnds.cons rfl (by first | exact Sub.refl _ | exact Sub.old (fun _ h => h)) ?_)) ?_
      repeat (first | refine Plan.move rfl rfl rfl rfl ?_ | refine Plan.assign rfl rfl rfl rfl ?_ | refine Plan.extract rfl rfl rfl rfl rfl ?_ | (refine Plan.ints rfl rfl rfl rfl rfl rfl ?_; (skip)) | refine J.seq (J.seq (J.region mixed hI (by kernel_rfl) ?_)))
      refine J.condN rfl (fun he => ?_) (fun he => ?_)
      · refine J.exit ?_
        have hno : ¬ (p < l.length ∧ (fTake l p).2.2 = 0) := by omega
        exact Nrm.mid (ls, p) ⟨⟨h1, h2, h3⟩, scanL_stop hno⟩ (by repeat (first | exact Weak.nil | refine Weak.cons rfl (Sub.refl _) ?_))
      · have hgo := scanL_go (l := l) (p := p) (by omega) (by omega)
        have hb := fTake_bd l p (by omega)
        refine J.skip ?_
        refine J.nameOwn (t := 7) (key := 100) rfl (Sub.refl _) fun u hu1 hu2 hu3 => ?_
        repeat (first | refine Plan.move rfl rfl rfl rfl ?_ | refine J.seq (J.region mixed hI (by kernel_rfl) ?_))
        refine Plan.lit (B := w0.heap.size) rfl rfl rfl eltBB rfl (hBb w0) rfl hu3 (by decide) ?_
        rw [hu2]
        refine Plan.appendNest (key := 100) rfl rfl rfl rfl (Sub.refl _) rfl Sub.own rfl hu1 eltBB (by intro d hd; cases hd; decide) (hGb w0) (by rw [List.length_map]; dsimp only; omega) (fun g hg => ?_) ?_
        · rcases List.mem_append.1 hg with hg | hg
          · obtain ⟨x, _, rfl⟩ := List.mem_map.1 hg
            exact Apart.own (by decide)
          · rw [List.mem_singleton.1 hg]; exact Apart.own (by decide)
        repeat (first | refine Plan.move rfl rfl rfl rfl ?_ | refine Plan.assign rfl rfl rfl rfl ?_ | refine J.region mixed hI (by kernel_rfl) ?_)
        refine Nrm.next (ls ++ [(fTake l p).1], (fTake l p).2.1) ⟨?_, ?_, ?_⟩ (by dsimp only; omega) ?_
        · dsimp only; omega
        · dsimp only; rw [List.length_append, List.length_singleton]; omega
        · dsimp only; rw [h3, hgo]; simp
        · exact Weak.cons rfl (Sub.refl _) (Weak.cons rfl (Sub.of_eq (by simp only [nestB, List.map_append, List.map_cons, List.map_nil])) (Weak.cons rfl (Sub.refl _) Weak.nil))
    · refine J.exit ?_
      have hno : ¬ (p < l.length ∧ (fTake l p).2.2 = 0) := by omega
      exact Nrm.mid (ls, p) ⟨⟨h1, h2, h3⟩, scanL_stop hno⟩ (by repeat (first | exact Weak.nil | refine Weak.cons rfl (Sub.refl _) ?_))
  rintro ⟨ls, p⟩ ⟨⟨h1, h2, h3⟩, h4⟩
  dsimp only at h1 h2 h3 h4
  rw [h4, List.append_nil] at h3
  rw [h3]
  repeat (first | refine Plan.move rfl rfl rfl rfl ?_ | refine Plan.assign rfl rfl rfl rfl ?_ | (refine Plan.ints rfl rfl rfl rfl rfl rfl ?_; (skip)) | refine Plan.lenB rfl rfl rfl rfl (by exact Sub.old (fun _ h => h)) Tryz.underlying56 ?_ | refine J.seq (J.region mixed hI (by kernel_rfl) ?_))
  refine J.ret (Nrm.ret3 rfl (fun _ h => h) fun B hB => ⟨_, rfl, Ress.cons rfl (Sub.nestLower hB fun _ => Sub.ownLower hB) (Ress.cons rfl (Sub.refl _) (Ress.cons rfl (Sub.refl _) Ress.nil))⟩)
end Go.Proofs.YtmljgobenlpnfaaGreat
end

section
namespace Go.Proofs.YtmljgobenlpnfaaGreat
open Go.Free Go.RowKit Go.Proofs
set_option maxHeartbeats 2000000
end Go.Proofs.YtmljgobenlpnfaaGreat
end

section
namespace Go.Proofs.YtmljgobenlpnfaaGreat
open Go.Free Go.RowKit Go.Proofs
set_option maxHeartbeats 2000000
def frames (ls : List (List UInt8)) : List UInt8 := ls.flatMap fPut
theorem frames_append (a b : List (List UInt8)) : frames (a ++ b) = frames a ++ frames b := by simp [frames]
theorem frames_cons (x : List UInt8) (b : List (List UInt8)) : frames (x :: b) = fPut x ++ frames b := by simp [frames]
theorem fTake_at (pre r : List UInt8) : fTake (pre ++ r) (pre.length : Nat) = if (fTake0 r).2.2 = 0 then ((fTake0 r).1, pre.length + (fTake0 r).2.1, 0) else ([], 0, (fTake0 r).2.2) := by
  unfold fTake
  rw [if_neg (by rw [List.length_append]; omega), Int.toNat_natCast, List.drop_left]
theorem scan_frames (r : List UInt8) (hr : (fTake0 r).2.2 ≠ 0) : ∀ (ls : List (List UInt8)) (pre : List UInt8), (∀ x ∈ ls, x.length ≤ 65529) →
    scanL (pre ++ frames ls ++ r) pre.length = (ls, (pre ++ frames ls).length)
  | [], pre, _ => by
    simp only [frames, List.flatMap_nil, List.append_nil]
    refine scanL_stop fun h => ?_
    have := h.2
    rw [fTake_at, if_neg hr] at this
    exact hr this
  | x :: ls, pre, hx => by
    have h1 := hx x List.mem_cons_self
    have h0 := fTake0_put x (frames ls ++ r) h1
    have e : pre ++ frames (x :: ls) ++ r = pre ++ (fPut x ++ (frames ls ++ r)) := by rw [frames_cons]; simp
    have e2 : pre ++ frames (x :: ls) ++ r = (pre ++ fPut x) ++ frames ls ++ r := by rw [frames_cons]; simp
    have ht : fTake (pre ++ frames (x :: ls) ++ r) (pre.length : Nat) = (x, (pre ++ fPut x).length, 0) := by
      rw [e, fTake_at, h0]; simp [fPut_length]
    have hlt : pre.length < (pre ++ frames (x :: ls) ++ r).length := by rw [e]; simp only [List.length_append, fPut_length]; omega
    rw [scanL_go hlt (by rw [ht]), ht]
    dsimp only
    have ih := scan_frames r hr ls (pre ++ fPut x) fun y hy => hx y (List.mem_cons_of_mem _ hy)
    rw [e2, ih, frames_cons, List.append_assoc]
theorem fTake0_nil : (fTake0 []).2.2 ≠ 0 := by decide
theorem scan_all (ls : List (List UInt8)) (h : ∀ x ∈ ls, x.length ≤ 65529) : scanL (frames ls) 0 = (ls, (frames ls).length) := by
  have := scan_frames [] fTake0_nil ls [] h
  simpa using this
end Go.Proofs.YtmljgobenlpnfaaGreat
end

section
namespace Go.Proofs.YtmljgobenlpnfaaGreat
open Go.Free Go.RowKit Go.Proofs
set_option maxHeartbeats 2000000
end Go.Proofs.YtmljgobenlpnfaaGreat
end

section
namespace Go.Proofs.YtmljgobenlpnfaaGreat
open Go.Free Go.RowKit Go.Proofs
set_option maxHeartbeats 2000000
theorem fTake0_cut (x : List UInt8) (h : x.length ≤ 65529) (j : Nat) (hj : j < (fPut x).length) : (fTake0 ((fPut x).take j)).2.2 ≠ 0 := by
  rw [fPut_length] at hj
  have hl : ((fPut x).take j).length = j := by rw [List.length_take, fPut_length]; omega
  unfold fTake0
  rw [hl]
  by_cases h4 : j < 4
  · rw [if_pos h4]; decide
  · rw [if_neg h4]
    have e4 : ((fPut x).take j).take 4 = crcSeal (hdr x.length) := by
      rw [List.take_take, Nat.min_eq_left (by omega)]
      unfold fPut; rw [List.take_left' (by rw [seal_length]; rfl)]
    rw [e4]
    unfold opened fits
    rw [fits_seal]
    simp only [Option.getD_some, Option.isSome_some]
    rw [hlen_hdr h, if_neg (by decide), if_neg (by omega), if_pos (by omega)]
    decide
theorem cut_at : ∀ (ls : List (List UInt8)) (k : Nat), k < (frames ls).length → ∃ m j, m < ls.length ∧ j < (fPut (ls.getD m [])).length ∧ k = (frames (ls.take m)).length + j ∧
    (frames ls).take k = frames (ls.take m) ++ (fPut (ls.getD m [])).take j
  | [], k, h => by simp [frames] at h
  | x :: ls, k, h => by
    rw [frames_cons, List.length_append] at h
    by_cases hk : k < (fPut x).length
    · refine ⟨0, k, by simp, by simpa using hk, by simp [frames], ?_⟩
      rw [frames_cons, List.take_append_of_le_length (by omega)]
      simp [frames]
    · obtain ⟨m, j, h1, h2, h3, h4⟩ := cut_at ls (k - (fPut x).length) (by omega)
      refine ⟨m + 1, j, by simp; omega, by simpa using h2, ?_, ?_⟩
      · rw [List.take_succ_cons, frames_cons, List.length_append]; omega
      · rw [List.take_succ_cons, frames_cons, frames_cons, List.append_assoc, List.getD_cons_succ, ← h4, List.take_append, List.take_of_length_le (by omega)]
end Go.Proofs.YtmljgobenlpnfaaGreat
end

section
namespace Go.Proofs.YtmljgobenlpnfaaGreat
open Go.Free Go.RowKit Go.Proofs
set_option maxHeartbeats 4000000
def vList (d : Nat → Int) : List Value := [vi (d 0), vi (d 1), vi (d 2), vi (d 3), vi (d 4), vi (d 5), vi (d 6), vi (d 7), vi (d 8), vi (d 9), vi (d 10), vi (d 11), vi (d 12), vi (d 13), vi (d 14), vi (d 15)]
abbrev aggV (d : Nat → Int) : Value := .agg (vList d).toArray
abbrev aggD (r n : Int) : Value := .agg [vi r, vi n].toArray
def EvV.op (e : EvV) : List Value := [vi e.kind, str e.key, str e.field, str e.value, vi e.num, vi e.rr, vi e.rn]
abbrev aggO (e : EvV) : Value := .agg e.op.toArray
theorem vList_get (d : Nat → Int) : ∀ {i : Nat}, i < 16 → (vList d)[i]? = some (vi (d i))
  | 0, _ => rfl | 1, _ => rfl | 2, _ => rfl | 3, _ => rfl | 4, _ => rfl | 5, _ => rfl | 6, _ => rfl | 7, _ => rfl | 8, _ => rfl | 9, _ => rfl | 10, _ => rfl | 11, _ => rfl | 12, _ => rfl | 13, _ => rfl | 14, _ => rfl | 15, _ => rfl
  | _ + 16, h => absurd h (by omega)
theorem enc_d (e : EvV) {i : Nat} (h : i < 16) : e.enc[3 + i]? = some (vi (e.d i)) := by
  have : e.enc = [vi e.r, vi e.n, vi e.time] ++ (vList e.d ++ e.op) := rfl
  rw [this, List.getElem?_append_right (by simp), show 3 + i - [vi e.r, vi e.n, vi e.time].length = i by simp, List.getElem?_append_left (by simp [vList]; omega)]
  exact vList_get e.d h
def fieldP (k : Int) : Prop := 3 ≤ k ∧ k ≤ 8
def valueP (k : Int) : Prop := k = 1 ∨ k = 5 ∨ k = 9
def numP (k : Int) : Prop := k = 2 ∨ k = 7
def refP (k : Int) : Prop := k = 9 ∨ k = 10
def kindP (k : Int) : Prop := 1 ≤ k ∧ k ≤ 11
def addP (k : Int) : Prop := k = 1 ∨ k = 2 ∨ k = 3 ∨ k = 5 ∨ k = 7 ∨ k = 9
def dotP (r n : Int) : Prop := 0 ≤ r ∧ r < 16 ∧ 1 ≤ n ∧ n ≤ 1048576
def hasP (d : Nat → Int) (r n : Int) : Prop := dotP r n ∧ n ≤ d r.toNat
def rightVP (d : Nat → Int) : Prop := ∀ i, i < 16 → 0 ≤ d i ∧ d i ≤ 1048576
instance (k : Int) : Decidable (fieldP k) := by unfold fieldP; infer_instance
instance (k : Int) : Decidable (valueP k) := by unfold valueP; infer_instance
instance (k : Int) : Decidable (numP k) := by unfold numP; infer_instance
instance (k : Int) : Decidable (refP k) := by unfold refP; infer_instance
instance (k : Int) : Decidable (kindP k) := by unfold kindP; infer_instance
instance (k : Int) : Decidable (addP k) := by unfold addP; infer_instance
instance (r n : Int) : Decidable (dotP r n) := by unfold dotP; infer_instance
instance (d : Nat → Int) (r n : Int) : Decidable (hasP d r n) := by unfold hasP; infer_instance
instance (d : Nat → Int) : Decidable (rightVP d) := by unfold rightVP; infer_instance
theorem replica_fn (r : Int) : Spc Tryz.prog 67 [.ex (vi r)] fun _ => .ex (.bool (decide (0 ≤ r ∧ r < 16))) := by
  refine Spc.intro Tryz.func67 rfl (Nat.le_of_ble_eq_true rfl) fun w0 => ?_
  have hI := hIb w0
  have hA := Own.below w0
  repeat' (first | refine Plan.move rfl rfl rfl rfl ?_ | refine Plan.assign rfl rfl rfl rfl ?_ | refine Plan.skip rfl rfl ?_ | refine Plan.pick rfl rfl rfl rfl rfl ?_ | (refine Plan.ints rfl rfl rfl rfl rfl rfl ?_; (skip)) | refine J.seq (J.region mixed hI (by kernel_rfl) ?_) | refine Plan.splitD (fun _ => ?_) (fun _ => ?_))
  all_goals exact J.ret (Nrm.ret1 rfl (fun _ h => h) rfl fun B _ => Sub.of_eq (congrArg (fun b => Fa.ex (.bool b)) (by
    first
    | refine (decide_eq_true ?_).symm
    | refine (decide_eq_false ?_).symm
    | refine decide_eq_decide.2 ?_
    | refine beq_decide ?_
    | refine bne_decide ?_
    all_goals ((try simp only [fieldP, valueP, numP, refP, kindP, addP, dotP, hasP, rightVP] at *); omega))))
theorem dot_fn (r n : Int) : Spc Tryz.prog 39 [.ex (aggD r n)] fun _ => .ex (.bool (decide (dotP r n))) := by
  refine Spc.intro Tryz.func39 rfl (Nat.le_of_ble_eq_true rfl) fun w0 => ?_
  have hI := hIb w0
  have hA := Own.below w0
  refine J.heap0 1000 (newB w0) ?_
  repeat' (first | refine Plan.move rfl rfl rfl rfl ?_ | refine Plan.assign rfl rfl rfl rfl ?_ | refine Plan.skip rfl rfl ?_ | refine Plan.pick rfl rfl rfl rfl rfl ?_ | (refine Plan.ints rfl rfl rfl rfl rfl rfl ?_; (skip)) | refine Plan.fieldC rfl rfl rfl rfl (by first | exact Tryz.underlying58 | exact Tryz.underlying34) rfl (by kernel_rfl) (by first | exact (rfl : _ = 0) | exact (rfl : _ = 1)) ?_ | refine Plan.loadC (key := 1000) (q := 0) rfl rfl rfl rfl rfl rfl (obj_reads1 rfl) (by exact Tryz.underlying3) (by rfl) (by decide) ?_ | refine J.seq (J.region mixed hI (by kernel_rfl) ?_) | refine Plan.call (B := w0.heap.size) rfl rfl rfl (replica_fn r) Tryz.func67 rfl rfl (hBb w0) (by repeat (first | exact Opnds.nil | refine Opnds.cons rfl (by exact Sub.refl _) ?_)) ?_ | refine Plan.boxC (key := 1000) rfl rfl rfl (by intro _ e; cases e; decide) rfl rfl hA fun _ => ?_ | refine Plan.splitD (fun _ => ?_) (fun _ => ?_))
  all_goals exact J.ret (Nrm.ret1 rfl (fun _ h => h) rfl fun B _ => Sub.of_eq (congrArg (fun b => Fa.ex (.bool b)) (by
    first
    | refine (decide_eq_true ?_).symm
    | refine (decide_eq_false ?_).symm
    | refine decide_eq_decide.2 ?_
    | refine beq_decide ?_
    | refine bne_decide ?_
    all_goals ((try simp only [fieldP, valueP, numP, refP, kindP, addP, dotP, hasP, rightVP] at *); omega))))
end Go.Proofs.YtmljgobenlpnfaaGreat
end
