/-
  Laid together: FreeSlices2, FreeOwn, FreeOwn2, FreePick, FreeFrame, FreeFrame2, FreeScrib, FreeBase, AofFns, AofTakes, AofOpen, AofAdd.
-/
import Derived.Test.YtepgphflnelpoaaAofG

section
set_option linter.unusedSimpArgs false
set_option linter.unusedVariables false
set_option maxRecDepth 20000
namespace Go.Free
open Go.RowKit
section
variable {P : Program} {ops : Array Oper} {Q : Exit → Act → World → Prop} {n : Nat} {I : World → Prop} {k i : Nat} {E : Env} {o : Oper} {d : Bool} {A : Nat → Prop} {H : List Chunk} {key : Nat}
/-- x[a:b:c], of which nothing is used. -/
theorem Plan.slice3 {t e : TypeId} {z : Value} {sz bytes : Nat} {x y y2 y3 : Operand} {m cap a0 b0 c0 : Nat} {B : Option Addr} {kd kd2 kd3 : IntKind} (ho : ops[i]? = some o) (hop : o.op = .slice t x (some y) (some y2) (some y3))
    (hg : wantB ops E o = some true) (hx : opF E x = some (.ex (.slice B m cap))) (he : Elt P t e z sz bytes) (hy : opF E y = some (.ex (.int kd (a0 : Int)))) (hy2 : opF E y2 = some (.ex (.int kd2 (b0 : Int)))) (hy3 : opF E y3 = some (.ex (.int kd3 (c0 : Int)))) (h1 : a0 ≤ b0) (h2 : b0 ≤ c0) (h3 : c0 ≤ cap)
    (h : Plan P ops Q n I d k (i + 1) (setE o.dst Fa.any E)) : Plan P ops Q n I d (k + 1) i E :=
  Plan.step ho (Step.run ho hg fun a w hI hs' => by
    have e1 := hs' x (by simp [hop, Op.operands]) _ hx
    have e2 := hs' y (by simp [hop, Op.operands]) _ hy
    have e3 := hs' y2 (by simp [hop, Op.operands]) _ hy2
    have e4 := hs' y3 (by simp [hop, Op.operands]) _ hy3
    simp only [Fa.den] at e1 e2 e3 e4
    obtain ⟨inf, hinf, hz, hs1, hby⟩ := he.hi
    have hB : (Instr.sliceBounds true m cap (some (.int kd (a0 : Int))) (some (.int kd2 (b0 : Int))) (some (.int kd3 (c0 : Int)))).run P w = .ok (a0, b0, c0) w := by
      unfold Instr.sliceBounds
      simp [run_sliceBound_ok (P := P) (w := w) (Int.natCast_nonneg c0) (show (c0 : Int) ≤ cap by omega), run_sliceBound_ok (P := P) (w := w) (Int.natCast_nonneg b0) (show (b0 : Int) ≤ c0 by omega), run_sliceBound_ok (P := P) (w := w) (Int.natCast_nonneg a0) (show (a0 : Int) ≤ b0 by omega)]
    refine ⟨.slice (if c0 = a0 then B else B.map (·.add (a0 * sz))) (b0 - a0) (c0 - a0), w, ?_, Below.refl _ _, any_den _ _⟩
    have hr : (Instr.sliceAt t (.slice B m cap) (some (.int kd (a0 : Int))) (some (.int kd2 (b0 : Int))) (some (.int kd3 (c0 : Int)))).run P w = .ok (.slice (if c0 = a0 then B else B.map (·.add (a0 * sz))) (b0 - a0) (c0 - a0)) w := by
      simp [Instr.sliceAt, run_underlying he.ht, Instr.slice, hB, sizeOf, typeInfo, hinf, hs1]
    simp only [execOp, hop, Option.map_some, e1, e2, e3, e4, Sem.run_bind, hr, Result.andThen_ok, Sem.run_pure]) h
/-- x[a:] -/
theorem Plan.sliceLoB {t e : TypeId} {z : Value} {sz bytes : Nat} {x y : Operand} {m cap a0 β o0 : Nat} {kd : IntKind} (ho : ops[i]? = some o) (hop : o.op = .slice t x (some y) none none)
    (hg : wantB ops E o = some true) (hx : opF E x = some (.ex (.slice (some ⟨β, o0, none⟩) m cap))) (he : Elt P t e z sz bytes) (hy : opF E y = some (.ex (.int kd (a0 : Int)))) (ha : a0 ≤ m)
    (h : Plan P ops Q n I d k (i + 1) (setE o.dst (.ex (.slice (some ⟨β, if cap = a0 then o0 else o0 + a0 * sz, none⟩) (m - a0) (cap - a0))) E)) : Plan P ops Q n I d (k + 1) i E :=
  Plan.step ho (Step.run ho hg fun a w hI hs' => by
    have e1 := hs' x (by simp [hop, Op.operands]) _ hx
    have e2 := hs' y (by simp [hop, Op.operands]) _ hy
    simp only [Fa.den] at e1 e2
    obtain ⟨inf, hinf, hz, hs1, hby⟩ := he.hi
    have hB : (Instr.sliceBounds true m cap (some (.int kd (a0 : Int))) none none).run P w = .ok (a0, m, cap) w := by
      unfold Instr.sliceBounds
      simp [run_sliceBound_ok (P := P) (w := w) (Int.natCast_nonneg a0) (show (a0 : Int) ≤ m by omega)]
    refine ⟨.slice (some ⟨β, if cap = a0 then o0 else o0 + a0 * sz, none⟩) (m - a0) (cap - a0), w, ?_, Below.refl _ _, by simp [Fa.den]⟩
    have hr : (Instr.sliceAt t (.slice (some ⟨β, o0, none⟩) m cap) (some (.int kd (a0 : Int))) none none).run P w = .ok (.slice (some ⟨β, if cap = a0 then o0 else o0 + a0 * sz, none⟩) (m - a0) (cap - a0)) w := by
      by_cases hc : cap = a0
      · subst hc
        simp [Instr.sliceAt, run_underlying he.ht, Instr.slice, hB, sizeOf, typeInfo, hinf, hs1]
      · simp [Instr.sliceAt, run_underlying he.ht, Instr.slice, hB, sizeOf, typeInfo, hinf, hs1, hc, add_at]
    simp only [execOp, hop, Option.map_none, Option.map_some, e1, e2, Sem.run_bind, hr, Result.andThen_ok, Sem.run_pure]) h
/-- x[a:b] -/
theorem Plan.sliceMid {t e : TypeId} {z : Value} {sz bytes : Nat} {x y y2 : Operand} {m cap a0 b0 β o0 : Nat} {kd kd2 : IntKind} (ho : ops[i]? = some o) (hop : o.op = .slice t x (some y) (some y2) none)
    (hg : wantB ops E o = some true) (hx : opF E x = some (.ex (.slice (some ⟨β, o0, none⟩) m cap))) (he : Elt P t e z sz bytes) (hy : opF E y = some (.ex (.int kd (a0 : Int)))) (hy2 : opF E y2 = some (.ex (.int kd2 (b0 : Int)))) (ha : a0 ≤ b0) (hb : b0 ≤ cap) (hc : a0 < cap)
    (h : Plan P ops Q n I d k (i + 1) (setE o.dst (.ex (.slice (some ⟨β, o0 + a0 * sz, none⟩) (b0 - a0) (cap - a0))) E)) : Plan P ops Q n I d (k + 1) i E :=
  Plan.step ho (Step.run ho hg fun a w hI hs' => by
    have e1 := hs' x (by simp [hop, Op.operands]) _ hx
    have e2 := hs' y (by simp [hop, Op.operands]) _ hy
    have e3 := hs' y2 (by simp [hop, Op.operands]) _ hy2
    simp only [Fa.den] at e1 e2 e3
    obtain ⟨inf, hinf, hz, hs1, hby⟩ := he.hi
    have hB : (Instr.sliceBounds true m cap (some (.int kd (a0 : Int))) (some (.int kd2 (b0 : Int))) none).run P w = .ok (a0, b0, cap) w := by
      unfold Instr.sliceBounds
      simp [run_sliceBound_ok (P := P) (w := w) (Int.natCast_nonneg b0) (show (b0 : Int) ≤ cap by omega), run_sliceBound_ok (P := P) (w := w) (Int.natCast_nonneg a0) (show (a0 : Int) ≤ b0 by omega)]
    refine ⟨.slice (some ⟨β, o0 + a0 * sz, none⟩) (b0 - a0) (cap - a0), w, ?_, Below.refl _ _, by simp [Fa.den]⟩
    have hr : (Instr.sliceAt t (.slice (some ⟨β, o0, none⟩) m cap) (some (.int kd (a0 : Int))) (some (.int kd2 (b0 : Int))) none).run P w = .ok (.slice (some ⟨β, o0 + a0 * sz, none⟩) (b0 - a0) (cap - a0)) w := by
      have hne : ¬ cap = a0 := by omega
      simp [Instr.sliceAt, run_underlying he.ht, Instr.slice, hB, sizeOf, typeInfo, hinf, hs1, hne, add_at]
    simp only [execOp, hop, Option.map_none, Option.map_some, e1, e2, e3, Sem.run_bind, hr, Result.andThen_ok, Sem.run_pure]) h
/-- append(x, y...) within x's block, y out of a chunk (the same one, too). -/
theorem Plan.appendBlk {x y : Operand} {t e : TypeId} {z : Value} {sz bytes g m cap sl sc g2 s0 q q2 : Nat} {c2 : Chunk} {cs news : List Value} (ho : ops[i]? = some o) (hop : o.op = .call { callee := .builtin .append, args := #[x, y], argTypes := #[t, t] })
    (hg : wantB ops E o = some true) (hd : ∀ d, o.dst = some d → d < n) (hx : opF E x = some (.ex (.slice (some ⟨g, 0, none⟩) m cap))) (hy : opF E y = some (.ex (.slice (some ⟨g2, s0, none⟩) sl sc))) (he : Elt P t e z sz bytes)
    (hk : look E key = some (heap A H)) (hA : Own I A) (hqH : H[q]? = some (blk g e cs)) (hqH2 : H[q2]? = some c2) (hr2 : c2.reads g2 s0 news) (hnl : news.length = sl * sz) (h1 : ∀ u ∈ news, u.oneCell' = true) (hroom : m + sl ≤ cap) (hr : m * sz + news.length ≤ cs.length)
    (h : Plan P ops Q n I d k (i + 1) (setE o.dst (.ex (.slice (some ⟨g, 0, none⟩) (m + sl) cap)) ((key, heap A (H.set q (blk g e (cs.take (m * sz) ++ news ++ cs.drop (m * sz + news.length))))) :: sieve E)))
    (hq : d = false ∨ barB ops i = true := by first | exact .inl rfl | exact .inr (by kernel_rfl)) : Plan P ops Q n I d (k + 1) i E :=
  Plan.turnRun ho hg hd hk hA (fun a w φ _ _ hs' hL hLA hfr => by
    have e1 := hs' x (by simp [hop, Op.operands, Call.operands]) _ hx
    have e2 := hs' y (by simp [hop, Op.operands, Call.operands]) _ hy
    simp only [Fa.den] at e1 e2
    obtain ⟨inf, hi, hz, hsz, hby⟩ := he.hi
    have hc := hL.holds q _ hqH
    have hn2 := hr2 w _ (hL.holds q2 _ hqH2)
    have hrun := run_append_room (P := P) (w := w) t o.type e inf he.ht hi g m cap cs.toArray hc.1 ⟨g2, s0, none⟩ sl sc news (by rw [hsz]; exact hnl) (fun j u hj => by rw [add_at]; exact hn2 j u hj) h1 hroom (by rw [hsz]; simpa using hr)
    rw [hsz] at hrun
    simp only [List.toList_toArray] at hrun
    obtain ⟨w', hw'⟩ : ∃ w', w' = w.setRow g (cs.take (m * sz) ++ news ++ cs.drop (m * sz + news.length)).toArray := ⟨_, rfl⟩
    rw [← hw'] at hrun
    have hK : Kept (φ q) w w' := by
      subst hw'
      exact ⟨rfl, rfl, rfl, by simp, fun kk _ hkk => setRow_other w g kk _ (fun e => hkk (by rw [e]; exact (hc.2 g).2 rfl))⟩
    have hc2 : (blk g e (cs.take (m * sz) ++ news ++ cs.drop (m * sz + news.length))).holds w' (φ q) := ⟨by subst hw'; exact setRow_heap w g cs.toArray _ e _ hc.1, hc.2⟩
    have hqlt : q < H.length := (List.getElem?_eq_some_iff.1 hqH).1
    refine ⟨.slice (some ⟨g, 0, none⟩) (m + sl) cap, w', .ex (.slice (some ⟨g, 0, none⟩) (m + sl) cap), _, _, .inl ?_, hK.mono (fun b _ hb => hLA q b hb), hL.upd hqlt hK hc2 (fun b hb => .inl hb), wide (H := H) hLA hfr (fun b hb => .inl hb), by simp [Fa.den], h⟩
    simp only [execOp, hop, resolve, invoke, builtin, List.map_toArray, List.map_cons, List.map_nil, e1, e2, Sem.run_bind, Sem.run_pure, Result.andThen_ok, hrun]) hq
end
end Go.Free
end

section
set_option linter.unusedSimpArgs false
set_option linter.unusedVariables false
set_option maxRecDepth 20000
namespace Go.Free
open Go.RowKit
/-- A function that turns a chunk: the chunk's blocks lie below the world's end. -/
theorem SpcC.introLow {P : Program} {f : FuncId} {fn : Func} {body : Code} {As : List Fa} {c : Chunk} {X : Type} {ok : X → Prop} {R : X → Fa} {c' : X → Chunk} (hf : P.funcs[f]? = some fn) (hb : fn.body = some body) (hsz : As.length ≤ fn.ntmps)
    (h : ∀ w0 F, J P fn.ntmps (fun w => Kept F w0 w) body (FnPostC P fn ok R c' w0 F) ((1000, heap (fun b => (F b ∨ w0.heap.size ≤ b) ∧ b < w0.heap.size) [c]) :: envNow As 0)) : SpcC P f As c ok R c' := by
  intro w args F hd hc
  have hlen : args.length = As.length := dens_len w As args hd
  refine calls_of_wp hf hb ?_
  refine wp_mono (h w F _ w (Kept.refl _ _) ⟨by simp [hlen]; omega, rfl⟩ ?_) ?_
  · intro t f' hf'
    simp only [look] at hf'
    by_cases ht : 1000 = t
    · rw [if_pos ht] at hf'
      cases hf'
      exact ⟨_, Lies.one hc, fun q b hb => ⟨.inl hb.2, c.lt w F b hc hb.2⟩⟩
    · rw [if_neg ht] at hf'
      exact envNow_sat (vs := args) hd (fun j v hj => frame_args j v hj) t f' hf'
  · rintro e a w' hq
    cases e <;> simp only [FnPostC] at hq <;> first | exact hq.elim | skip
    all_goals
      obtain ⟨h1, v, x, h2, h3⟩ := hq
      exact ⟨h1, v, h2, v, x, rfl, h3⟩
section
variable {P : Program} {ops : Array Oper} {Q : Exit → Act → World → Prop} {n : Nat} {I : World → Prop} {k i : Nat} {E : Env} {o : Oper} {d : Bool} {A : Nat → Prop} {H : List Chunk} {key : Nat}
/-- The bound on the blocks is dropped. -/
theorem J.unlow {c : Code} {B : Nat} (hk : look E key = some (heap (fun b => A b ∧ b < B) H)) (h : J P n I c Q ((key, heap A H) :: E)) : J P n I c Q E := fun a w h1 h2 h3 => by
  obtain ⟨φ, hL, hLA⟩ := h3 key _ hk
  exact h a w h1 h2 (heap_put h3 hL fun q b hb => (hLA q b hb).1)
/-- An operation that turns chunks, of which more is known. -/
theorem Plan.turnW {A0 : Nat → Prop} (ho : ops[i]? = some o) (hg : wantB ops E o = some true) (hd : ∀ d, o.dst = some d → d < n) (hk : look E key = some (heap A0 H)) (hA : Own I A)
    (h : ∀ a w φ, I w → Sat E a w → (∀ x, x ∈ o.op.operands → ∀ f, opF E x = some f → f.den w (a.eval x)) → Lies H φ w → (∀ q b, φ q b → A0 b) → (∀ b, w.heap.size ≤ b → A b) → Sh n a →
      wpOp P ops Q i (fun a' w' => ∃ v F H' φ', a' = a.put o.dst v ∧ Kept A w w' ∧ Lies H' φ' w' ∧ (∀ q b, φ' q b → A b) ∧ F.den w' v ∧ Plan P ops Q n I d k (i + 1) (setE o.dst F ((key, heap A H') :: sieve E))) a w)
    (hq : d = false ∨ barB ops i = true) : Plan P ops Q n I d (k + 1) i E := by
  refine .inr ⟨hq, ?_⟩
  intro a w hI hsh hs
  obtain ⟨φ, hL, hLA⟩ := hs key _ hk
  refine wpOp_mono ?_ (h a w φ hI hs (fun x hx f hf => opF_den ho hx (fun t _ f hf => hs t f hf) hf) hL hLA (hA.fresh w hI) hsh)
  rintro a' w' ⟨v, F, H', φ', rfl, hK, hL', hLA', hF, hp⟩
  refine ⟨_, hp, hA.turn w w' hI hK, hsh.put _ _, ?_⟩
  have hs' : Sat ((key, heap A H') :: sieve E) a w' := by
    intro t f hf
    simp only [look] at hf
    by_cases ht : key = t
    · rw [if_pos ht] at hf; cases hf; exact ⟨φ', hL', hLA'⟩
    · rw [if_neg ht] at hf; exact sieve_sat hs w' t f hf
  intro t f hf
  cases hdst : o.dst with
  | none => rw [hdst] at hf; exact hs' t f hf
  | some dd =>
    rw [hdst] at hf
    simp only [setE, look] at hf
    by_cases hdt : dd = t
    · subst hdt
      simp only [if_true, Option.some.injEq] at hf
      subst hf
      rw [slot_put_same hsh (hd dd hdst)]
      exact hF
    · rw [if_neg hdt] at hf
      rw [slot_put_ne a hdt]
      have : look ((key, heap A H') :: sieve E) t = some f := by simpa only [look] using hf
      exact hs' t f this
/-- A call that turns chunk q, and takes a literal of the caller's own as a chunk. -/
theorem Plan.callOwn {f : FuncId} {xs : List Operand} {ts : Array TypeId} {fs : Nat → List Fa} {c1 : Chunk} {X : Type} {ok : X → Prop} {R : X → Fa} {c' : X → Chunk} {fn : Func} {q t B e sz m : Nat} {cs : List Value} {ft : Fa} (ho : ops[i]? = some o)
    (hop : o.op = .call { callee := .value (.func f), args := xs.toArray, argTypes := ts }) (hg : wantB ops E o = some true) (hc : ∀ g, SpcC P f (fs g) (Free.sepC c1 (rowC e sz (some ⟨g, 0, none⟩) m m cs)) ok R c')
    (hf : P.funcs[f]? = some fn) (hbody : fn.body.isNone = false) (hname : (fn.name == "runtime.NumGoroutine") = false) (hd : ∀ d, o.dst = some d → d < n) (ht : look E t = some ft) (hts : Sub I ft (Free.tight B e sz m cs))
    (hx : ∀ g, Opnds I ((t, .ex (.slice (some ⟨g, 0, none⟩) m m)) :: E) xs (fs g)) (hk : look E key = some (heap (fun b => A b ∧ b < B) H)) (hA : Own I A) (hAB : ∀ b, B ≤ b → A b) (hqH : H[q]? = some c1)
    (h : ∀ x, ok x → Plan P ops Q n I d k (i + 1) (setE o.dst (R x) ((key, heap A (H.set q (c' x))) :: sieve E))) (hq : d = false ∨ barB ops i = true := by first | exact .inl rfl | exact .inr (by kernel_rfl)) : Plan P ops Q n I d (k + 1) i E :=
  Plan.turnW ho hg hd hk hA (fun a w φ hI hs hs' hL hLA hfr hsh => by
    unfold wpOp
    simp only [ho, wantB_spec ho hsh (fun t _ f hf => hs t f hf) hg, if_true]
    refine .inl ?_
    unfold Oper.wp
    have hrun : (execOp a.eval o).run P w = .ok (.enter f (xs.map a.eval).toArray) w := by
      have hn : ¬ fn.name = "runtime.NumGoroutine" := by simpa using hname
      have hb : ¬ fn.body = none := by intro e; rw [e] at hbody; cases hbody
      simp [execOp, hop, resolve, invoke, callFunc, Deferred.ofValue, Act.eval, hf, hb, hn]
    rw [hrun]
    simp only [Oper.upon]
    have htight := hts w _ hI (hs t ft ht)
    simp only [Free.tight, Fa.den] at htight
    obtain ⟨⟨hBw, n0, hown⟩, g, hv⟩ := htight
    rw [hv] at hown
    have hn0 : n0 = m := by
      rcases hown.2 with ⟨h0, _⟩ | ⟨g', cp, cur, h0, _⟩
      · cases h0
      · cases h0; rfl
    subst hn0
    have hgB : B ≤ g := (hown.lt g rfl).1
    have hgw : g < w.heap.size := (hown.lt g rfl).2
    have hrow : (rowC e sz (some ⟨g, 0, none⟩) n0 n0 cs).holds w (fun b => b = g) := by
      refine ⟨⟨hown.1, ?_⟩, fun b => ⟨fun h => (by subst h; rfl), fun h => (by cases h; rfl)⟩⟩
      rcases hown.2 with h0 | ⟨g', cp, cur, h0, _, r⟩
      · exact .inl h0
      · exact .inr ⟨g', cp, cur, h0, Nat.zero_le _, r⟩
    have hden := Opnds.dens (a := a) (w := w) hI (hx g) (fun x hxm f hf => by
      have hxo : x ∈ o.op.operands := by simp [hop, Op.operands, Call.operands, hxm]
      cases x with
      | tmp s =>
        simp only [opF, look] at hf
        by_cases hts : t = s
        · rw [if_pos hts] at hf
          cases hf
          subst hts
          simp only [Fa.den, Act.eval]
          exact hv
        · rw [if_neg hts] at hf
          exact hs' _ hxo f hf
      | const v => exact hs' _ hxo f hf
      | global v => exact hs' _ hxo f hf
      | func v => exact hs' _ hxo f hf)
    have hdis : ∀ p b, φ p b → b ≠ g := fun p b hb e => by have := (hLA p b hb).2; omega
    refine (hc g w _ (fun b => φ q b ∨ b = g) hden ⟨φ q, fun b => b = g, fun b => Iff.rfl, fun b h1 h2 => hdis q b h1 h2, hL.holds q _ hqH, hrow⟩).mono ?_
    rintro e' w' ⟨v, x, rfl, hok, hK, hR, F', hF', hFb⟩
    have hqlt : q < H.length := (List.getElem?_eq_some_iff.1 hqH).1
    refine ⟨v, R x, H.set q (c' x), fun p b => if p = q then F' b else φ p b, rfl, hK.mono (fun b _ hb => ?_), ⟨fun p (c : Chunk) hp => ?_, fun p p' b hp hp' => ?_, fun p b hp => ?_⟩, fun p b hb => ?_, hR, h x hok⟩
    · rcases hb with hb | rfl
      · exact (hLA q b hb).1
      · exact hAB _ hgB
    · by_cases he : p = q
      · subst he
        rw [List.getElem?_set_self hqlt] at hp
        cases hp
        simpa using hF'
      · rw [List.getElem?_set_ne (Ne.symm he)] at hp
        simp only [if_neg he]
        exact c.keep (hL.holds p c hp) hK fun b h1 h2 => h2.elim (fun h2 => he (hL.apart p q b h1 h2)) (hdis p b h1)
    · have key : ∀ p b, p ≠ q → F' b → ¬ φ p b := fun p b hne h1 h2 => by
        rcases hFb b h1 with (h3 | h3) | h3
        · exact hne (hL.apart p q b h2 h3)
        · exact hdis p b h2 h3
        · have := hL.lt h2; omega
      by_cases he : p = q
      · by_cases he' : p' = q
        · rw [he, he']
        · simp only [if_pos he] at hp
          simp only [if_neg he'] at hp'
          exact absurd hp' (key p' b he' hp)
      · by_cases he' : p' = q
        · simp only [if_neg he] at hp
          simp only [if_pos he'] at hp'
          exact absurd hp (key p b he hp')
        · simp only [if_neg he] at hp
          simp only [if_neg he'] at hp'
          exact hL.apart p p' b hp hp'
    · rw [List.length_set]
      by_cases he : p = q
      · omega
      · simp only [if_neg he] at hp
        exact hL.bound p b hp
    · by_cases he : p = q
      · simp only [if_pos he] at hb
        rcases hFb b hb with (h3 | h3) | h3
        · exact (hLA q b h3).1
        · subst h3; exact hAB _ hgB
        · exact hfr b h3
      · simp only [if_neg he] at hb
        exact (hLA p b hb).1) hq
variable {us : List (Nat × Value)} {Es : Env}
theorem Gives.nil : Gives P ops Q n I us Es [] := trivial
theorem Gives.cons {u dd : Nat} {v : Value} {r : List (Nat × Value)} (Eu : Env) (hb : barB ops u = false) (hd : dst ops u = some dd) (hE : factsU ops (aheadU ops us u) ++ Es = Eu) (h : Plan P ops (Qd Q (fun a _ => a.slot dd = v)) n I true 1 u Eu) (hr : Gives P ops Q n I us Es r) : Gives P ops Q n I us Es ((u, v) :: r) :=
  ⟨⟨hb, fun d' hd' => by rw [hd] at hd'; cases hd'; rw [hE]; exact h⟩, hr⟩
theorem Plan.gives {dd : Nat} {v : Value} {d : Bool} (h : look E dd = some (.ex v)) : Plan P ops (Qd Q (fun a _ => a.slot dd = v)) n I d 0 i E := fun a w h1 h2 h3 => by
  have := h3 dd _ h
  simpa only [Fa.den, Qd] using this
/-- A drawn region, some of whose operations' values are given; what is left told outright. -/
theorem J.loose2 {id m : Nat} {vops : Array Oper} {E0 : Env} (us : List (Nat × Value)) (Es : Env) (hm : P.follows .mixedOrders = true) (hI : ∀ w w', I w → Below w.heap.size w w' → I w') (hv : subst us ops = vops) (hs : vops.size = m) (hE0 : factsU ops us = E0) (ht : tidy ops n = true) (ht2 : tidy vops n = true) (hB : looseB us ops n = true) (h1 : onceB us = true) (hst : stillB ops Es = true)
    (hL : ¬ LetsOut Q) (hQ : ∀ c a b w, Q (.panic c) a w → Q (.panic c) b w) (hE : Weak I E Es) (hG : Gives P ops Q n I us Es us)
    (h : Plan P vops Q n I true m 0 (E0 ++ E)) : J P n I (.region id ops true) Q E := by
  subst hv hs hE0
  exact J.loose us Es hm hI ht ht2 hB h1 hst hL hQ hE hG h
end
end Go.Free
end

section
set_option linter.unusedSimpArgs false
set_option linter.unusedVariables false
set_option maxRecDepth 20000
namespace Go.Free
open Go.RowKit
section
variable {P : Program} {ops : Array Oper} {Q : Exit → Act → World → Prop} {n : Nat} {I : World → Prop} {k i : Nat} {E : Env} {o : Oper} {d : Bool} {A : Nat → Prop} {H : List Chunk} {key : Nat}
/-- A call that reads chunks and returns a row of its own: the row is a chunk more. -/
theorem Plan.callRO {f : FuncId} {xs : List Operand} {ts : Array TypeId} {fs : List Fa} {fn : Func} {c : Chunk} {e sz : Nat} {cs : List Value} {R : Nat → Fa} (ho : ops[i]? = some o)
    (hop : o.op = .call { callee := .value (.func f), args := xs.toArray, argTypes := ts }) (hg : wantB ops E o = some true) (hc : SpcR P f fs c R) (hR : ∀ B, R B = Free.own B e sz cs)
    (hf : P.funcs[f]? = some fn) (hbody : fn.body.isNone = false) (hname : (fn.name == "runtime.NumGoroutine") = false) (hd : ∀ d, o.dst = some d → d < n)
    (hx : Opnds I E xs fs) (hk : look E key = some (heap A H)) (hA : Own I A) (hH : Ent (allC H) c)
    (h : ∀ B m cap, m * sz = cs.length → Plan P ops Q n I d k (i + 1) (setE o.dst (.ex (.slice B m cap)) ((key, heap A (H ++ [rowC e sz B m cap cs])) :: sieve E))) (hq : d = false ∨ barB ops i = true := by first | exact .inl rfl | exact .inr (by kernel_rfl)) : Plan P ops Q n I d (k + 1) i E :=
  Plan.turn ho hg hd hk hA (fun a w φ hI hs hs' hL hLA hfr hsh => by
    unfold wpOp
    simp only [ho, wantB_spec ho hsh (fun t _ f hf => hs t f hf) hg, if_true]
    refine .inl ?_
    unfold Oper.wp
    have hrun : (execOp a.eval o).run P w = .ok (.enter f (xs.map a.eval).toArray) w := by
      have hn : ¬ fn.name = "runtime.NumGoroutine" := by simpa using hname
      have hb : ¬ fn.body = none := by intro e; rw [e] at hbody; cases hbody
      simp [execOp, hop, resolve, invoke, callFunc, Deferred.ofValue, Act.eval, hf, hb, hn]
    rw [hrun]
    simp only [Oper.upon]
    have hden := Opnds.dens (a := a) hI hx (fun x hxm f hf => hs' x (by simp [hop, Op.operands, Call.operands, hxm]) f hf)
    obtain ⟨G, hG, _⟩ := hH w _ hL.all
    refine (hc w _ G hden hG).mono ?_
    rintro ev w' ⟨v, rfl, hB, hRR⟩
    have h0 := hRR w.heap.size (Nat.le_refl _)
    rw [hR] at h0
    obtain ⟨_, m, hm⟩ := h0
    have hsl : ∃ B cap, v = .slice B m cap := by
      rcases hm.2 with ⟨h1, hm0⟩ | ⟨g, cp, cur, h1, _⟩
      · exact ⟨_, _, by rw [h1, hm0]⟩
      · exact ⟨_, _, h1⟩
    obtain ⟨B, cap, rfl⟩ := hsl
    have hm0 : w'.ownsRow 0 e sz (.slice B m cap) m cs := by
      refine ⟨hm.1, ?_⟩
      rcases hm.2 with h1 | ⟨g, cp, cur, hv, hb, r⟩
      · exact .inl h1
      · exact .inr ⟨g, cp, cur, hv, Nat.zero_le _, r⟩
    have hF : ∀ b, (Value.slice B m cap).ownBlock = some b → w.heap.size ≤ b := fun b hb => (hm.lt b hb).1
    refine ⟨.slice B m cap, .ex (.slice B m cap), H ++ [rowC e sz B m cap cs], _, rfl, .ofBelow hB, hL.add hB (c' := rowC e sz B m cap cs) ⟨hm0, fun _ => Iff.rfl⟩ hF, fun q b hb => ?_, by simp [Fa.den], h B m cap hm.1.symm⟩
    by_cases he : q = H.length
    · simp only [if_pos he] at hb; exact hfr b (hF b hb)
    · simp only [if_neg he] at hb; exact hLA q b hb) hq
/-- A call of a function value with captures, that reads chunks. -/
theorem Plan.callFR {f : FuncId} {x : Operand} {xs : List Operand} {ts : Array TypeId} {caps : List Value} {fs : List Fa} {c : Chunk} {R : Nat → Fa} {fn : Func} {B : Nat} (ho : ops[i]? = some o)
    (hop : o.op = .call { callee := .value x, args := xs.toArray, argTypes := ts }) (hg : wantB ops E o = some true) (hxf : opF E x = some (.ex (.func (.func f) #[] caps.toArray))) (hc : SpcR P f (fs ++ caps.map .ex) c R)
    (hf : P.funcs[f]? = some fn) (hbody : fn.body.isNone = false) (hname : (fn.name == "runtime.NumGoroutine") = false) (hB : ∀ w, I w → B ≤ w.heap.size)
    (hx : Opnds I E xs fs) (hk : look E key = some (heap A H)) (hH : Ent (allC H) c) (hkn : n ≤ key)
    (h : Plan P ops Q n I d k (i + 1) (setE o.dst (R B) E)) : Plan P ops Q n I d (k + 1) i E :=
  Plan.step (F := R B) ho (fun a w hI hsh hs => by
    unfold wpOp
    simp only [ho, wantB_spec ho hsh (fun t ht => hs t (.inl ht)) hg, if_true]
    refine .inl ?_
    unfold Oper.wp
    have e1 := opF_den (a := a) (w := w) ho (by simp [hop, Op.operands, Call.operands]) (fun t ht => hs t (.inl ht)) hxf
    simp only [Fa.den] at e1
    have hrun : (execOp a.eval o).run P w = .ok (.enter f ((xs.map a.eval).toArray ++ caps.toArray)) w := by
      have hn : ¬ fn.name = "runtime.NumGoroutine" := by simpa using hname
      have hb : ¬ fn.body = none := by intro e; rw [e] at hbody; cases hbody
      simp [execOp, hop, resolve, invoke, callFunc, Deferred.ofValue, e1, hf, hb, hn]
    rw [hrun]
    simp only [Oper.upon]
    obtain ⟨φ, hL, _⟩ := hs key (.inr hkn) _ hk
    obtain ⟨G, hG, _⟩ := hH w _ hL.all
    have hden := Opnds.dens (a := a) hI hx (fun x hxm f hf => opF_den ho (by simp [hop, Op.operands, Call.operands, hxm]) (fun t ht => hs t (.inl ht)) hf)
    have happ : ∀ {fs : List Fa} {vs : List Value}, Fa.dens fs w vs → Fa.dens (fs ++ caps.map .ex) w (vs ++ caps) := by
      intro fs
      induction fs with
      | nil =>
        intro vs h
        simp only [Fa.dens] at h
        subst h
        simp only [List.nil_append]
        clear hrun e1 hxf hc
        induction caps with
        | nil => simp [Fa.dens]
        | cons u r ih => exact ⟨_, _, rfl, by simp [Fa.den], ih⟩
      | cons f fs ih =>
        intro vs h
        simp only [Fa.dens] at h
        obtain ⟨v, r, rfl, h1, h2⟩ := h
        exact ⟨v, _, rfl, h1, ih h2⟩
    have hcc := hc w _ G (happ hden) hG
    rw [show (xs.map a.eval ++ caps).toArray = (xs.map a.eval).toArray ++ caps.toArray by simp] at hcc
    refine hcc.mono ?_
    rintro e w' ⟨v, rfl, hb, hR⟩
    exact ⟨v, by rw [dst_of ho], hb, hR B (hB w hI)⟩) h
/-- A call that reads chunks. -/
theorem Plan.callRG {f : FuncId} {xs : List Operand} {ts : Array TypeId} {fs : List Fa} {c : Chunk} {R : Nat → Fa} {fn : Func} {B : Nat} (ho : ops[i]? = some o)
    (hop : o.op = .call { callee := .value (.func f), args := xs.toArray, argTypes := ts }) (hg : wantB ops E o = some true) (hc : SpcR P f fs c R)
    (hf : P.funcs[f]? = some fn) (hbody : fn.body.isNone = false) (hname : (fn.name == "runtime.NumGoroutine") = false) (hB : ∀ w, I w → B ≤ w.heap.size)
    (hx : Opnds I E xs fs) (hk : look E key = some (heap A H)) (hH : Ent (allC H) c) (hkn : n ≤ key)
    (h : Plan P ops Q n I d k (i + 1) (setE o.dst (R B) E)) : Plan P ops Q n I d (k + 1) i E :=
  Plan.step (F := R B) ho (fun a w hI hsh hs => by
    unfold wpOp
    simp only [ho, wantB_spec ho hsh (fun t ht => hs t (.inl ht)) hg, if_true]
    refine .inl ?_
    unfold Oper.wp
    have hrun : (execOp a.eval o).run P w = .ok (.enter f (xs.map a.eval).toArray) w := by
      have hn : ¬ fn.name = "runtime.NumGoroutine" := by simpa using hname
      have hb : ¬ fn.body = none := by intro e; rw [e] at hbody; cases hbody
      simp [execOp, hop, resolve, invoke, callFunc, Deferred.ofValue, Act.eval, hf, hb, hn]
    rw [hrun]
    simp only [Oper.upon]
    obtain ⟨φ, hL, _⟩ := hs key (.inr hkn) _ hk
    obtain ⟨G, hG, _⟩ := hH w _ hL.all
    have hden := Opnds.dens (a := a) hI hx (fun x hxm f hf => opF_den ho (by simp [hop, Op.operands, Call.operands, hxm]) (fun t ht => hs t (.inl ht)) hf)
    refine (hc w _ G hden hG).mono ?_
    rintro e w' ⟨v, rfl, hb, hR⟩
    exact ⟨v, by rw [dst_of ho], hb, hR B (hB w hI)⟩) h
theorem run_equalIn_func {w : World} {t : TypeId} {v : Value} {b : Bool} {ps rs : Array TypeId} {vr : Bool} (dd : Nat) (hu : P.underlying t = some (.func ps rs vr)) (hv : (v = .nilFunc ∧ b = true) ∨ (∃ f s c, v = .func f s c) ∧ b = false) :
    (Op.equalIn (dd + 1) t v .nilFunc).run P w = .ok b w := by
  rcases hv with ⟨rfl, rfl⟩ | ⟨⟨f, s, c, rfl⟩, rfl⟩ <;> simp [Op.equalIn, run_underlying hu]
theorem run_equal_func {w : World} {t : TypeId} {v : Value} {b : Bool} {ps rs : Array TypeId} {vr : Bool} (hu : P.underlying t = some (.func ps rs vr)) (hv : (v = .nilFunc ∧ b = true) ∨ (∃ f s c, v = .func f s c) ∧ b = false) :
    (Op.equal t v .nilFunc).run P w = .ok b w := run_equalIn_func 9999 hu hv
/-- f == nil of a function value. -/
theorem Plan.eqlFunc {t yt : TypeId} {x : Operand} {v : Value} {b : Bool} {ps rs : Array TypeId} {vr : Bool} (ho : ops[i]? = some o) (hop : o.op = .binOp .eql t x (.const .nilFunc) yt) (hg : wantB ops E o = some true)
    (hx : opF E x = some (.ex v)) (hu : P.underlying t = some (.func ps rs vr)) (hv : (v = .nilFunc ∧ b = true) ∨ (∃ f s c, v = .func f s c) ∧ b = false)
    (h : Plan P ops Q n I d k (i + 1) (setE o.dst (.ex (.bool b)) E)) : Plan P ops Q n I d (k + 1) i E :=
  Plan.step ho (Step.run ho hg fun a w hI hs' => by
    have h1 := hs' x (by simp [hop, Op.operands]) _ hx
    simp only [Fa.den] at h1
    refine ⟨.bool b, w, ?_, Below.refl _ _, by simp [Fa.den]⟩
    have hev : a.eval (.const .nilFunc) = .nilFunc := rfl
    have hgd : (eqGuard .eql t x (.const .nilFunc) v .nilFunc).run P w = .ok () w := by simp [eqGuard]
    have hrun : (binOp .eql t v .nilFunc).run P w = .ok (.bool b) w := by
      simp only [binOp]
      simp [run_equal_func hu hv]
    simp only [execOp, hop, h1, hev, Sem.run_bind, hgd, Result.andThen_ok, hrun, Sem.run_pure]) h
/-- A function value with captures. -/
theorem Plan.makeFn {f : FuncId} {cs : List Operand} {caps : List Value} (ho : ops[i]? = some o) (hop : o.op = .makeFunc (.func f) #[] cs.toArray) (hg : wantB ops E o = some true)
    (hxs : ∀ (a : Act) (w : World), (∀ y, y ∈ cs → ∀ g, opF E y = some g → g.den w (a.eval y)) → cs.map a.eval = caps)
    (h : Plan P ops Q n I d k (i + 1) (setE o.dst (.ex (.func (.func f) #[] caps.toArray)) E)) : Plan P ops Q n I d (k + 1) i E :=
  Plan.step ho (Step.run ho hg fun a w hI hs' => by
    have h1 := hxs a w (fun y hy g hg => hs' y (by simp [hop, Op.operands, hy]) g hg)
    refine ⟨.func (.func f) #[] caps.toArray, w, ?_, Below.refl _ _, by simp [Fa.den]⟩
    simp [execOp, hop, Instr.makeFunc, ← h1]) h
end
end Go.Free
end

section
set_option linter.unusedSimpArgs false
set_option linter.unusedVariables false
set_option maxRecDepth 20000
namespace Go.Free
open Go.RowKit
def pick (H : List Chunk) (qs : List Nat) : List Chunk := qs.map fun q => (H[q]?).getD emp
def nodupB : List Nat → Bool
  | [] => true
  | q :: r => r.all (fun p => p != q) && nodupB r
theorem nodup_at {qs : List Nat} (h : nodupB qs = true) : ∀ {i j q : Nat}, qs[i]? = some q → qs[j]? = some q → i = j := by
  induction qs with
  | nil => intro i j q hi; simp at hi
  | cons p r ih =>
    simp only [nodupB, Bool.and_eq_true, List.all_eq_true, bne_iff_ne, ne_eq] at h
    intro i j q hi hj
    cases i with
    | zero =>
      cases j with
      | zero => rfl
      | succ j =>
        simp only [List.getElem?_cons_zero, Option.some.injEq] at hi
        subst hi
        exact absurd rfl (h.1 p (List.mem_of_getElem? (by simpa using hj)))
    | succ i =>
      cases j with
      | zero =>
        simp only [List.getElem?_cons_zero, Option.some.injEq] at hj
        subst hj
        exact absurd rfl (h.1 p (List.mem_of_getElem? (by simpa using hi)))
      | succ j => exact congrArg (· + 1) (ih h.2 (q := q) (by simpa using hi) (by simpa using hj))
theorem Lies.pick {H : List Chunk} {φ : Nat → Nat → Prop} {w : World} (h : Lies H φ w) (qs : List Nat) (hn : nodupB qs = true) : Lies (Free.pick H qs) (fun i b => ∃ q, qs[i]? = some q ∧ φ q b) w := by
  refine ⟨fun i c hi => ?_, fun i j b ⟨q, h1, h2⟩ ⟨q', h3, h4⟩ => ?_, fun i b ⟨q, h1, h2⟩ => ?_⟩
  · simp only [Free.pick, List.getElem?_map, Option.map_eq_some_iff] at hi
    obtain ⟨q, hq, rfl⟩ := hi
    have hF : (fun b => ∃ q', qs[i]? = some q' ∧ φ q' b) = φ q := by
      funext b; apply propext
      exact ⟨fun ⟨q', h1, h2⟩ => by rw [hq] at h1; cases h1; exact h2, fun hb => ⟨q, hq, hb⟩⟩
    rw [hF]
    cases hH : H[q]? with
    | none => exact fun b hb => by have := h.bound q b hb; have := List.getElem?_eq_none_iff.1 hH; omega
    | some c => exact h.holds q c hH
  · have := h.apart q q' b h2 h4
    subst this
    exact nodup_at hn h1 h3
  · simp only [Free.pick, List.length_map]
    exact (List.getElem?_eq_some_iff.1 h1).1
theorem Ent.pickC {H H' : List Chunk} (qs : List Nat) (hp : Free.pick H qs = H') (hn : nodupB qs = true) : Ent (allC H) (allC H') := fun w F h => by
  obtain ⟨φ, hL, hF⟩ := Lies.ofAll h
  subst hp
  exact ⟨_, (hL.pick qs hn).all, fun b ⟨i, q, _, hb⟩ => hF q b hb⟩
theorem Ent.assocR {c d e : Chunk} : Ent (sepC (sepC c d) e) (sepC c (sepC d e)) := fun w F ⟨G, K, h1, h2, ⟨G1, G2, g1, g2, g3, g4⟩, h4⟩ =>
  ⟨F, ⟨G1, fun b => G2 b ∨ K b, fun b => (h1 b).trans ⟨fun h => h.elim (fun h => ((g1 b).1 h).elim .inl (fun h => .inr (.inl h))) (fun h => .inr (.inr h)), fun h => h.elim (fun h => .inl ((g1 b).2 (.inl h))) (fun h => h.elim (fun h => .inl ((g1 b).2 (.inr h))) .inr)⟩,
    fun b hb hc => hc.elim (g2 b hb) (h2 b ((g1 b).2 (.inl hb))), g3, G2, K, fun b => Iff.rfl, fun b hb hc => h2 b ((g1 b).2 (.inr hb)) hc, g4, h4⟩, fun _ h => h⟩
theorem Ent.assocL {c d e : Chunk} : Ent (sepC c (sepC d e)) (sepC (sepC c d) e) := fun w F ⟨G, K, h1, h2, h3, K1, K2, k1, k2, k3, k4⟩ =>
  ⟨F, ⟨fun b => G b ∨ K1 b, K2, fun b => (h1 b).trans ⟨fun h => h.elim (fun h => .inl (.inl h)) (fun h => ((k1 b).1 h).elim (fun h => .inl (.inr h)) .inr), fun h => h.elim (fun h => h.elim .inl (fun h => .inr ((k1 b).2 (.inl h)))) (fun h => .inr ((k1 b).2 (.inr h)))⟩,
    fun b hb hc => hb.elim (fun hb => h2 b hb ((k1 b).2 (.inr hc))) (fun hb => k2 b hb hc), ⟨G, K1, fun b => Iff.rfl, fun b hb hc => h2 b hb ((k1 b).2 (.inl hc)), h3, k3⟩, k4⟩, fun _ h => h⟩
theorem Ent.splitC : ∀ {H1 H2 : List Chunk}, Ent (allC (H1 ++ H2)) (sepC (allC H1) (allC H2))
  | [], H2 => fun w F h => ⟨F, ⟨fun _ => False, F, fun b => ⟨.inr, fun h => h.elim (fun e => e.elim) id⟩, fun _ e _ => e, fun _ e => e, h⟩, fun _ h => h⟩
  | c :: r, H2 => (Ent.sep (Ent.refl c) (Ent.splitC (H1 := r))).trans Ent.assocL
theorem Ent.joinC : ∀ {H1 H2 : List Chunk}, Ent (sepC (allC H1) (allC H2)) (allC (H1 ++ H2))
  | [], H2 => Ent.right
  | c :: r, H2 => Ent.assocR.trans (Ent.sep (Ent.refl c) (Ent.joinC (H1 := r)))
theorem nodupB_app {qs rs : List Nat} (h : nodupB (qs ++ rs) = true) : nodupB qs = true := by
  induction qs with
  | nil => rfl
  | cons q r ih =>
    simp only [List.cons_append, nodupB, Bool.and_eq_true, List.all_append] at h ⊢
    exact ⟨h.1.1, ih h.2⟩
theorem Sub.heap {I : World → Prop} {A : Nat → Prop} {H H' : List Chunk} (he : Ent (allC H) (allC H')) : Sub I (Free.heap A H) (Free.heap A H') := fun w v _ hh => by
  obtain ⟨φ, hL, hA⟩ := hh
  obtain ⟨G, g1, g2⟩ := he w _ hL.all
  obtain ⟨φ', hL', hF⟩ := Lies.ofAll g1
  exact ⟨φ', hL', fun q b hb => by obtain ⟨p, hp⟩ := g2 b (hF q b hb); exact hA p b hp⟩
section
variable {P : Program} {ops : Array Oper} {Q : Exit → Act → World → Prop} {n : Nat} {I : World → Prop} {k i : Nat} {E : Env} {o : Oper} {d : Bool} {A : Nat → Prop} {H : List Chunk} {key : Nat}
/-- A call that turns the chunks qs of the heap; rs are the others. -/
theorem Plan.callL {f : FuncId} {xs : List Operand} {ts : Array TypeId} {fs : List Fa} {Hc Hr : List Chunk} {X : Type} {ok : X → Prop} {R : X → Fa} {c' : X → List Chunk} {fn : Func} (qs rs : List Nat) (ho : ops[i]? = some o)
    (hop : o.op = .call { callee := .value (.func f), args := xs.toArray, argTypes := ts }) (hg : wantB ops E o = some true) (hc : SpcC P f fs (allC Hc) ok R (fun x => allC (c' x)))
    (hf : P.funcs[f]? = some fn) (hbody : fn.body.isNone = false) (hname : (fn.name == "runtime.NumGoroutine") = false) (hd : ∀ d, o.dst = some d → d < n)
    (hx : Opnds I E xs fs) (hk : look E key = some (heap A H)) (hA : Own I A) (hp : Free.pick H qs = Hc) (hr : Free.pick H rs = Hr) (hn : nodupB (qs ++ rs) = true)
    (h : ∀ x, ok x → Plan P ops Q n I d k (i + 1) (setE o.dst (R x) ((key, heap A (c' x ++ Hr)) :: sieve E))) (hq : d = false ∨ barB ops i = true := by first | exact .inl rfl | exact .inr (by kernel_rfl)) : Plan P ops Q n I d (k + 1) i E :=
  Plan.callG (allC Hr) (fun x => c' x ++ Hr) ho hop hg hc hf hbody hname hd hx hk hA ((Ent.pickC (qs ++ rs) (by rw [Free.pick, List.map_append]; exact (congrArg (· ++ _) hp).trans (congrArg (Hc ++ ·) hr)) hn).trans Ent.splitC) (fun x => Ent.joinC) h hq
/-- Chunks told as one are told apart. -/
theorem J.open1 {c : Code} {Hc : List Chunk} (hk : look E key = some (heap A [allC Hc])) (h : J P n I c Q ((key, heap A Hc) :: E)) : J P n I c Q E := J.regroup Hc hk Ent.one h
end
end Go.Free
end

section
set_option linter.unusedSimpArgs false
set_option linter.unusedVariables false
set_option maxRecDepth 20000
namespace Go.Free
open Go.RowKit
/-- I, and object β has the cells cs. -/
def framed (I : World → Prop) (β : Nat) (cs : List Value) (w : World) : Prop := I w ∧ ∃ e, w.heap[β]? = some (.cells cs.toArray e (0, 0))
theorem framed_I {I : World → Prop} {β : Nat} {cs : List Value} (hI : ∀ w w', I w → Below w.heap.size w w' → I w') : ∀ w w', framed I β cs w → Below w.heap.size w w' → framed I β cs w' := fun w w' ⟨h1, e, h2⟩ hb =>
  ⟨hI w w' h1 hb, e, by rw [hb.block β (Array.getElem?_eq_some_iff.1 h2).1]; exact h2⟩
theorem framed_own {I : World → Prop} {A : Nat → Prop} {β : Nat} {cs : List Value} (hA : Own I A) : Own (framed I β cs) (fun b => A b ∧ b ≠ β) :=
  ⟨fun w ⟨h1, e, h2⟩ b hb => ⟨hA.fresh w h1 b hb, fun hbe => by have := (Array.getElem?_eq_some_iff.1 h2).1; omega⟩,
   fun w w' ⟨h1, e, h2⟩ hk => ⟨hA.turn w w' h1 (hk.mono fun b _ hb => hb.1), e, by rw [hk.block β (Array.getElem?_eq_some_iff.1 h2).1 (fun hb => hb.2 rfl)]; exact h2⟩⟩
theorem framed_cell {I : World → Prop} {β off : Nat} {cs us : List Value} (h : (cs.drop off).take us.length = us) : ∀ w, framed I β cs w → ∀ j u, us[j]? = some u → w.cell? ⟨β, off + j, none⟩ = some u := fun w ⟨_, e, hh⟩ j u hu => by
  simp only [World.cell?, hh, Option.isSome_none, Bool.false_eq_true, if_false, List.getElem?_toArray]
  have hj : j < us.length := (List.getElem?_eq_some_iff.1 hu).1
  rw [← h, List.getElem?_take, if_pos hj, List.getElem?_drop] at hu
  exact hu
theorem framed_cell1 {I : World → Prop} {β off : Nat} {cs : List Value} {u : Value} (h : cs[off]? = some u) : ∀ w, framed I β cs w → ∀ j u', [u][j]? = some u' → w.cell? ⟨β, off + j, none⟩ = some u' := framed_cell (by
  obtain ⟨hl, rfl⟩ := List.getElem?_eq_some_iff.1 h
  rw [List.length_singleton, List.drop_eq_getElem_cons hl]; rfl)
section
variable {P : Program} {ops : Array Oper} {Q : Exit → Act → World → Prop} {n : Nat} {I : World → Prop} {k i : Nat} {E : Env} {o : Oper} {d : Bool} {A : Nat → Prop} {H : List Chunk} {key : Nat}
theorem J.frame {c : Code} {β : Nat} {cs : List Value} (q : Nat) (hk : look E key = some (heap A H)) (hq : H[q]? = some (obj β cs)) (h : A β → J P n (framed I β cs) c Q ((key, heap (fun b => A b ∧ b ≠ β) (H.eraseIdx q)) :: E)) : J P n I c Q E := fun a w h1 h2 h3 => by
  obtain ⟨φ, hL, hLA⟩ := h3 key _ hk
  have hob := hL.holds q _ hq
  obtain ⟨⟨e, hh⟩, hF⟩ := hob
  have hqβ : φ q β := (hF β).2 rfl
  have hne : ∀ p b, p ≠ q → φ p b → b ≠ β := fun p b hp hb he => by subst he; exact hp (hL.apart p q _ hb hqβ)
  refine h (hLA q β hqβ) a w ⟨h1, e, hh⟩ h2 (heap_put h3 (φ := fun p b => φ (if p < q then p else p + 1) b) ⟨fun p c hp => ?_, fun p p' b hp hp' => ?_, fun p b hp => ?_⟩ (fun p b hb => ⟨hLA _ b hb, hne _ b ?_ hb⟩))
  · refine hL.holds _ c ?_
    rw [List.getElem?_eraseIdx] at hp
    by_cases hpq : p < q
    · rw [if_pos hpq] at hp; rw [if_pos hpq]; exact hp
    · rw [if_neg hpq] at hp; rw [if_neg hpq]; exact hp
  · have := hL.apart _ _ b hp hp'
    split at this <;> split at this <;> omega
  · have := hL.bound _ b hp
    have hql := (List.getElem?_eq_some_iff.1 hq).1
    rw [List.length_eraseIdx, if_pos hql]
    split at this <;> omega
  · split <;> omega
theorem J.unframe {c : Code} {β : Nat} {cs : List Value} (hAβ : A β) (hk : look E key = some (heap (fun b => A b ∧ b ≠ β) H)) (h : J P n I c Q ((key, heap A (H ++ [obj β cs])) :: E)) : J P n (framed I β cs) c Q E := fun a w h1 h2 h3 => by
  obtain ⟨φ, hL, hLA⟩ := h3 key _ hk
  obtain ⟨h1, e, hh⟩ := h1
  refine h a w h1 h2 (heap_put h3 (φ := fun p b => if p = H.length then b = β else φ p b) ⟨fun p c hp => ?_, fun p p' b hp hp' => ?_, fun p b hp => ?_⟩ (fun p b hb => ?_))
  · by_cases he : p = H.length
    · subst he
      simp only [List.getElem?_concat_length, Option.some.injEq] at hp
      subst hp
      simp only [if_true]
      exact ⟨⟨e, hh⟩, fun b => Iff.rfl⟩
    · have hl : p < (H ++ [obj β cs]).length := (List.getElem?_eq_some_iff.1 hp).1
      have hl' : p < H.length := by simp at hl; omega
      rw [List.getElem?_append_left hl'] at hp
      simp only [if_neg he]
      exact hL.holds p c hp
  · by_cases he : p = H.length
    · by_cases he' : p' = H.length
      · rw [he, he']
      · simp only [if_pos he] at hp
        simp only [if_neg he'] at hp'
        exact absurd hp (hLA p' b hp').2
    · by_cases he' : p' = H.length
      · simp only [if_neg he] at hp
        simp only [if_pos he'] at hp'
        exact absurd hp' (hLA p b hp).2
      · simp only [if_neg he] at hp
        simp only [if_neg he'] at hp'
        exact hL.apart p p' b hp hp'
  · rw [List.length_append]
    by_cases he : p = H.length
    · simp [he]
    · simp only [if_neg he] at hp
      have := hL.bound p b hp
      simp; omega
  · by_cases he : p = H.length
    · simp only [if_pos he] at hb; subst hb; exact hAβ
    · simp only [if_neg he] at hb
      exact (hLA p b hb).1
/-- A load of one value, known of every world there. -/
theorem Plan.loadI {t : TypeId} {u : TypeDesc} {x : Operand} {β off : Nat} {v : Value} (ho : ops[i]? = some o) (hop : o.op = .load t x) (hg : wantB ops E o = some true)
    (hx : opF E x = some (.ex (.pointer (some ⟨β, off, none⟩)))) (hr : ∀ w, I w → ∀ j u, [v][j]? = some u → w.cell? ⟨β, off + j, none⟩ = some u) (hu : P.underlying t = some u) (hna : aggB u = false)
    (h : Plan P ops Q n I d k (i + 1) (setE o.dst (.ex v) E)) : Plan P ops Q n I d (k + 1) i E :=
  Plan.step ho (Step.run ho hg fun a w hI hs' => by
    have e1 := hs' x (by simp [hop, Op.operands]) _ hx
    simp only [Fa.den] at e1
    have hc := hr w hI 0 v rfl
    rw [Nat.add_zero] at hc
    refine ⟨v, w, ?_, Below.refl _ _, by simp [Fa.den]⟩
    have hagg : (isAgg t).run P w = .ok false w := by
      cases u <;> simp [aggB] at hna <;> simp [isAgg, run_underlying hu]
    simp [execOp, hop, e1, Instr.loadAt, Instr.sureAddr, loadVar, hagg, run_load, hc]) h
/-- A load of a struct, known of every world there. -/
theorem Plan.loadAggI {t : TypeId} {u : TypeDesc} {x : Operand} {β off : Nat} {vs : List Value} (ho : ops[i]? = some o) (hop : o.op = .load t x) (hg : wantB ops E o = some true)
    (hx : opF E x = some (.ex (.pointer (some ⟨β, off, none⟩)))) (hr : ∀ w, I w → ∀ j u, vs[j]? = some u → w.cell? ⟨β, off + j, none⟩ = some u) (hu : P.underlying t = some u) (hna : aggB u = true) (hi : (P.info? t).map (·.size) = some vs.length)
    (h : Plan P ops Q n I d k (i + 1) (setE o.dst (.ex (.agg vs.toArray)) E)) : Plan P ops Q n I d (k + 1) i E :=
  Plan.step ho (Step.run ho hg fun a w hI hs' => by
    have e1 := hs' x (by simp [hop, Op.operands]) _ hx
    simp only [Fa.den] at e1
    have hc := hr w hI
    obtain ⟨inf, hi1, hi2⟩ : ∃ inf, P.info? t = some inf ∧ inf.size = vs.length := by
      cases hinf : P.info? t with
      | none => rw [hinf] at hi; cases hi
      | some inf => rw [hinf] at hi; exact ⟨inf, rfl, by simpa using hi⟩
    refine ⟨.agg vs.toArray, w, ?_, Below.refl _ _, by simp [Fa.den]⟩
    have hagg : (isAgg t).run P w = .ok true w := by
      cases u <;> simp [aggB] at hna <;> simp [isAgg, run_underlying hu]
    have hl := run_loadCellsFrom (P := P) ⟨β, off, none⟩ w vs.length 0 #[] vs rfl (fun j u hu => by rw [Nat.zero_add, add_at]; exact hc j u hu)
    simp [execOp, hop, e1, Instr.loadAt, Instr.sureAddr, loadVar, hagg, sizeOf, typeInfo, hi1, hi2, loadCells, hl]) h
end
end Go.Free
end

section
set_option linter.unusedSimpArgs false
set_option linter.unusedVariables false
set_option maxRecDepth 20000
namespace Go.Free
open Go.RowKit
def framedC (I : World → Prop) (c : Chunk) (F : Nat → Prop) (w : World) : Prop := I w ∧ c.holds w F
theorem framedC_I {I : World → Prop} {c : Chunk} {F : Nat → Prop} (hI : ∀ w w', I w → Below w.heap.size w w' → I w') : ∀ w w', framedC I c F w → Below w.heap.size w w' → framedC I c F w' := fun w w' ⟨h1, h2⟩ hb =>
  ⟨hI w w' h1 hb, c.keep (S := fun _ => False) h2 (.ofBelow hb) fun _ _ e => e⟩
theorem framedC_own {I : World → Prop} {A : Nat → Prop} {c : Chunk} {F : Nat → Prop} (hA : Own I A) : Own (framedC I c F) (fun b => A b ∧ ¬ F b) :=
  ⟨fun w ⟨h1, h2⟩ b hb => ⟨hA.fresh w h1 b hb, fun hF => by have := c.lt w F b h2 hF; omega⟩,
   fun w w' ⟨h1, h2⟩ hk => ⟨hA.turn w w' h1 (hk.mono fun b _ hb => hb.1), c.keep h2 hk fun b hb hb2 => hb2.2 hb⟩⟩
section
variable {P : Program} {ops : Array Oper} {Q : Exit → Act → World → Prop} {n : Nat} {I : World → Prop} {k i : Nat} {E : Env} {o : Oper} {d : Bool} {A : Nat → Prop} {H : List Chunk} {key : Nat}
theorem J.frameC {cd : Code} {c : Chunk} (q : Nat) (hk : look E key = some (heap A H)) (hq : H[q]? = some c) (h : ∀ F : Nat → Prop, (∀ b, F b → A b) → J P n (framedC I c F) cd Q ((key, heap (fun b => A b ∧ ¬ F b) (H.eraseIdx q)) :: E)) : J P n I cd Q E := fun a w h1 h2 h3 => by
  obtain ⟨φ, hL, hLA⟩ := h3 key _ hk
  have hob := hL.holds q _ hq
  have hne : ∀ p b, p ≠ q → φ p b → ¬ φ q b := fun p b hp hb hb2 => hp (hL.apart p q _ hb hb2)
  refine h (φ q) (hLA q) a w ⟨h1, hob⟩ h2 (heap_put h3 (φ := fun p b => φ (if p < q then p else p + 1) b) ⟨fun p c hp => ?_, fun p p' b hp hp' => ?_, fun p b hp => ?_⟩ (fun p b hb => ⟨hLA _ b hb, hne _ b ?_ hb⟩))
  · refine hL.holds _ c ?_
    rw [List.getElem?_eraseIdx] at hp
    by_cases hpq : p < q
    · rw [if_pos hpq] at hp; rw [if_pos hpq]; exact hp
    · rw [if_neg hpq] at hp; rw [if_neg hpq]; exact hp
  · have := hL.apart _ _ b hp hp'
    split at this <;> split at this <;> omega
  · have := hL.bound _ b hp
    have hql := (List.getElem?_eq_some_iff.1 hq).1
    rw [List.length_eraseIdx, if_pos hql]
    split at this <;> omega
  · split <;> omega
theorem J.unframeC {cd : Code} {c : Chunk} {F : Nat → Prop} (hAF : ∀ b, F b → A b) (hk : look E key = some (heap (fun b => A b ∧ ¬ F b) H)) (h : J P n I cd Q ((key, heap A (H ++ [c])) :: E)) : J P n (framedC I c F) cd Q E := fun a w h1 h2 h3 => by
  obtain ⟨φ, hL, hLA⟩ := h3 key _ hk
  obtain ⟨h1, hh⟩ := h1
  refine h a w h1 h2 (heap_put h3 (φ := fun p b => if p = H.length then F b else φ p b) ⟨fun p c hp => ?_, fun p p' b hp hp' => ?_, fun p b hp => ?_⟩ (fun p b hb => ?_))
  · by_cases he : p = H.length
    · subst he
      simp only [List.getElem?_concat_length, Option.some.injEq] at hp
      subst hp
      simpa using hh
    · have hl : p < (H ++ [_]).length := (List.getElem?_eq_some_iff.1 hp).1
      have hl' : p < H.length := by simp at hl; omega
      rw [List.getElem?_append_left hl'] at hp
      simp only [if_neg he]
      exact hL.holds p c hp
  · by_cases he : p = H.length
    · by_cases he' : p' = H.length
      · rw [he, he']
      · simp only [if_pos he] at hp
        simp only [if_neg he'] at hp'
        exact absurd hp (hLA p' b hp').2
    · by_cases he' : p' = H.length
      · simp only [if_neg he] at hp
        simp only [if_pos he'] at hp'
        exact absurd hp' (hLA p b hp).2
      · simp only [if_neg he] at hp
        simp only [if_neg he'] at hp'
        exact hL.apart p p' b hp hp'
  · rw [List.length_append]
    by_cases he : p = H.length
    · simp [he]
    · simp only [if_neg he] at hp
      have := hL.bound p b hp
      simp; omega
  · by_cases he : p = H.length
    · simp only [if_pos he] at hb; exact hAF b hb
    · simp only [if_neg he] at hb
      exact (hLA p b hb).1
/-- A call that reads what is known of every world there. -/
theorem Plan.callRI {f : FuncId} {xs : List Operand} {ts : Array TypeId} {fs : List Fa} {c : Chunk} {R : Nat → Fa} {fn : Func} {B : Nat} (ho : ops[i]? = some o)
    (hop : o.op = .call { callee := .value (.func f), args := xs.toArray, argTypes := ts }) (hg : wantB ops E o = some true) (hc : SpcR P f fs c R)
    (hf : P.funcs[f]? = some fn) (hbody : fn.body.isNone = false) (hname : (fn.name == "runtime.NumGoroutine") = false) (hB : ∀ w, I w → B ≤ w.heap.size)
    (hx : Opnds I E xs fs) (hch : ∀ w, I w → ∃ F, c.holds w F)
    (h : Plan P ops Q n I d k (i + 1) (setE o.dst (R B) E)) : Plan P ops Q n I d (k + 1) i E :=
  Plan.step (F := R B) ho (fun a w hI hsh hs => by
    unfold wpOp
    simp only [ho, wantB_spec ho hsh (fun t ht => hs t (.inl ht)) hg, if_true]
    refine .inl ?_
    unfold Oper.wp
    have hrun : (execOp a.eval o).run P w = .ok (.enter f (xs.map a.eval).toArray) w := by
      have hn : ¬ fn.name = "runtime.NumGoroutine" := by simpa using hname
      have hb : ¬ fn.body = none := by intro e; rw [e] at hbody; cases hbody
      simp [execOp, hop, resolve, invoke, callFunc, Deferred.ofValue, Act.eval, hf, hb, hn]
    rw [hrun]
    simp only [Oper.upon]
    obtain ⟨G, hG⟩ := hch w hI
    have hden := Opnds.dens (a := a) hI hx (fun x hxm f hf => opF_den ho (by simp [hop, Op.operands, Call.operands, hxm]) (fun t ht => hs t (.inl ht)) hf)
    refine (hc w _ G hden hG).mono ?_
    rintro e w' ⟨v, rfl, hb, hR⟩
    exact ⟨v, by rw [dst_of ho], hb, hR B (hB w hI)⟩) h
theorem Plan.weakE (E' : Env) (h : Weak I E E') (hp : Plan P ops Q n I d 0 i E') : Plan P ops Q n I d 0 i E := fun a w h1 h2 h3 => hp a w h1 h2 (h.sat h1 h3)
theorem Sub.tupEx {a b : Value} : Sub I (.tup [.ex a, .ex b]) (.ex (.tuple #[a, b])) := fun w v _ h => by
  simp only [Fa.den, Fa.dens] at h ⊢
  obtain ⟨vs, rfl, x, r, rfl, h1, y, r', rfl, h2, rfl⟩ := h
  rw [h1, h2]
/-- A part of a tuple that is known. -/
theorem Plan.extractEx {x : Operand} {j : Nat} {vs : Array Value} {v : Value} (ho : ops[i]? = some o) (hop : o.op = .extract x j) (hg : wantB ops E o = some true) (hx : opF E x = some (.ex (.tuple vs))) (hv : vs[j]? = some v)
    (h : Plan P ops Q n I d k (i + 1) (setE o.dst (.ex v) E)) : Plan P ops Q n I d (k + 1) i E :=
  Plan.step ho (Step.run ho hg fun a w hI hs' => by
    have e1 := hs' x (by simp [hop, Op.operands]) _ hx
    simp only [Fa.den] at e1
    refine ⟨v, w, ?_, Below.refl _ _, by simp [Fa.den]⟩
    simp [execOp, hop, e1, Instr.extract, hv]) h
end
end Go.Free
end

section
set_option linter.unusedSimpArgs false
set_option linter.unusedVariables false
set_option maxRecDepth 20000
namespace Go.Free
open Go.RowKit

/-- v is a row of n bytes, alone in its block. -/
def scrOk (w : World) (v : Value) : Prop := v = .slice none 0 0 ∨ ∃ g n cap cur e, v = .slice (some ⟨g, 0, none⟩) n cap ∧ w.heap[g]? = some (.cells cur e (0, 0)) ∧ n ≤ cap ∧ cap ≤ 9223372036854775807 ∧ n ≤ cur.size ∧ ∀ k, k < n → ∃ b : UInt8, cur[k]? = some (.int .u8 b.toNat)
theorem scrOk_own {B e : Nat} {l : List UInt8} {w : World} {v : Value} (h : ownH B e 1 (bs l) w v) : scrOk w v := by
  obtain ⟨_, n, hl, h⟩ := h
  rcases h with ⟨rfl, rfl⟩ | ⟨g, cap, cur, rfl, _, hg, h1, h2, h3, h4⟩
  · exact .inl rfl
  · rw [Nat.mul_one] at hl h3 h4
    refine .inr ⟨g, n, cap, cur, e, rfl, hg, h1, by simpa [maxLen] using h2, by omega, fun k hk => ?_⟩
    have hk' : k < l.length := by rw [bs_length] at hl; omega
    have e1 : (cur.toList.take n)[k]? = (bs l)[k]? := by rw [h4]
    rw [List.getElem?_take_of_lt hk] at e1
    refine ⟨l[k], ?_⟩
    rw [Array.getElem?_toList] at e1
    rw [e1]
    simp [bs, List.getElem?_eq_getElem hk']
def scrC (vs : List Value) : Chunk := ⟨fun w F => (∀ v ∈ vs, scrOk w v) ∧ ∀ b, F b ↔ ∃ v ∈ vs, v.ownBlock = some b,
  fun w F b h hb => by
    obtain ⟨v, hv, hvb⟩ := (h.2 b).1 hb
    rcases h.1 v hv with rfl | ⟨g, n, cap, cur, e, rfl, hg, _⟩
    · cases hvb
    · simp only [Value.ownBlock, Option.some.injEq] at hvb
      subst hvb
      exact (Array.getElem?_eq_some_iff.1 hg).1,
  fun w w' F h hk => ⟨fun v hv => by
    rcases h.1 v hv with rfl | ⟨g, n, cap, cur, e, rfl, hg, h1⟩
    · exact .inl rfl
    · exact .inr ⟨g, n, cap, cur, e, rfl, by rw [hk g ((h.2 g).2 ⟨_, hv, rfl⟩)]; exact hg, h1⟩, h.2⟩⟩
/-- At a place of one row stands b. -/
def scrAt (vs : List Value) (g k : Nat) (b : UInt8) : Chunk := ⟨fun w F => (scrC vs).holds w F ∧ F g ∧ w.cell? ⟨g, k, none⟩ = some (.int .u8 b.toNat) ∧ ∃ n cap, Value.slice (some ⟨g, 0, none⟩) n cap ∈ vs ∧ k < n,
  fun w F c h hc => (scrC vs).lt w F c h.1 hc,
  fun w w' F h hk => ⟨(scrC vs).loc w w' F h.1 hk, h.2.1, by
    have := h.2.2.1
    simp only [World.cell?] at this ⊢
    rw [hk g h.2.1]; exact this, h.2.2.2⟩⟩
theorem scr_see {vs : List Value} {g n cap k : Nat} (hv : Value.slice (some ⟨g, 0, none⟩) n cap ∈ vs) (hk : k < n) : Ent (scrC vs) (exC fun b => scrAt vs g k b) := fun w F h => by
  have hF : F g := (h.2 g).2 ⟨_, hv, rfl⟩
  rcases h.1 _ hv with h0 | ⟨g', n', cap', cur, e, he, hg, h1, h2, h3, h4⟩
  · cases h0
  · cases he
    obtain ⟨b, hb⟩ := h4 k hk
    refine ⟨F, ⟨b, h, hF, ?_, n, cap, hv, hk⟩, fun _ hb => hb⟩
    simp only [World.cell?, hg, Option.isSome_none, Bool.false_eq_true, if_false]
    exact hb
theorem scrAt_reads {vs : List Value} {g k : Nat} {b : UInt8} : (scrAt vs g k b).reads g k [.int .u8 b.toNat] := fun w F h j u hu => by
  cases j with
  | zero => simp only [List.getElem?_cons_zero, Option.some.injEq] at hu; subst hu; exact h.2.2.1
  | succ j => simp at hu
/-- With vs stored from that place on, all else as it was, the chunk is c'. -/
def Chunk.patX (c : Chunk) (β off : Nat) (vs : List Value) (c' : Chunk) : Prop := ∀ w F, c.holds w F → F β ∧ ∃ cur e, w.heap[β]? = some (.cells cur e (0, 0)) ∧ off + vs.length ≤ cur.size ∧
  ∀ w', w'.heap[β]? = some (.cells (cur.toList.take off ++ vs ++ cur.toList.drop (off + vs.length)).toArray e (0, 0)) → (∀ b, b ≠ β → w'.heap[b]? = w.heap[b]?) → c'.holds w' F
theorem scrAt_pat {vs : List Value} {g k : Nat} {b c : UInt8} : (scrAt vs g k b).patX g k [.int .u8 c.toNat] (scrC vs) := fun w F h => by
  obtain ⟨hs, hF, hc, n, cap, hv, hk⟩ := h
  refine ⟨hF, ?_⟩
  rcases hs.1 _ hv with h0 | ⟨g', n', cap', cur, e, he, hg, h1, h2, h3, h4⟩
  · cases h0
  · cases he
    refine ⟨cur, e, hg, by simp; omega, fun w' hw ho => ⟨fun u hu => ?_, hs.2⟩⟩
    rcases hs.1 u hu with rfl | ⟨g2, n2, cap2, cur2, e2, rfl, hg2, k1, k2, k3, k4⟩
    · exact .inl rfl
    · by_cases hgg : g2 = g
      · subst hgg
        rw [hg] at hg2
        cases hg2
        have hset : cur.toList.take k ++ [Value.int .u8 c.toNat] ++ cur.toList.drop (k + [Value.int .u8 (c.toNat : Int)].length) = cur.toList.set k (.int .u8 c.toNat) := by
          rw [List.set_eq_take_append_cons_drop, if_pos (by simp; omega)]; simp
        rw [hset] at hw
        refine .inr ⟨g2, n2, cap2, _, _, rfl, hw, k1, k2, by simpa using k3, fun j hj => ?_⟩
        rw [List.getElem?_toArray, List.getElem?_set]
        by_cases hjk : k = j
        · subst hjk
          rw [if_pos rfl, if_pos (by simp; omega)]
          exact ⟨c, rfl⟩
        · rw [if_neg hjk, Array.getElem?_toList]
          exact k4 j hj
      · exact .inr ⟨g2, n2, cap2, cur2, e2, rfl, by rw [ho g2 hgg]; exact hg2, k1, k2, k3, k4⟩
section
variable {P : Program} {ops : Array Oper} {Q : Exit → Act → World → Prop} {n : Nat} {I : World → Prop} {k i : Nat} {E : Env} {o : Oper} {d : Bool} {A : Nat → Prop} {H : List Chunk} {key : Nat}
/-- A store into a chunk of several blocks. -/
theorem Plan.storeX {t : TypeId} {p x : Operand} {β off q : Nat} {c c' : Chunk} {v : Value} (ho : ops[i]? = some o) (hop : o.op = .store t p x) (hdst : o.dst = none) (hg : wantB ops E o = some true)
    (hp : opF E p = some (.ex (.pointer (some ⟨β, off, none⟩)))) (hx : opF E x = some (.ex v)) (hone : ∀ u ∈ v.cells.toList, u.oneCell' = true) (hi : (P.info? t).map (·.size) = some v.cells.size)
    (hk : look E key = some (heap A H)) (hA : Own I A) (hqH : H[q]? = some c) (hpat : c.patX β off v.cells.toList c')
    (h : Plan P ops Q n I d k (i + 1) ((key, heap A (H.set q c')) :: sieve E)) (hq : d = false ∨ barB ops i = true := by first | exact .inl rfl | exact .inr (by kernel_rfl)) : Plan P ops Q n I d (k + 1) i E :=
  Plan.turnRun ho hg (by rw [hdst]; intro _ e; cases e) hk hA (fun a w φ _ _ hs' hL hLA hfr => by
    have e1 := hs' p (by simp [hop, Op.operands]) _ hp
    have e2 := hs' x (by simp [hop, Op.operands]) _ hx
    simp only [Fa.den] at e1 e2
    obtain ⟨hβ, cur, e, hh, hle, hc'⟩ := hpat w (φ q) (hL.holds q c hqH)
    have hst := run_storeCells_at P β off e v.cells.toList 0 cur w hh (by simpa using hle) hone
    simp only [Nat.add_zero] at hst
    obtain ⟨inf, hi1, hi2⟩ : ∃ inf, P.info? t = some inf ∧ inf.size = v.cells.size := by
      cases hinf : P.info? t with
      | none => rw [hinf] at hi; cases hi
      | some inf => rw [hinf] at hi; exact ⟨inf, rfl, by simpa using hi⟩
    obtain ⟨w', hw'⟩ : ∃ w', w' = w.setRow β (cur.toList.take off ++ v.cells.toList ++ cur.toList.drop (off + v.cells.toList.length)).toArray := ⟨_, rfl⟩
    rw [← hw'] at hst
    have hK : Kept (φ q) w w' := by
      subst hw'
      exact ⟨rfl, rfl, rfl, by simp, fun kk _ hkk => setRow_other w β kk _ (fun e => hkk (by rw [e]; exact hβ))⟩
    have hc2 := hc' w' (by subst hw'; exact setRow_heap w β cur _ e _ hh) (fun b hb => by subst hw'; exact setRow_other w β b _ hb)
    have hqlt : q < H.length := (List.getElem?_eq_some_iff.1 hqH).1
    have hL' := hL.upd hqlt hK hc2 (fun b hb => .inl hb)
    refine ⟨undef, w', .ex undef, H.set q c', _, .inr ⟨?_, rfl⟩, hK.mono (fun b _ hb => hLA q b hb), hL', wide (H := H) hLA hfr (fun b hb => .inl hb), by simp [Fa.den], by rw [hdst]; exact h⟩
    simp [execOp, hop, e1, e2, Instr.storeAt, Instr.sureAddr, storeVar, sizeOf, typeInfo, hi1, hi2, hst]) hq
/-- A load of one value that is known to stand there, whatever else was turned. -/
theorem Plan.loadKnown {t : TypeId} {u : TypeDesc} {x : Operand} {ad : Addr} {v : Value} (ho : ops[i]? = some o) (hop : o.op = .load t x) (hg : wantB ops E o = some true)
    (hx : opF E x = some (.ex (.pointer (some ad)))) (hv : ∀ w, I w → w.cell? ad = some v) (hu : P.underlying t = some u) (hna : aggB u = false)
    (h : Plan P ops Q n I d k (i + 1) (setE o.dst (.ex v) E)) : Plan P ops Q n I d (k + 1) i E :=
  Plan.step ho (Step.run ho hg fun a w hI hs' => by
    have e1 := hs' x (by simp [hop, Op.operands]) _ hx
    simp only [Fa.den] at e1
    have hc := hv w hI
    refine ⟨v, w, ?_, Below.refl _ _, by simp [Fa.den]⟩
    have hagg : (isAgg t).run P w = .ok false w := by
      cases u <;> simp [aggB] at hna <;> simp [isAgg, run_underlying hu]
    simp [execOp, hop, e1, Instr.loadAt, Instr.sureAddr, loadVar, hagg, run_load, hc]) h
/-- A heap is laid over what is known of the world. -/
theorem J.lay {c : Code} (key : Nat) (A : Nat → Prop) (H : List Chunk) (hL : ∀ w, I w → ∃ φ, Lies H φ w ∧ ∀ q b, φ q b → A b) (h : J P n I c Q ((key, heap A H) :: E)) : J P n I c Q E := fun a w h1 h2 h3 => by
  refine h a w h1 h2 fun t f hf => ?_
  simp only [look] at hf
  by_cases ht : key = t
  · rw [if_pos ht] at hf; cases hf; exact hL w h1
  · rw [if_neg ht] at hf; exact h3 t f hf
end
theorem ownH_kept {B e sz : Nat} {cs : List Value} {w w' : World} {v : Value} {S : Nat → Prop} (hk : Kept S w w') (hS : ∀ b, S b → b < B) (h : ownH B e sz cs w v) : ownH B e sz cs w' v := by
  obtain ⟨hB, n, hl, h⟩ := h
  refine ⟨Nat.le_trans hB hk.size, n, hl, ?_⟩
  rcases h with h0 | ⟨g, cap, cur, hv, hb, hg, h1⟩
  · exact .inl h0
  · exact .inr ⟨g, cap, cur, hv, hb, by rw [hk.block g (Array.getElem?_eq_some_iff.1 hg).1 (fun hs => absurd (hS g hs) (by omega))]; exact hg, h1⟩
end Go.Free
end

section
set_option linter.unusedSimpArgs false
set_option linter.unusedVariables false
set_option maxRecDepth 20000
namespace Go.Free
open Go.RowKit
def sinceW (I : World → Prop) (G : Nat → Prop) (w1 w : World) : Prop := I w ∧ Kept G w1 w
theorem since_I {I : World → Prop} {G : Nat → Prop} {w1 : World} (hI : ∀ w w', I w → Below w.heap.size w w' → I w') : ∀ w w', sinceW I G w1 w → Below w.heap.size w w' → sinceW I G w1 w' := fun w w' ⟨h1, h2⟩ hb =>
  ⟨hI w w' h1 hb, h2.trans (.ofBelow (S := fun _ => False) hb) (fun _ _ h => h) (fun _ _ h => h.elim)⟩
theorem since_own {I : World → Prop} {A G : Nat → Prop} {w1 : World} (hA : Own I A) (hG : ∀ b, G b → A b) (h1 : ∀ b, w1.heap.size ≤ b → A b) : Own (sinceW I G w1) (fun b => G b ∨ w1.heap.size ≤ b) :=
  ⟨fun w h b hb => .inr (Nat.le_trans h.2.size hb),
   fun w w' ⟨h, h2⟩ hk => ⟨hA.turn w w' h (hk.mono fun b _ hb => hb.elim (hG b) (h1 b)), h2.trans hk (fun _ _ h => h) (fun i hi h => h.resolve_right (by omega))⟩⟩
section
variable {P : Program} {ops : Array Oper} {Q : Exit → Act → World → Prop} {n : Nat} {I : World → Prop} {k i : Nat} {E : Env} {o : Oper} {d : Bool} {A : Nat → Prop} {H : List Chunk} {key : Nat}
/-- The world that is now becomes a base: the heap lies below B, what is new since B isn't turned any more. -/
theorem J.since {c : Code} {B : Nat} (hk : look E key = some (heap (fun b => A b ∧ b < B) H)) (hA : Own I A)
    (h : ∀ w1, I w1 → (∀ b, w1.heap.size ≤ b → A b) → J P n (sinceW I (fun b => A b ∧ b < B) w1) c Q ((key, heap (fun b => (A b ∧ b < B) ∨ w1.heap.size ≤ b) H) :: markE w1 E)) : J P n I c Q E := fun a w h1 h2 h3 => by
  obtain ⟨φ, hL, hLA⟩ := h3 key _ hk
  refine h w h1 (hA.fresh w h1) a w ⟨h1, Kept.refl _ _⟩ h2 (heap_put (fun t f hf => ?_) hL fun q b hb => .inl (hLA q b hb))
  obtain ⟨g, hg, rfl⟩ := look_markE hf
  exact keepOld_den (h3 t g hg)
/-- The heap's blocks are told among more. -/
theorem J.widen {c : Code} {A' : Nat → Prop} (hk : look E key = some (heap A' H)) (hA : ∀ b, A' b → A b) (h : J P n I c Q ((key, heap A H) :: E)) : J P n I c Q E := fun a w h1 h2 h3 => by
  obtain ⟨φ, hL, hLA⟩ := h3 key _ hk
  exact h a w h1 h2 (heap_put h3 hL fun q b hb => hA b (hLA q b hb))
end
theorem Sub.sinceOwn {I : World → Prop} {G : Nat → Prop} {w1 : World} {B e sz : Nat} {cs : List Value} (hG : ∀ b, G b → b < B) : Sub (sinceW I G w1) (.old w1 (Free.own B e sz cs)) (Free.own B e sz cs) := fun w v hI h => ownH_kept hI.2 hG h
theorem Sub.sinceNest {I : World → Prop} {G : Nat → Prop} {w1 : World} {B e : Nat} {α : Type} {e' sz : α → Nat} {cs : α → List Value} {ls : List α} (hG : ∀ b, G b → b < B) :
    Sub (sinceW I G w1) (.old w1 (nest B e (ls.map fun l => Free.own B (e' l) (sz l) (cs l)))) (nest B e (ls.map fun l => Free.own B (e' l) (sz l) (cs l))) := fun w v hI ⟨vs, h1, h2⟩ =>
  ⟨vs, ownH_kept hI.2 hG h1, dens_imp (fun f hf v hv => by
    obtain ⟨l, _, rfl⟩ := List.mem_map.1 hf
    exact ownH_kept hI.2 hG hv) h2⟩
theorem dens_old {w1 w : World} {α : Type} {g : α → Fa} : ∀ {ls : List α} {vs : List Value}, Fa.dens (ls.map g) w1 vs → Fa.dens (ls.map fun l => .old w1 (g l)) w vs
  | [], _, h => h
  | _ :: r, _, ⟨u, us, h1, hu, hus⟩ => ⟨u, us, h1, hu, dens_old (ls := r) hus⟩
theorem Sub.sinceNestR {I : World → Prop} {G : Nat → Prop} {w1 : World} {B e : Nat} {α : Type} {g : α → Fa} {ls : List α} (hG : ∀ b, G b → b < B) :
    Sub (sinceW I G w1) (.old w1 (nest B e (ls.map g))) (nestR (ls.map fun l => .old w1 (g l))) := fun w v hI ⟨vs, h1, h2⟩ =>
  ⟨vs, own_row (ownH_kept hI.2 hG h1), dens_old h2⟩
theorem own_fresh {I : World → Prop} {A : Nat → Prop} {B : Nat} (hA : Own I A) : Own (fun w => I w ∧ B ≤ w.heap.size) A :=
  ⟨fun w h => hA.fresh w h.1, fun w w' h hk => ⟨hA.turn w w' h.1 hk, Nat.le_trans h.2 hk.size⟩⟩
end Go.Free
end

section
set_option linter.unusedSimpArgs false
set_option linter.unusedVariables false
set_option maxRecDepth 20000
namespace Go.Proofs.Ytepgphflnelpoaa
open Go.Free Go.RowKit Go.Proofs
set_option maxHeartbeats 4000000

abbrev rowEv (B : Option Addr) (n cap : Nat) (xs : List Value) : Chunk := rowC 48 26 B n cap xs
abbrev evsC (L : List EvV) : List Value := L.flatMap EvV.enc
theorem evs_len (L : List EvV) : (evsC L).length = L.length * 26 := flatMap_length _ 26 encE L
theorem encE_one (e : EvV) : ∀ u ∈ e.enc, u.oneCell' = true := by simp [EvV.enc, Value.oneCell', str]
theorem evs_one (L : List EvV) : ∀ u ∈ evsC L, u.oneCell' = true := fun u hu => by
  obtain ⟨e, _, he⟩ := List.mem_flatMap.1 hu
  exact encE_one e u he
def logC (γ β : Nat) (m : LogV) (f : Nat) : Chunk := exC fun x : Option Addr × Nat => sepC (obj γ [ptr β, str m.s, .bool m.b, .slice x.1 m.l.length x.2, vi f]) (rowEv x.1 m.l.length x.2 (evsC m.l))
theorem log_close {γ β f cap : Nat} {m : LogV} {B : Option Addr} : Ent (allC [obj γ [ptr β, str m.s, .bool m.b, .slice B m.l.length cap, vi f], rowEv B m.l.length cap (evsC m.l)]) (logC γ β m f) :=
  Ent.ex (B, cap) (Ent.sep (Ent.refl _) Ent.one)
theorem log_disk {γ β f cap : Nat} {m : LogV} {B : Option Addr} {D : Chunk} : Ent (allC [obj γ [ptr β, str m.s, .bool m.b, .slice B m.l.length cap, vi f], D, rowEv B m.l.length cap (evsC m.l)]) (allC [logC γ β m f, D]) :=
  (Ent.pickC (H' := [obj γ [ptr β, str m.s, .bool m.b, .slice B m.l.length cap, vi f], rowEv B m.l.length cap (evsC m.l), D]) [0, 2, 1] rfl rfl).trans ((Ent.splitC (H1 := [_, _])).trans (Ent.sep log_close (Ent.refl _)))
theorem evs_Clone (L : List EvV) (hl : L.length ≤ 1000000) : Spc Try.prog 37 [row 26 (evsC L)] fun B => own B 48 26 (evsC L) := by
  refine Spc.intro Try.func37 rfl (Nat.le_of_ble_eq_true rfl) fun w0 => ?_
  have hI := hIb w0
  repeat (first | refine Plan.move rfl rfl rfl rfl ?_ | refine Plan.assign rfl rfl rfl rfl ?_ | refine J.seq (J.region mixed hI (by kernel_rfl) ?_) | refine J.seq (J.seq (J.region mixed hI (by kernel_rfl) ?_)))
  refine Plan.eqlNil rfl rfl rfl rfl (Sub.old fun _ h => h) Try.underlying35 ?_
  repeat (fail)
  refine J.condNil rfl (fun he => ?_) ?_
  · have he' : L = [] := by cases L with | nil => rfl | cons e r => simp [EvV.enc] at he
    subst he'
    repeat (first | refine Plan.assign rfl rfl rfl rfl ?_ | refine J.seq (J.region mixed hI (by kernel_rfl) ?_))
    exact J.ret (Nrm.ret1 rfl (fun _ h => h) rfl fun B hB => by first | exact Sub.refl _ | exact Sub.own | exact Sub.old (fun _ h => h) | exact Sub.oldOwn (fun _ h => h) | exact Sub.nilRow | exact Sub.ownLower hB | exact Sub.nilOwn (fun _ h => Nat.le_trans hB h.size))
  · repeat (first | refine J.seq (J.region mixed hI (by kernel_rfl) ?_) | refine J.skip ?_)
    refine Plan.lit (B := w0.heap.size) (vs := []) rfl rfl rfl eltE rfl (hBb w0) rfl (by simp [Value.cells]) (by decide) ?_
    repeat (refine Plan.move rfl rfl rfl rfl ?_)
    refine Plan.append (news := evsC L) rfl rfl rfl rfl (Sub.refl _) rfl (Sub.old fun _ h => h) eltE (by intro d hd; cases hd; decide) (hGb w0) (evs_one _) (by rw [evs_len]; simp [flat]; omega) ?_
    repeat (refine Plan.assign rfl rfl rfl rfl ?_)
    exact J.ret (Nrm.ret1 rfl (fun _ h => h) rfl fun B hB => by first | exact Sub.refl _ | exact Sub.own | exact Sub.old (fun _ h => h) | exact Sub.oldOwn (fun _ h => h) | exact Sub.nilRow | exact Sub.ownLower hB | exact Sub.nilOwn (fun _ h => Nat.le_trans hB h.size))
theorem log_Snapshot (γ β : Nat) (m : LogV) (f : Nat) : SpcR Try.prog 14 [.ex (ptr γ)] (logC γ β m f) fun _ => .tup [.ex (str m.s), .ex (.bool m.b)] := by
  refine SpcR.intro Try.func14 rfl (Nat.le_of_ble_eq_true rfl) fun w0 => ?_
  have hI := hIb w0
  refine J.exC (key := 1000) (q := 0) rfl rfl fun x => ?_
  refine J.sepC (key := 1000) (q := 0) rfl rfl ?_
  repeat (first | refine Plan.move rfl rfl rfl rfl ?_ | refine Plan.assign rfl rfl rfl rfl ?_ | refine Plan.nilOk rfl rfl rfl rfl ?_ | refine Plan.fieldC rfl rfl rfl rfl (by first | exact Try.underlying74 | exact Try.underlying55) rfl (by kernel_rfl) (by first | exact (rfl : _ = 1) | exact (rfl : _ = 2)) ?_ | refine Plan.loadC (key := 1000) (q := 0) rfl rfl rfl rfl rfl rfl (obj_reads1 rfl) (by first | exact Try.underlying3 | exact Try.underlying9 | exact Try.underlying4) (by rfl) (by decide) ?_ | refine Plan.eqlPtr rfl rfl rfl rfl (by kernel_rfl) ?_ | refine J.seq (J.region mixed hI (by kernel_rfl) ?_) | refine J.seq (J.seq (J.region mixed hI (by kernel_rfl) ?_)) | refine J.condF rfl ?_ | refine J.skip ?_)
  exact J.ret (Nrm.ret2 rfl (fun _ h => h) fun B _ => ⟨_, rfl, Ress.cons rfl (Sub.refl _) (Ress.cons rfl (Sub.refl _) Ress.nil)⟩)
theorem log_Fast (γ β : Nat) (m : LogV) (f : Nat) : SpcR Try.prog 22 [.ex (ptr γ)] (logC γ β m f) fun _ => .ex (vi f) := by
  refine SpcR.intro Try.func22 rfl (Nat.le_of_ble_eq_true rfl) fun w0 => ?_
  have hI := hIb w0
  refine J.exC (key := 1000) (q := 0) rfl rfl fun x => ?_
  refine J.sepC (key := 1000) (q := 0) rfl rfl ?_
  repeat (first | refine Plan.move rfl rfl rfl rfl ?_ | refine Plan.assign rfl rfl rfl rfl ?_ | refine Plan.nilOk rfl rfl rfl rfl ?_ | refine Plan.fieldC rfl rfl rfl rfl (by first | exact Try.underlying74 | exact Try.underlying55) rfl (by kernel_rfl) (by exact (rfl : _ = 4)) ?_ | refine Plan.loadC (key := 1000) (q := 0) rfl rfl rfl rfl rfl rfl (obj_reads1 rfl) (by exact Try.underlying3) (by rfl) (by decide) ?_ | refine Plan.eqlPtr rfl rfl rfl rfl (by kernel_rfl) ?_ | refine J.seq (J.region mixed hI (by kernel_rfl) ?_) | refine J.seq (J.seq (J.region mixed hI (by kernel_rfl) ?_)) | refine J.condF rfl ?_ | refine J.skip ?_)
  exact J.ret (Nrm.ret1 rfl (fun _ h => h) rfl fun B _ => Sub.refl _)
theorem log_Events (γ β : Nat) (m : LogV) (f : Nat) (hl : m.l.length ≤ 1000000) : SpcR Try.prog 16 [.ex (ptr γ)] (logC γ β m f) fun B => own B 48 26 (evsC m.l) := by
  refine SpcR.intro Try.func16 rfl (Nat.le_of_ble_eq_true rfl) fun w0 => ?_
  have hI := hIb w0
  refine J.exC (key := 1000) (q := 0) rfl rfl fun x => ?_
  refine J.sepC (key := 1000) (q := 0) rfl rfl ?_
  repeat (first | refine Plan.move rfl rfl rfl rfl ?_ | refine Plan.assign rfl rfl rfl rfl ?_ | refine J.seq (J.region mixed hI (by kernel_rfl) ?_) | refine J.seq (J.seq (J.region mixed hI (by kernel_rfl) ?_)))
  refine Plan.eqlPtr rfl rfl rfl rfl (by kernel_rfl) ?_
  repeat (first | refine Plan.move rfl rfl rfl rfl ?_ | refine J.seq (J.region mixed hI (by kernel_rfl) ?_) | refine J.condF rfl ?_ | refine J.skip ?_)
  refine Plan.nilOk rfl rfl rfl rfl ?_
  refine Plan.fieldC rfl rfl rfl rfl (by exact Try.underlying55) rfl (by kernel_rfl) rfl ?_
  refine Plan.loadRowC (key := 1000) (q := 0) (q2 := 1) rfl rfl rfl rfl rfl rfl (obj_reads1 rfl) rfl (by exact Try.underlying35) (by rfl) (by decide) ?_
  refine Plan.call (B := w0.heap.size) rfl rfl rfl (evs_Clone m.l hl) Try.func37 rfl rfl (hBb w0) (by repeat (first | exact Opnds.nil | refine Opnds.cons rfl (by exact Sub.refl _) ?_)) ?_
  repeat (refine Plan.assign rfl rfl rfl rfl ?_)
  exact J.ret (Nrm.ret1 rfl (fun _ h => h) rfl fun B hB => by first | exact Sub.refl _ | exact Sub.own | exact Sub.old (fun _ h => h) | exact Sub.oldOwn (fun _ h => h) | exact Sub.nilRow | exact Sub.ownLower hB | exact Sub.nilOwn (fun _ h => Nat.le_trans hB h.size))
theorem log_Sync (γ β : Nat) (m : LogV) (f : Nat) (l : List UInt8) (df r : Nat) (hl : m.l.length ≤ 1000000) : SpcC Try.prog 20 [.ex (ptr γ)] (allC [logC γ β m f, diskC β l df r]) (fun _ : Unit => True) (fun _ => Fa.any)
    (fun _ => allC [logC γ β m m.l.length, diskC β l l.length r]) := by
  refine SpcC.intro Try.func20 rfl (Nat.le_of_ble_eq_true rfl) fun w0 F => ?_
  have hI := kept_below F w0
  have hA := Own.kept F w0
  refine J.open1 (key := 1000) rfl ?_
  refine J.exC (key := 1000) (q := 0) rfl rfl fun x => ?_
  refine J.sepC (key := 1000) (q := 0) rfl rfl ?_
  repeat (first | refine Plan.move rfl rfl rfl rfl ?_ | refine Plan.nilOk rfl rfl rfl rfl ?_ | refine Plan.fieldC rfl rfl rfl rfl (by first | exact Try.underlying74 | exact Try.underlying55) rfl (by kernel_rfl) (by exact (rfl : _ = 0)) ?_ | refine Plan.loadC (key := 1000) (q := 0) rfl rfl rfl rfl rfl rfl (obj_reads1 rfl) (by first | exact Try.underlying3 | exact Try.underlying23) (by rfl) (by decide) ?_ | refine Plan.neqPtr rfl rfl rfl rfl (by kernel_rfl) ?_ | refine J.seq (J.region mixed hI (by kernel_rfl) ?_) | refine J.condT rfl ?_)
  refine Plan.callC (key := 1000) (q := 1) rfl rfl rfl (disk_Sync β l df r) Try.func33 rfl rfl (by intro _ e; cases e; decide) (by repeat (first | exact Opnds.nil | refine Opnds.cons rfl (by exact Sub.refl _) ?_)) rfl hA rfl ?_
  intro _ _
  repeat (first | refine Plan.move rfl rfl rfl rfl ?_ | refine Plan.nilOk rfl rfl rfl rfl ?_ | refine Plan.fieldC rfl rfl rfl rfl (by first | exact Try.underlying74 | exact Try.underlying55) rfl (by kernel_rfl) (by exact (rfl : _ = 3)) ?_ | refine Plan.loadC (key := 1000) (q := 0) rfl rfl rfl rfl rfl rfl (obj_reads1 rfl) (by first | exact Try.underlying3 | exact Try.underlying35) (by rfl) (by decide) ?_ | refine J.region mixed hI (by kernel_rfl) ?_)
  refine Plan.lenE rfl rfl rfl rfl Try.underlying35 ?_
  repeat (first | refine Plan.nilOk rfl rfl rfl rfl ?_ | refine Plan.fieldC rfl rfl rfl rfl (by first | exact Try.underlying74 | exact Try.underlying55) rfl (by kernel_rfl) (by exact (rfl : _ = 4)) ?_)
  refine Plan.storeC (key := 1000) (q := 0) rfl rfl rfl rfl rfl rfl (by simp [Value.cells, Value.oneCell', str]) (by kernel_rfl) rfl hA rfl (obj_pat1 (Nat.le_of_ble_eq_true rfl)) ?_
  repeat (fail)
  exact Nrm.retC0 (key := 1000) () rfl rfl rfl trivial (log_disk (cap := x.2) (B := x.1)) (.inl rfl)
theorem framed_fn (e : EvV) (h : e.okV) : Spc Try.prog 39 [.ex (aggE e)] fun B => .tup [ownB B (if rightP e then fPut (0 :: encB e) else []), .ex (vi (if rightP e then 0 else 1))] := by
  refine Spc.intro Try.func39 rfl (Nat.le_of_ble_eq_true rfl) fun w0 => ?_
  have hI := hIb w0
  have hA := Own.below w0
  refine J.heap0 1000 (newB w0) ?_
  repeat (refine J.seq (J.region mixed hI (by kernel_rfl) ?_))
  refine Plan.boxC (key := 1000) rfl rfl rfl (by intro _ e; cases e; decide) rfl rfl hA fun α => ?_
  repeat (first | refine Plan.assign rfl rfl rfl rfl ?_ | refine J.seq (J.region mixed hI (by kernel_rfl) ?_))
  refine Plan.loadAggC (key := 1000) (q := 0) (vs := e.enc) rfl rfl rfl rfl rfl rfl obj_whole Try.underlying48 rfl (by rw [encE]; kernel_rfl) (by decide) ?_
  by_cases hr : rightP e
  · have hle := encB_le hr
    have hp := frame_Put (0 :: encB e) (by simp only [List.length_cons]; omega)
    rw [if_neg (by simp only [List.length_cons]; omega), if_neg (by simp only [List.length_cons]; omega)] at hp
    rw [if_pos hr, if_pos hr]
    refine Plan.call (B := w0.heap.size) rfl rfl rfl (encode_yes e h hr) Try.func54 rfl rfl (hBb w0) (by repeat (first | exact Opnds.nil | refine Opnds.cons rfl (by exact Sub.refl _) ?_)) ?_
    repeat (first | refine Plan.move rfl rfl rfl rfl ?_ | refine Plan.assign rfl rfl rfl rfl ?_ | refine Plan.extract rfl rfl rfl rfl rfl ?_ | (refine Plan.ints rfl rfl rfl rfl rfl rfl ?_; (skip)) | refine J.seq (J.region mixed hI (by kernel_rfl) ?_) | refine J.seq (J.seq (J.region mixed hI (by kernel_rfl) ?_)) | refine J.condF rfl ?_ | refine J.skip ?_)
    refine Plan.lit (B := w0.heap.size) (vs := [.int .u8 0]) rfl rfl rfl eltB rfl (hBb w0) rfl (by simp [Value.cells]) (by decide) ?_
    repeat (refine Plan.move rfl rfl rfl rfl ?_)
    refine Plan.append (news := bs (encB e)) rfl rfl rfl rfl (Sub.refl _) rfl Sub.own eltB (by intro d hd; cases hd; decide) (hGb w0) (bs_one _) (by simp [bs, flat, Value.cells]; omega) ?_
    have hb : flat [Value.int .u8 0] ++ bs (encB e) = bs (0 :: encB e) := rfl
    rw [hb]
    refine Plan.call (B := w0.heap.size) rfl rfl rfl (hp) Try.func38 rfl rfl (hBb w0) (by repeat (first | exact Opnds.nil | refine Opnds.cons rfl (by exact Sub.own) ?_)) ?_
    repeat (first | refine Plan.assign rfl rfl rfl rfl ?_ | refine Plan.extract rfl rfl rfl rfl rfl ?_)
    exact J.ret (Nrm.ret2 rfl (fun _ h => h) fun B hB => ⟨_, rfl, Ress.cons rfl (by exact Sub.ownLower hB) (Ress.cons rfl (by exact Sub.refl _) Ress.nil)⟩)
  · rw [if_neg hr, if_neg hr]
    refine Plan.call (B := w0.heap.size) rfl rfl rfl (encode_no e h hr) Try.func54 rfl rfl (hBb w0) (by repeat (first | exact Opnds.nil | refine Opnds.cons rfl (by exact Sub.refl _) ?_)) ?_
    repeat (first | refine Plan.move rfl rfl rfl rfl ?_ | refine Plan.assign rfl rfl rfl rfl ?_ | refine Plan.extract rfl rfl rfl rfl rfl ?_ | (refine Plan.ints rfl rfl rfl rfl rfl rfl ?_; (skip)) | refine J.seq (J.region mixed hI (by kernel_rfl) ?_) | refine J.seq (J.seq (J.region mixed hI (by kernel_rfl) ?_)) | refine J.condT rfl ?_)
    exact J.ret (Nrm.ret2 rfl (fun _ h => h) fun B hB => ⟨_, rfl, Ress.cons rfl (by exact Sub.nilOwn (fun _ h => Nat.le_trans hB h.size)) (Ress.cons rfl (by exact Sub.refl _) Ress.nil)⟩)
end Go.Proofs.Ytepgphflnelpoaa
end

section
set_option linter.unusedSimpArgs false
set_option linter.unusedVariables false
set_option maxRecDepth 20000
namespace Go.Proofs.Ytepgphflnelpoaa
open Go.Free Go.RowKit Go.Proofs
set_option maxHeartbeats 4000000

theorem evs_snoc (L : List EvV) (e : EvV) : evsC L ++ e.enc = evsC (L ++ [e]) := by simp [evsC]
theorem takes_fn (γ β : Nat) (m : LogV) (f : Nat) (b : List UInt8) (ini : Bool) (hl : m.l.length ≤ 1000000) (hb : b.length ≤ 140737488300000) :
    SpcC Try.prog 35 [.ex (ptr γ), bytesF b, .ex (.bool ini)] (logC γ β m f) (fun _ : Unit => True) (fun _ => .ex (.bool (takeM m b ini).isSome)) (fun _ => logC γ β ((takeM m b ini).getD m) f) := by
  refine SpcC.intro Try.func35 rfl (Nat.le_of_ble_eq_true rfl) fun w0 F => ?_
  have hI := kept_below F w0
  have hA := Own.kept F w0
  cases b with
  | nil =>
    show J _ _ _ _ _ _
    have hn : takeM m [] ini = none := rfl
    rw [hn]
    repeat (first | refine Plan.assign rfl rfl rfl rfl ?_ | refine J.seq (J.region mixed hI (by kernel_rfl) ?_))
    refine J.seq (J.block ?_)
    repeat (first | refine Plan.move rfl rfl rfl rfl ?_ | refine Plan.assign rfl rfl rfl rfl ?_ | refine Plan.skip rfl rfl ?_ | refine Plan.pick rfl rfl rfl rfl rfl ?_ | (refine Plan.ints rfl rfl rfl rfl rfl rfl ?_; (skip)) | refine Plan.lenB rfl rfl rfl rfl (by exact Sub.refl _) Try.underlying27 ?_ | refine J.seq (J.region mixed hI (by kernel_rfl) ?_) | refine J.condF rfl ?_ | refine J.skip ?_)
    refine Plan.boolv (y := false) (by simp) ?_
    repeat (fail)
    refine Plan.boolv (y := false) (by simp) ?_
    repeat (fail)
    exact J.ret (Nrm.retC1 (key := 1000) () rfl rfl rfl trivial (Sub.refl _) Ent.one)
  | cons y r =>
    have hne : ∀ z : UInt8, ¬ y = z → ¬ ((y.toNat : Int) = (z.toNat : Int)) := fun z h e => h (UInt8.toNat_inj.1 (by omega))
    repeat (first | refine Plan.assign rfl rfl rfl rfl ?_ | refine J.seq (J.region mixed hI (by kernel_rfl) ?_))
    refine J.seq (J.block ?_)
    repeat (first | refine Plan.move rfl rfl rfl rfl ?_ | (refine Plan.ints rfl rfl rfl rfl rfl rfl ?_; (skip)) | refine Plan.lenB rfl rfl rfl rfl (by exact Sub.refl _) Try.underlying27 ?_ | refine J.seq (J.region mixed hI (by kernel_rfl) ?_))
    refine Plan.boolv (y := true) (by simp) ?_
    repeat (refine Plan.move rfl rfl rfl rfl ?_)
    refine Plan.indexB (l := y :: r) (q := 0) rfl rfl rfl rfl (Sub.refl _) rfl eltB (by simp) ?_
    refine Plan.load rfl rfl rfl rfl (Sub.refl _) Try.underlying5 rfl ?_
    have hg : (y :: r).getD 0 0 = y := rfl
    rw [hg]
    repeat (first | refine Plan.move rfl rfl rfl rfl ?_ | refine Plan.pick rfl rfl rfl rfl rfl ?_ | (refine Plan.ints rfl rfl rfl rfl rfl rfl ?_; (skip)))
    by_cases h1 : y = 1
    · subst h1
      refine Plan.boolv (y := true) (by decide) ?_
      cases ini with
      | true =>
        have hn : takeM m (1 :: r) true = some ⟨r, true, m.l⟩ := rfl
        rw [hn]
        repeat (first | refine Plan.move rfl rfl rfl rfl ?_ | refine Plan.assign rfl rfl rfl rfl ?_ | refine Plan.pick rfl rfl rfl rfl rfl ?_ | refine J.seq (J.region mixed hI (by kernel_rfl) ?_) | refine J.condT rfl ?_)
        refine Plan.sliceB (l := 1 :: r) (a0 := 1) (b0 := (1 :: r).length) rfl rfl rfl rfl (Sub.refl _) eltB (.inr ⟨_, _, rfl, rfl⟩) (.inl ⟨rfl, rfl⟩) (by simp) (Nat.le_refl _) ?_
        have hs : ((1 :: r).take (1 :: r).length).drop 1 = r := by rw [List.take_length]; rfl
        rw [hs]
        refine Plan.convBS (p := r) rfl rfl rfl rfl (Sub.refl _) Try.underlying27 Try.underlying9 Try.underlying5 ?_
        repeat (first | refine Plan.nilOk rfl rfl rfl rfl ?_ | refine Plan.fieldC rfl rfl rfl rfl (by first | exact Try.underlying74 | exact Try.underlying55) rfl (by kernel_rfl) (by exact (rfl : _ = 1)) ?_)
        refine Plan.exC (by kernel_rfl) hI (key := 1000) (q := 0) rfl rfl fun x => ?_
        refine Plan.sepC (by kernel_rfl) hI (key := 1000) (q := 0) rfl rfl ?_
        repeat (fail)
        refine Plan.storeC (key := 1000) (q := 0) rfl rfl rfl rfl rfl rfl (by simp [Value.cells, Value.oneCell', str]) (by kernel_rfl) rfl hA rfl (obj_pat1 (Nat.le_of_ble_eq_true rfl)) ?_
        repeat (first | refine Plan.nilOk rfl rfl rfl rfl ?_ | refine Plan.fieldC rfl rfl rfl rfl (by first | exact Try.underlying74 | exact Try.underlying55) rfl (by kernel_rfl) (by exact (rfl : _ = 2)) ?_)
        refine Plan.storeC (key := 1000) (q := 0) rfl rfl rfl rfl rfl rfl (by simp [Value.cells, Value.oneCell', str]) (by kernel_rfl) rfl hA rfl (obj_pat1 (Nat.le_of_ble_eq_true rfl)) ?_
        repeat (first | refine Plan.assign rfl rfl rfl rfl ?_ | refine J.seq (J.region mixed hI (by kernel_rfl) ?_))
        exact J.ret (Nrm.retC1 (key := 1000) () rfl rfl rfl trivial (Sub.refl _) (log_close (m := ⟨r, true, m.l⟩) (B := x.1) (cap := x.2)))
      | false =>
        have hn : takeM m (1 :: r) false = none := by simp [takeM]
        rw [hn]
        repeat (first | refine Plan.move rfl rfl rfl rfl ?_ | refine Plan.assign rfl rfl rfl rfl ?_ | refine Plan.pick rfl rfl rfl rfl rfl ?_ | (refine Plan.ints rfl rfl rfl rfl rfl rfl ?_; (skip)) | refine Plan.lenB rfl rfl rfl rfl (by exact Sub.refl _) Try.underlying27 ?_ | refine J.seq (J.region mixed hI (by kernel_rfl) ?_) | refine J.condF rfl ?_)
        refine Plan.boolv (y := true) (by simp) ?_
        repeat (refine Plan.move rfl rfl rfl rfl ?_)
        refine Plan.indexB (l := 1 :: r) (q := 0) rfl rfl rfl rfl (Sub.refl _) rfl eltB (by simp) ?_
        refine Plan.load rfl rfl rfl rfl (Sub.refl _) Try.underlying5 rfl ?_
        rw [hg]
        repeat (first | refine Plan.assign rfl rfl rfl rfl ?_ | refine Plan.pick rfl rfl rfl rfl rfl ?_ | (refine Plan.ints rfl rfl rfl rfl rfl rfl ?_; (skip)) | refine J.seq (J.region mixed hI (by kernel_rfl) ?_) | refine J.condF rfl ?_ | refine J.skip ?_)
        refine Plan.boolv (y := false) (by decide) ?_
        repeat (fail)
        exact J.ret (Nrm.retC1 (key := 1000) () rfl rfl rfl trivial (Sub.refl _) Ent.one)
    · refine Plan.boolv (y := false) (decide_eq_false (hne 1 h1)) ?_
      repeat (first | refine Plan.move rfl rfl rfl rfl ?_ | refine Plan.assign rfl rfl rfl rfl ?_ | refine Plan.skip rfl rfl ?_ | refine Plan.pick rfl rfl rfl rfl rfl ?_ | (refine Plan.ints rfl rfl rfl rfl rfl rfl ?_; (skip)) | refine Plan.lenB rfl rfl rfl rfl (by exact Sub.refl _) Try.underlying27 ?_ | refine J.seq (J.region mixed hI (by kernel_rfl) ?_) | refine J.condF rfl ?_)
      refine Plan.boolv (y := true) (by simp) ?_
      repeat (refine Plan.move rfl rfl rfl rfl ?_)
      refine Plan.indexB (l := y :: r) (q := 0) rfl rfl rfl rfl (Sub.refl _) rfl eltB (by simp) ?_
      refine Plan.load rfl rfl rfl rfl (Sub.refl _) Try.underlying5 rfl ?_
      rw [hg]
      by_cases h0 : y = 0
      · subst h0
        have k1 := decode_fn r (by simp only [List.length_cons] at hb; omega)
        have hn : takeM m (0 :: r) ini = if decE r = 0 then some ⟨m.s, m.b, m.l ++ [decR r]⟩ else none := by simp [takeM]
        rw [hn]
        clear hn
        generalize decR r = V at *
        generalize decE r = er at *
        repeat (first | refine Plan.move rfl rfl rfl rfl ?_ | refine Plan.assign rfl rfl rfl rfl ?_ | refine Plan.pick rfl rfl rfl rfl rfl ?_ | (refine Plan.ints rfl rfl rfl rfl rfl rfl ?_; (skip)) | refine J.seq (J.region mixed hI (by kernel_rfl) ?_) | refine J.condT rfl ?_)
        refine Plan.sliceB (l := 0 :: r) (a0 := 1) (b0 := (0 :: r).length) rfl rfl rfl rfl (Sub.refl _) eltB (.inr ⟨_, _, rfl, rfl⟩) (.inl ⟨rfl, rfl⟩) (by simp) (Nat.le_refl _) ?_
        have hs : ((0 :: r).take (0 :: r).length).drop 1 = r := by rw [List.take_length]; rfl
        rw [hs]
        refine Plan.call (B := 0) rfl rfl rfl (k1) Try.func52 rfl rfl (fun _ _ => Nat.zero_le _) (by repeat (first | exact Opnds.nil | refine Opnds.cons rfl (by exact Sub.refl _) ?_)) ?_
        repeat (first | refine Plan.move rfl rfl rfl rfl ?_ | refine Plan.extract rfl rfl rfl rfl rfl ?_)
        refine Plan.allocC (key := 1000) (z := .agg ev0.enc.toArray) rfl rfl rfl (by intro _ e; cases e; decide) (by kernel_rfl) rfl hA fun ξ => ?_
        refine Plan.storeC (key := 1000) (q := 1) (off := 0) rfl rfl rfl rfl rfl rfl (encE_one V) (by show _ = some V.enc.toArray.size; kernel_rfl) rfl hA rfl (obj_pat (Nat.le_of_ble_eq_true rfl)) ?_
        repeat (first | refine Plan.move rfl rfl rfl rfl ?_ | refine Plan.assign rfl rfl rfl rfl ?_ | (refine Plan.ints rfl rfl rfl rfl rfl rfl ?_; (skip)) | refine J.seq (J.seq (J.region mixed hI (by kernel_rfl) ?_)))
        refine J.condE rfl (fun hd => ?_) (fun hd => ?_)
        · have hd' : er = 0 := by omega
          rw [if_pos hd']
          refine J.exC (key := 1000) (q := 0) rfl rfl fun x => ?_
          refine J.sepC (key := 1000) (q := 0) rfl rfl ?_
          refine J.loose2 [(0, ptr γ)] [(0, .ex (ptr γ))] mixed hI rfl rfl rfl (by kernel_rfl) (by kernel_rfl) (by kernel_rfl) rfl rfl (fun ⟨_, _, h⟩ => h) (fun _ _ _ _ h => h) (by repeat (first | exact Weak.nil | refine Weak.cons rfl (Sub.refl _) ?_)) ?_ ?_
          · exact Gives.cons [(0, .ex (ptr γ))] (by kernel_rfl) rfl (by kernel_rfl) (Plan.move rfl rfl rfl rfl (Plan.gives rfl)) Gives.nil
          repeat (first | refine Plan.move rfl rfl rfl rfl ?_ | refine Plan.assign rfl rfl rfl rfl ?_ | refine Plan.nilOk rfl rfl rfl rfl ?_ | refine Plan.fieldC rfl rfl rfl rfl (by first | exact Try.underlying74 | exact Try.underlying55) rfl (by kernel_rfl) (by exact (rfl : _ = 3)) ?_ | refine Plan.loadC (key := 1000) (q := 0) rfl rfl rfl rfl rfl rfl (obj_reads1 rfl) (by exact Try.underlying35) (by rfl) (by decide) ?_)
          refine Plan.loadAggC (key := 1000) (q := 1) (vs := V.enc) rfl rfl rfl rfl rfl rfl obj_whole Try.underlying48 rfl (by rw [encE]; kernel_rfl) (by decide) ?_
          refine Plan.lit (B := 0) rfl rfl rfl eltE rfl (fun _ _ => Nat.zero_le _) rfl (fun v hv => by rw [List.mem_singleton.1 hv]; rfl) (by decide) ?_
          refine Plan.appendC (key := 1000) (q := 2) (news := V.enc) rfl rfl rfl rfl rfl Sub.own eltE (by intro _ e; cases e; decide) rfl hA rfl (encE_one V) (by rw [evs_len, encE]; omega) fun B1 m1 c1 hm1 => ?_
          obtain rfl : m1 = (m.l ++ [V]).length := by rw [evs_len, encE] at hm1; simp only [List.length_append, List.length_cons, List.length_nil]; omega
          rw [evs_snoc]
          repeat (first | refine Plan.nilOk rfl rfl rfl rfl ?_ | refine Plan.fieldC rfl rfl rfl rfl (by first | exact Try.underlying74 | exact Try.underlying55) rfl (by kernel_rfl) (by exact (rfl : _ = 3)) ?_)
          refine Plan.storeC (key := 1000) (q := 0) rfl rfl rfl rfl rfl rfl (by simp [Value.cells, Value.oneCell', str]) (by kernel_rfl) rfl hA rfl (obj_pat1 (Nat.le_of_ble_eq_true rfl)) ?_
          repeat (first | refine Plan.move rfl rfl rfl rfl ?_ | refine Plan.assign rfl rfl rfl rfl ?_ | (refine Plan.ints rfl rfl rfl rfl rfl rfl ?_; (skip)) | refine J.seq (J.region mixed hI (by kernel_rfl) ?_))
          refine Plan.boolv (y := true) (by simp [hd']) ?_
          repeat (fail)
          exact J.ret (Nrm.retC1 (key := 1000) () rfl rfl rfl trivial (Sub.refl _) ((Ent.pickC (H' := [obj γ [ptr β, str m.s, .bool m.b, .slice B1 (m.l ++ [V]).length c1, vi f], rowEv B1 (m.l ++ [V]).length c1 (evsC (m.l ++ [V]))]) [0, 2] rfl rfl).trans (log_close (m := ⟨m.s, m.b, m.l ++ [V]⟩) (B := B1) (cap := c1))))
        · have hd' : ¬ er = 0 := by omega
          rw [if_neg hd']
          repeat (first | refine Plan.move rfl rfl rfl rfl ?_ | refine Plan.assign rfl rfl rfl rfl ?_ | (refine Plan.ints rfl rfl rfl rfl rfl rfl ?_; (skip)) | refine J.seq (J.region mixed hI (by kernel_rfl) ?_) | refine J.skip ?_)
          refine Plan.boolv (y := false) (by simp [hd']) ?_
          repeat (fail)
          exact J.ret (Nrm.retC1 (key := 1000) () rfl rfl rfl trivial (Sub.refl _) Ent.left)
      · have hn : takeM m (y :: r) ini = none := by simp [takeM, h0, h1]
        rw [hn]
        repeat (first | refine Plan.assign rfl rfl rfl rfl ?_ | refine Plan.pick rfl rfl rfl rfl rfl ?_ | (refine Plan.ints rfl rfl rfl rfl rfl rfl ?_; (skip)))
        refine Plan.boolv (y := false) (decide_eq_false (hne 0 h0)) ?_
        repeat (first | refine Plan.assign rfl rfl rfl rfl ?_ | refine J.seq (J.region mixed hI (by kernel_rfl) ?_) | refine J.condF rfl ?_ | refine J.skip ?_)
        exact J.ret (Nrm.retC1 (key := 1000) () rfl rfl rfl trivial (Sub.refl _) Ent.one)
end Go.Proofs.Ytepgphflnelpoaa
end

section
set_option linter.unusedSimpArgs false
set_option linter.unusedVariables false
set_option maxRecDepth 20000
namespace Go.Proofs.Ytepgphflnelpoaa
open Go.Free Go.RowKit Go.Proofs
set_option maxHeartbeats 4000000

theorem take_len {m m' : LogV} {b : List UInt8} {f : Bool} (h : takeM m b f = some m') : m'.l.length ≤ m.l.length + 1 := by
  cases b with
  | nil => cases h
  | cons x r =>
    unfold takeM at h
    simp only at h
    split at h
    · cases h; exact Nat.le_add_right _ _
    · split at h
      · cases h; simp
      · cases h
theorem takes_len : ∀ (bs : List (List UInt8)) (f : Bool) (m : LogV) (p : Nat), (takesM bs f m p).1.l.length ≤ m.l.length + bs.length
  | [], f, m, p => Nat.le_refl _
  | b :: r, f, m, p => by
    cases h : takeM m b f with
    | none => rw [takes_none h]; exact Nat.le_add_right _ _
    | some m' =>
      rw [takes_some h]
      have h1 := takes_len r false m' (p + b.length + 6)
      have h2 := take_len h
      rw [List.length_cons]; omega
theorem scan_few (l : List UInt8) : (scanL l 0).1.length ≤ l.length := by
  have := scanL_le l l.length 0 rfl (Nat.zero_le _); omega
theorem open_len (l : List UInt8) : (openM l).1.l.length ≤ l.length := by
  have h1 := takes_len (scanL l 0).1 true log0 0
  have h2 := scan_few l
  have h3 : log0.l.length = 0 := rfl
  unfold openM; omega
def opD (F : Nat → Prop) (w0 w1 : World) (B : Nat) (b : Nat) : Prop := ((F b ∨ w0.heap.size ≤ b) ∧ b < B) ∨ w1.heap.size ≤ b
def opE (F : Nat → Prop) (w0 w1 : World) (B β γ : Nat) (l : List UInt8) (f r : Nat) (bs : List (List UInt8)) (s : Nat × LogV × Nat) : Env :=
  [(0, .ex (ptr β)), (4, .ex (ptr γ)), (5, .old w1 (ownB B l)), (9, .ex (vi s.2.2)), (25, .old w1 (nestB B bs)), (26, .ex (vi bs.length)), (27, .ex (vi s.1)),
   (1000, heap (opD F w0 w1 B) [diskC β l f r, logC γ β s.2.1 0])]
def opN (F : Nat → Prop) (w0 w1 : World) (B β γ : Nat) (l : List UInt8) (f r : Nat) (m : LogV) (p : Nat) : Env :=
  [(0, .ex (ptr β)), (4, .ex (ptr γ)), (5, .old w1 (ownB B l)), (9, .ex (vi p)), (1000, heap (opD F w0 w1 B) [diskC β l f r, logC γ β m 0])]
theorem open_fn (β : Nat) (l : List UInt8) (f r : Nat) (hl : l.length ≤ 65536) :
    SpcC Try.prog 12 [.ex (ptr β)] (diskC β l f r) (fun _ : Nat => True) (fun γ => .tup [.ex (ptr γ), .ex (vi 0)])
      (fun γ => allC [logC γ β (openM l).1 (openM l).1.l.length, diskC β (l.take (openM l).2) (if (openM l).2 < l.length then (openM l).2 else f) r]) := by
  have hag := (open_again l).1
  have hol := open_len l
  have hfew := scan_few l
  obtain ⟨hb1, hb2, t, hb3⟩ := scan_is l l.length 0 rfl (Nat.zero_le _)
  rw [List.drop_zero] at hb3
  have hbl : (frames (scanL l 0).1).length ≤ l.length := by have := congrArg List.length hb3; rw [List.length_append] at this; omega
  have hop : takesM (scanL l 0).1 true log0 0 = openM l := rfl
  have hscan := frame_Scan l (by omega)
  generalize scanL l 0 = sc at *
  obtain ⟨bs, se⟩ := sc
  dsimp only at *
  refine SpcC.intro Try.func12 rfl (Nat.le_of_ble_eq_true rfl) fun w0 F => ?_
  have hI := kept_below F w0
  have hA := Own.kept F w0
  repeat (first | refine Plan.move rfl rfl rfl rfl ?_ | refine Plan.assign rfl rfl rfl rfl ?_ | refine Plan.eqlPtr rfl rfl rfl rfl (by kernel_rfl) ?_ | refine J.seq (J.region mixed hI (by kernel_rfl) ?_) | refine J.seq (J.seq (J.region mixed hI (by kernel_rfl) ?_)) | refine J.condF rfl ?_ | refine J.skip ?_)
  refine Plan.build rfl rfl rfl (Parts.cons rfl Parts.nil) (cells := #[ptr β, str [], .bool false, .slice none 0 0, vi 0]) (by kernel_rfl) ?_
  refine Plan.boxC (key := 1000) rfl rfl rfl (by intro _ e; cases e; decide) rfl rfl hA fun γ => ?_
  repeat (refine Plan.assign rfl rfl rfl rfl ?_)
  refine J.nilRow (key := 1000) 48 26 rfl ?_
  refine J.regroup (key := 1000) [diskC β l f r, logC γ β log0 0] rfl (Ent.sep (Ent.refl _) ((log_close (m := log0) (B := none) (cap := 0)).trans Ent.addEmp)) ?_
  refine J.fresh (key := 1000) rfl hA fun B hBA => ?_
  have hI := hFresh (B := B) (kept_below F w0)
  have hA := own_fresh (B := B) (Own.kept F w0)
  repeat (first | refine Plan.move rfl rfl rfl rfl ?_ | refine J.seq (J.region mixed hI (by kernel_rfl) ?_))
  refine Plan.callR (key := 1000) (B := B) (q := 0) rfl rfl rfl (disk_Bytes β l f r hl) Try.func13 rfl rfl (fun _ h => h.2) (by repeat (first | exact Opnds.nil | refine Opnds.cons rfl (by exact Sub.refl _) ?_)) rfl rfl (by decide) ?_
  repeat (first | refine Plan.move rfl rfl rfl rfl ?_ | refine Plan.assign rfl rfl rfl rfl ?_ | refine J.seq (J.region mixed hI (by kernel_rfl) ?_))
  refine Plan.call (B := B) rfl rfl rfl hscan Try.func34 rfl rfl (fun _ h => h.2) (by repeat (first | exact Opnds.nil | refine Opnds.cons rfl (by exact Sub.own) ?_)) ?_
  repeat (first | refine Plan.move rfl rfl rfl rfl ?_ | refine Plan.assign rfl rfl rfl rfl ?_ | refine Plan.extract rfl rfl rfl rfl rfl ?_)
  refine J.since (key := 1000) (B := B) (A := fun b => F b ∨ w0.heap.size ≤ b) rfl hA fun w1 hw1 h1A => ?_
  have hI2 := since_I (G := fun b => (F b ∨ w0.heap.size ≤ b) ∧ b < B) (w1 := w1) hI
  have hA2 := since_own (G := fun b => (F b ∨ w0.heap.size ≤ b) ∧ b < B) (w1 := w1) hA (fun b hb => hb.1) h1A
  have hGB : ∀ b, (F b ∨ w0.heap.size ≤ b) ∧ b < B → b < B := fun b hb => hb.2
  have hI0 := hI
  clear hI
  have hI := hI2
  clear hA
  have hA := hA2
  refine J.seq (J.region mixed hI (by kernel_rfl) ?_)
  repeat (refine Plan.assign rfl rfl rfl rfl ?_)
  refine J.seqMid (σ := Unit) (fun _ => opN F w0 w1 B β γ l f r (openM l).1 (openM l).2) (fun _ => True) ?_ ?_
  · repeat (first | refine Plan.move rfl rfl rfl rfl ?_ | refine J.seq (J.region mixed hI (by kernel_rfl) ?_))
    refine Plan.lenNest rfl rfl rfl rfl (Sub.sinceNestR hGB) Try.underlying76 ?_
    rw [List.length_map]
    repeat (refine Plan.move rfl rfl rfl rfl ?_)
    refine J.block (J.loop (opE F w0 w1 B β γ l f r bs) (fun s => s.1 ≤ bs.length ∧ takesM (bs.drop s.1) (decide (s.1 = 0)) s.2.1 s.2.2 = openM l ∧ s.2.2 = (frames (bs.take s.1)).length ∧ s.2.1.l.length ≤ s.1) (fun s => bs.length - s.1) (0, log0, 0) ⟨Nat.zero_le _, hop, rfl, Nat.le_refl _⟩ ?_ ?_)
    · repeat (first | exact Weak.nil | refine Weak.cons rfl (Sub.refl _) ?_)
    rintro ⟨i, m, p⟩ ⟨hi, htk, hp, hml⟩
    simp only at hi htk hp hml
    change J _ _ _ _ _ (opE F w0 w1 B β γ l f r bs (i, m, p))
    repeat (first | (refine Plan.ints rfl rfl rfl rfl rfl rfl ?_; (skip)) | refine J.seq (J.region mixed hI (by kernel_rfl) ?_))
    refine J.seq (J.condD rfl (fun hc => ?_) (fun hc => ?_))
    · have hlt : i < bs.length := by
        dsimp only at hc; omega
      obtain ⟨b, hb⟩ : ∃ b, b = bs[i] := ⟨_, rfl⟩
      have hbi : bs[i]? = some b := by rw [hb]; exact List.getElem?_eq_getElem hlt
      have hdr : bs.drop i = b :: bs.drop (i + 1) := by rw [hb]; exact List.drop_eq_getElem_cons hlt
      have hbm : b ∈ bs := hb ▸ List.getElem_mem hlt
      have hb6 := hb1 b hbm
      have hti : frames (bs.take (i + 1)) = frames (bs.take i) ++ fPut b := by rw [List.take_succ_eq_append_getElem hlt, frames_append, ← hb, frames_cons]; simp [frames]
      have hpl : p + b.length + 6 ≤ l.length := by
        have h1 : frames bs = frames (bs.take (i + 1)) ++ frames (bs.drop (i + 1)) := by rw [← frames_append, List.take_append_drop]
        have h2 := congrArg List.length h1
        rw [hti, List.length_append, List.length_append, fPut_length] at h2
        omega
      repeat (refine J.skip ?_)
      refine J.seq (J.block ?_)
      repeat (first | refine Plan.move rfl rfl rfl rfl ?_ | refine J.seq (J.region mixed hI (by kernel_rfl) ?_))
      refine Plan.indexNest (q := i) (f := .old w1 (ownB B b)) rfl rfl rfl rfl (Sub.sinceNestR hGB) rfl eltBB (by rw [List.getElem?_map, hbi]; rfl) ?_
      refine Plan.loadNest rfl rfl rfl rfl (Sub.refl _) Try.underlying27 rfl ?_
      repeat (first | refine Plan.move rfl rfl rfl rfl ?_ | refine Plan.assign rfl rfl rfl rfl ?_ | (refine Plan.ints rfl rfl rfl rfl rfl rfl ?_; (skip)) | refine J.seq (J.seq (J.region mixed hI (by kernel_rfl) ?_)))
      refine Plan.boolv (y := decide (i = 0)) (decide_eq_decide.2 (by omega)) ?_
      refine Plan.callC (key := 1000) (q := 1) rfl rfl rfl (takes_fn γ β m 0 b (decide (i = 0)) (by omega) (by omega)) Try.func35 rfl rfl (by intro _ e; cases e; decide) (Opnds.cons rfl (Sub.refl _) (Opnds.cons rfl (Sub.trans (Sub.sinceOwn hGB) Sub.own) (Opnds.cons rfl (Sub.refl _) Opnds.nil))) rfl hA rfl ?_
      intro _ _
      rw [hdr] at htk
      cases htm : takeM m b (decide (i = 0)) with
      | none =>
        rw [takes_none htm] at htk
        repeat (first | refine Plan.un rfl rfl rfl rfl rfl ?_ | refine J.condT rfl ?_)
        refine J.exit ?_
        have e1 : m = (openM l).1 := congrArg Prod.fst htk
        have e2 : p = (openM l).2 := congrArg Prod.snd htk
        subst e1
        rw [e2]
        exact Nrm.mid () trivial (by repeat (first | exact Weak.nil | refine Weak.cons rfl (Sub.refl _) ?_))
      | some m' =>
        rw [takes_some htm] at htk
        have hm' := take_len htm
        repeat (first | refine Plan.move rfl rfl rfl rfl ?_ | refine Plan.un rfl rfl rfl rfl rfl ?_ | refine J.region mixed hI (by kernel_rfl) ?_ | refine J.condF rfl ?_ | refine J.skip ?_)
        refine Plan.lenB rfl rfl rfl rfl (Sub.trans (Sub.sinceOwn hGB) Sub.own) Try.underlying27 ?_
        repeat (first | refine Plan.assign rfl rfl rfl rfl ?_ | (refine Plan.ints rfl rfl rfl rfl rfl rfl ?_; (first | refine Plan.int (i64r (by omega)) ?_ | skip)))
        refine Plan.int (y := ((p + b.length + 6 : Nat) : Int)) (by dsimp only; rw [i64r (by omega)]; omega) ?_
        repeat (first | refine Plan.move rfl rfl rfl rfl ?_ | (refine Plan.ints rfl rfl rfl rfl rfl rfl ?_; (refine Plan.int (i64r (by omega)) ?_)) | refine J.region mixed hI (by kernel_rfl) ?_)
        refine Plan.int (y := ((i + 1 : Nat) : Int)) (by omega) ?_
        repeat (fail)
        refine Nrm.next (i + 1, m', p + b.length + 6) ⟨by dsimp only; omega, ?_, by dsimp only; rw [hti, List.length_append, fPut_length]; omega, by dsimp only; omega⟩ (by dsimp only; omega) (by repeat (first | exact Weak.nil | refine Weak.cons rfl (Sub.refl _) ?_))
        exact htk
    · have hie : i = bs.length := by
        dsimp only at hc; omega
      rw [hie, List.drop_length] at htk
      refine J.exit ?_
      have e1 : m = (openM l).1 := congrArg Prod.fst htk
      have e2 : p = (openM l).2 := congrArg Prod.snd htk
      subst e1
      rw [e2]
      exact Nrm.mid () trivial (by repeat (first | exact Weak.nil | refine Weak.cons rfl (Sub.refl _) ?_))
  · intro _ _
    generalize openM l = o at *
    repeat (first | refine Plan.move rfl rfl rfl rfl ?_ | refine J.seq (J.seq (J.region mixed hI (by kernel_rfl) ?_)))
    refine Plan.lenB rfl rfl rfl rfl (Sub.trans (Sub.sinceOwn hGB) Sub.own) Try.underlying27 ?_
    repeat ((refine Plan.ints rfl rfl rfl rfl rfl rfl ?_; (skip)))
    refine J.condD rfl (fun hc => ?_) (fun hc => ?_)
    · have hlt : o.2 < l.length := by omega
      have hcut := disk_Cut β l f r o.2 hl (by omega)
      rw [if_pos (by omega), if_pos (by omega), Int.toNat_natCast] at hcut
      rw [if_pos hlt]
      repeat (first | refine Plan.move rfl rfl rfl rfl ?_ | refine J.region mixed hI (by kernel_rfl) ?_)
      refine Plan.callC (key := 1000) (q := 0) rfl rfl rfl (hcut) Try.func36 rfl rfl (by intro _ e; cases e; decide) (by repeat (first | exact Opnds.nil | refine Opnds.cons rfl (by exact Sub.refl _) ?_)) rfl hA rfl ?_
      intro _ _
      repeat (fail)
      refine J.idle (I' := fun w => Kept F w0 w) (fun w h => h.1.1) ?_
      have hI := kept_below F w0
      have hA := Own.kept F w0
      refine J.widen (key := 1000) (A := fun b => F b ∨ w0.heap.size ≤ b) rfl (fun b hb => hb.elim (fun h => h.1) (h1A b)) ?_
      refine J.exC (key := 1000) (q := 1) rfl rfl fun x => ?_
      refine J.sepC (key := 1000) (q := 1) rfl rfl ?_
      repeat (first | refine Plan.move rfl rfl rfl rfl ?_ | refine Plan.nilOk rfl rfl rfl rfl ?_ | refine Plan.fieldC rfl rfl rfl rfl (by first | exact Try.underlying74 | exact Try.underlying55) rfl (by kernel_rfl) (by exact (rfl : _ = 3)) ?_ | refine Plan.loadC (key := 1000) (q := 1) rfl rfl rfl rfl rfl rfl (obj_reads1 rfl) (by first | exact Try.underlying3 | exact Try.underlying35) (by rfl) (by decide) ?_ | refine J.seq (J.region mixed hI (by kernel_rfl) ?_))
      refine Plan.lenE rfl rfl rfl rfl Try.underlying35 ?_
      repeat (first | refine Plan.nilOk rfl rfl rfl rfl ?_ | refine Plan.fieldC rfl rfl rfl rfl (by first | exact Try.underlying74 | exact Try.underlying55) rfl (by kernel_rfl) (by exact (rfl : _ = 4)) ?_)
      refine Plan.storeC (key := 1000) (q := 1) rfl rfl rfl rfl rfl rfl (by simp [Value.cells, Value.oneCell', str]) (by kernel_rfl) rfl hA rfl (obj_pat1 (Nat.le_of_ble_eq_true rfl)) ?_
      repeat (first | refine Plan.move rfl rfl rfl rfl ?_ | refine Plan.assign rfl rfl rfl rfl ?_ | refine J.seq (J.region mixed hI (by kernel_rfl) ?_))
      exact J.ret (Nrm.retC2 (key := 1000) γ rfl rfl rfl trivial (Ress.cons rfl (Sub.refl _) (Ress.cons rfl (Sub.refl _) Ress.nil)) ((Ent.pickC (H' := [obj γ [ptr β, str (o).1.s, .bool (o).1.b, .slice x.1 (o).1.l.length x.2, vi (o).1.l.length], diskC β (l.take o.2) o.2 r, rowEv x.1 (o).1.l.length x.2 (evsC (o).1.l)]) [1, 0, 2] rfl rfl).trans log_disk))
    · have hle : l.length ≤ o.2 := by omega
      rw [if_neg (by omega), List.take_of_length_le hle]
      refine J.skip ?_
      refine J.idle (I' := fun w => Kept F w0 w) (fun w h => h.1.1) ?_
      have hI := kept_below F w0
      have hA := Own.kept F w0
      refine J.widen (key := 1000) (A := fun b => F b ∨ w0.heap.size ≤ b) rfl (fun b hb => hb.elim (fun h => h.1) (h1A b)) ?_
      refine J.exC (key := 1000) (q := 1) rfl rfl fun x => ?_
      refine J.sepC (key := 1000) (q := 1) rfl rfl ?_
      repeat (first | refine Plan.move rfl rfl rfl rfl ?_ | refine Plan.nilOk rfl rfl rfl rfl ?_ | refine Plan.fieldC rfl rfl rfl rfl (by first | exact Try.underlying74 | exact Try.underlying55) rfl (by kernel_rfl) (by exact (rfl : _ = 3)) ?_ | refine Plan.loadC (key := 1000) (q := 1) rfl rfl rfl rfl rfl rfl (obj_reads1 rfl) (by first | exact Try.underlying3 | exact Try.underlying35) (by rfl) (by decide) ?_ | refine J.seq (J.region mixed hI (by kernel_rfl) ?_))
      refine Plan.lenE rfl rfl rfl rfl Try.underlying35 ?_
      repeat (first | refine Plan.nilOk rfl rfl rfl rfl ?_ | refine Plan.fieldC rfl rfl rfl rfl (by first | exact Try.underlying74 | exact Try.underlying55) rfl (by kernel_rfl) (by exact (rfl : _ = 4)) ?_)
      refine Plan.storeC (key := 1000) (q := 1) rfl rfl rfl rfl rfl rfl (by simp [Value.cells, Value.oneCell', str]) (by kernel_rfl) rfl hA rfl (obj_pat1 (Nat.le_of_ble_eq_true rfl)) ?_
      repeat (first | refine Plan.move rfl rfl rfl rfl ?_ | refine Plan.assign rfl rfl rfl rfl ?_ | refine J.seq (J.region mixed hI (by kernel_rfl) ?_))
      exact J.ret (Nrm.retC2 (key := 1000) γ rfl rfl rfl trivial (Ress.cons rfl (Sub.refl _) (Ress.cons rfl (Sub.refl _) Ress.nil)) ((Ent.pickC (H' := [obj γ [ptr β, str (o).1.s, .bool (o).1.b, .slice x.1 (o).1.l.length x.2, vi (o).1.l.length], diskC β l f r, rowEv x.1 (o).1.l.length x.2 (evsC (o).1.l)]) [1, 0, 2] rfl rfl).trans log_disk))
end Go.Proofs.Ytepgphflnelpoaa
end

section
set_option linter.unusedSimpArgs false
set_option linter.unusedVariables false
set_option maxRecDepth 20000
namespace Go.Proofs.Ytepgphflnelpoaa
open Go.Free Go.RowKit Go.Proofs
set_option maxHeartbeats 4000000

def evF (e : EvV) : List UInt8 := fPut (0 :: encB e)
def addM (m : LogV) (l : List UInt8) (r : Nat) (e : EvV) : LogV × List UInt8 × Nat :=
  if rightP e then if l.length + (evF e).length ≤ r then (⟨m.s, m.b, m.l ++ [e]⟩, l ++ evF e, 0) else (m, l, 9) else (m, l, 1)
theorem evF_le {e : EvV} (h : rightP e) : (evF e).length ≤ 707 := by
  have := encB_le h
  unfold evF; rw [fPut_length, List.length_cons]; omega
theorem add_fn (γ β : Nat) (m : LogV) (f : Nat) (l : List UInt8) (df r : Nat) (e : EvV) (he : e.okV) (hm : m.l.length ≤ 1000000) (hl : l.length ≤ r) (hr : r ≤ 65536) :
    SpcC Try.prog 21 [.ex (ptr γ), .ex (aggE e)] (allC [logC γ β m f, diskC β l df r]) (fun _ : Unit => True) (fun _ => .ex (vi (addM m l r e).2.2))
      (fun _ => allC [logC γ β (addM m l r e).1 f, diskC β (addM m l r e).2.1 df r]) := by
  refine SpcC.intro Try.func21 rfl (Nat.le_of_ble_eq_true rfl) fun w0 F => ?_
  have hI := kept_below F w0
  have hA := Own.kept F w0
  refine J.open1 (key := 1000) rfl ?_
  refine J.exC (key := 1000) (q := 0) rfl rfl fun x => ?_
  refine J.sepC (key := 1000) (q := 0) rfl rfl ?_
  have hfr := framed_fn e he
  repeat (refine J.seq (J.region mixed hI (by kernel_rfl) ?_))
  refine Plan.boxC (key := 1000) rfl rfl rfl (by intro _ e; cases e; decide) rfl rfl hA fun α => ?_
  repeat (first | refine Plan.move rfl rfl rfl rfl ?_ | refine Plan.assign rfl rfl rfl rfl ?_ | refine Plan.pick rfl rfl rfl rfl rfl ?_ | refine Plan.nilOk rfl rfl rfl rfl ?_ | refine Plan.fieldC rfl rfl rfl rfl (by first | exact Try.underlying74 | exact Try.underlying55) rfl (by kernel_rfl) (by exact (rfl : _ = 0)) ?_ | refine Plan.loadC (key := 1000) (q := 0) rfl rfl rfl rfl rfl rfl (obj_reads1 rfl) (by first | exact Try.underlying3 | exact Try.underlying23) (by rfl) (by decide) ?_ | refine Plan.eqlPtr rfl rfl rfl rfl (by kernel_rfl) ?_ | refine J.seq (J.region mixed hI (by kernel_rfl) ?_) | refine J.seq (J.seq (J.region mixed hI (by kernel_rfl) ?_)) | refine J.condF rfl ?_ | refine J.skip ?_)
  refine Plan.loadAggC (key := 1000) (q := 3) (vs := e.enc) rfl rfl rfl rfl rfl rfl obj_whole Try.underlying48 rfl (by rw [encE]; kernel_rfl) (by decide) ?_
  by_cases hp : rightP e
  · have hle := evF_le hp
    rw [if_pos hp, if_pos hp] at hfr
    refine Plan.call (B := 0) rfl rfl rfl (hfr) Try.func39 rfl rfl (fun _ _ => Nat.zero_le _) (by repeat (first | exact Opnds.nil | refine Opnds.cons rfl (by exact Sub.refl _) ?_)) ?_
    repeat (first | refine Plan.move rfl rfl rfl rfl ?_ | refine Plan.assign rfl rfl rfl rfl ?_ | refine Plan.extract rfl rfl rfl rfl rfl ?_ | (refine Plan.ints rfl rfl rfl rfl rfl rfl ?_; (skip)) | refine Plan.nilOk rfl rfl rfl rfl ?_ | refine Plan.fieldC rfl rfl rfl rfl (by first | exact Try.underlying74 | exact Try.underlying55) rfl (by kernel_rfl) (by exact (rfl : _ = 0)) ?_ | refine Plan.loadC (key := 1000) (q := 0) rfl rfl rfl rfl rfl rfl (obj_reads1 rfl) (by first | exact Try.underlying3 | exact Try.underlying23) (by rfl) (by decide) ?_ | refine J.seq (J.seq (J.region mixed hI (by kernel_rfl) ?_)) | refine J.condF rfl ?_ | refine J.skip ?_)
    have hap := disk_Append β l df r (evF e) hl hr (by omega)
    by_cases hfit : l.length + (evF e).length ≤ r
    · have hadd : addM m l r e = (⟨m.s, m.b, m.l ++ [e]⟩, l ++ evF e, 0) := by unfold addM; rw [if_pos hp, if_pos hfit]
      rw [if_pos hfit, if_pos hfit] at hap
      rw [hadd]
      refine Plan.callC (key := 1000) (q := 1) rfl rfl rfl (hap) Try.func40 rfl rfl (by intro _ e; cases e; decide) (by repeat (first | exact Opnds.nil | refine Opnds.cons rfl (by first | exact Sub.refl _ | exact Sub.own) ?_)) rfl hA rfl ?_
      intro _ _
      repeat (refine Plan.assign rfl rfl rfl rfl ?_)
      refine J.seq (J.region mixed hI (by kernel_rfl) ?_)
      repeat (first | refine Plan.move rfl rfl rfl rfl ?_ | (refine Plan.ints rfl rfl rfl rfl rfl rfl ?_; (skip)))
      refine J.condF rfl ?_
      refine J.skip ?_
      refine J.seq (J.loose2 [(0, ptr γ)] [(0, .ex (ptr γ))] mixed hI rfl rfl rfl (by kernel_rfl) (by kernel_rfl) (by kernel_rfl) rfl rfl (fun ⟨_, _, h⟩ => h) (fun _ _ _ _ h => h) (by repeat (first | exact Weak.nil | refine Weak.cons rfl (Sub.refl _) ?_)) ?_ ?_)
      · exact Gives.cons [(0, .ex (ptr γ))] (by kernel_rfl) rfl (by kernel_rfl) (Plan.move rfl rfl rfl rfl (Plan.gives rfl)) Gives.nil
      repeat (first | refine Plan.move rfl rfl rfl rfl ?_ | refine Plan.assign rfl rfl rfl rfl ?_ | refine Plan.nilOk rfl rfl rfl rfl ?_ | refine Plan.fieldC rfl rfl rfl rfl (by first | exact Try.underlying74 | exact Try.underlying55) rfl (by kernel_rfl) (by exact (rfl : _ = 3)) ?_ | refine Plan.loadC (key := 1000) (q := 0) rfl rfl rfl rfl rfl rfl (obj_reads1 rfl) (by exact Try.underlying35) (by rfl) (by decide) ?_)
      refine Plan.loadAggC (key := 1000) (q := 3) (vs := e.enc) rfl rfl rfl rfl rfl rfl obj_whole Try.underlying48 rfl (by rw [encE]; kernel_rfl) (by decide) ?_
      refine Plan.lit (B := 0) rfl rfl rfl eltE rfl (fun _ _ => Nat.zero_le _) rfl (fun v hv => by rw [List.mem_singleton.1 hv]; rfl) (by decide) ?_
      refine Plan.appendC (key := 1000) (q := 2) (news := e.enc) rfl rfl rfl rfl rfl Sub.own eltE (by intro _ e; cases e; decide) rfl hA rfl (encE_one e) (by rw [evs_len, encE]; omega) fun B1 m1 c1 hm1 => ?_
      obtain rfl : m1 = (m.l ++ [e]).length := by rw [evs_len, encE] at hm1; simp only [List.length_append, List.length_cons, List.length_nil]; omega
      rw [evs_snoc]
      repeat (first | refine Plan.nilOk rfl rfl rfl rfl ?_ | refine Plan.fieldC rfl rfl rfl rfl (by first | exact Try.underlying74 | exact Try.underlying55) rfl (by kernel_rfl) (by exact (rfl : _ = 3)) ?_)
      refine Plan.storeC (key := 1000) (q := 0) rfl rfl rfl rfl rfl rfl (by simp [Value.cells, Value.oneCell', str]) (by kernel_rfl) rfl hA rfl (obj_pat1 (Nat.le_of_ble_eq_true rfl)) ?_
      repeat (first | refine Plan.assign rfl rfl rfl rfl ?_ | refine J.seq (J.region mixed hI (by kernel_rfl) ?_))
      exact J.ret (Nrm.retC1 (key := 1000) () rfl rfl rfl trivial (Sub.refl _) ((Ent.pickC (H' := [obj γ [ptr β, str m.s, .bool m.b, .slice B1 (m.l ++ [e]).length c1, vi f], diskC β (l ++ evF e) df r, rowEv B1 (m.l ++ [e]).length c1 (evsC (m.l ++ [e]))]) [0, 1, 2] rfl rfl).trans (log_disk (m := ⟨m.s, m.b, m.l ++ [e]⟩))))
    · have hadd : addM m l r e = (m, l, 9) := by unfold addM; rw [if_pos hp, if_neg hfit]
      rw [if_neg hfit, if_neg hfit] at hap
      rw [hadd]
      refine Plan.callC (key := 1000) (q := 1) rfl rfl rfl (hap) Try.func40 rfl rfl (by intro _ e; cases e; decide) (by repeat (first | exact Opnds.nil | refine Opnds.cons rfl (by first | exact Sub.refl _ | exact Sub.own) ?_)) rfl hA rfl ?_
      intro _ _
      repeat (first | refine Plan.move rfl rfl rfl rfl ?_ | refine Plan.assign rfl rfl rfl rfl ?_ | (refine Plan.ints rfl rfl rfl rfl rfl rfl ?_; (skip)) | refine J.seq (J.region mixed hI (by kernel_rfl) ?_) | refine J.condT rfl ?_)
      exact J.ret (Nrm.retC1 (key := 1000) () rfl rfl rfl trivial (Sub.refl _) ((Ent.pickC (H' := [obj γ [ptr β, str m.s, .bool m.b, .slice x.1 m.l.length x.2, vi f], diskC β l df r, rowEv x.1 m.l.length x.2 (evsC m.l)]) [0, 1, 2] rfl rfl).trans log_disk))
  · have hadd : addM m l r e = (m, l, 1) := by unfold addM; rw [if_neg hp]
    rw [if_neg hp, if_neg hp] at hfr
    rw [hadd]
    refine Plan.call (B := 0) rfl rfl rfl (hfr) Try.func39 rfl rfl (fun _ _ => Nat.zero_le _) (by repeat (first | exact Opnds.nil | refine Opnds.cons rfl (by exact Sub.refl _) ?_)) ?_
    repeat (first | refine Plan.move rfl rfl rfl rfl ?_ | refine Plan.assign rfl rfl rfl rfl ?_ | refine Plan.extract rfl rfl rfl rfl rfl ?_ | (refine Plan.ints rfl rfl rfl rfl rfl rfl ?_; (skip)) | refine J.seq (J.region mixed hI (by kernel_rfl) ?_) | refine J.seq (J.seq (J.region mixed hI (by kernel_rfl) ?_)) | refine J.condT rfl ?_)
    exact J.ret (Nrm.retC1 (key := 1000) () rfl rfl rfl trivial (Sub.refl _) ((Ent.pickC (H' := [obj γ [ptr β, str m.s, .bool m.b, .slice x.1 m.l.length x.2, vi f], diskC β l df r, rowEv x.1 m.l.length x.2 (evsC m.l)]) [0, 1, 2] rfl rfl).trans log_disk))
theorem open_nil : openM [] = (log0, 0) := by
  unfold openM
  rw [scanL_stop (by simp)]
  rfl
theorem begun_fn (room : Int) : SpcC Try.prog 17 [.ex (vi room)] emp (fun _ : Nat × Nat => True) (fun x => .tup [.ex (ptr x.1), .ex (ptr x.2)])
    (fun x => allC [logC x.1 x.2 log0 0, diskC x.2 [] 0 (clampR room)]) := by
  refine SpcC.intro Try.func17 rfl (Nat.le_of_ble_eq_true rfl) fun w0 F => ?_
  have hI := kept_below F w0
  have hA := Own.kept F w0
  repeat (first | refine Plan.move rfl rfl rfl rfl ?_ | refine Plan.assign rfl rfl rfl rfl ?_ | refine J.seq (J.region mixed hI (by kernel_rfl) ?_))
  refine Plan.callN (key := 1000) rfl rfl rfl (disk_New room) Try.func10 rfl rfl (by intro _ e; cases e; decide) (by repeat (first | exact Opnds.nil | refine Opnds.cons rfl (by exact Sub.refl _) ?_)) rfl hA ?_
  intro β _
  repeat (first | refine Plan.move rfl rfl rfl rfl ?_ | refine Plan.assign rfl rfl rfl rfl ?_ | refine J.seq (J.region mixed hI (by kernel_rfl) ?_))
  have ho := open_fn β [] 0 (clampR room) (by simp)
  rw [open_nil] at ho
  refine Plan.callC (key := 1000) (q := 1) rfl rfl rfl (ho) Try.func12 rfl rfl (by intro _ e; cases e; decide) (by repeat (first | exact Opnds.nil | refine Opnds.cons rfl (by exact Sub.refl _) ?_)) rfl hA rfl ?_
  intro γ _
  repeat (first | refine Plan.move rfl rfl rfl rfl ?_ | refine Plan.assign rfl rfl rfl rfl ?_ | refine Plan.extract rfl rfl rfl rfl rfl ?_ | (refine Plan.ints rfl rfl rfl rfl rfl rfl ?_; (skip)) | refine J.seq (J.region mixed hI (by kernel_rfl) ?_) | refine J.seq (J.seq (J.region mixed hI (by kernel_rfl) ?_)) | refine J.condF rfl ?_ | refine J.skip ?_)
  exact J.ret (Nrm.retC2 (key := 1000) (γ, β) rfl rfl rfl trivial (Ress.cons rfl (Sub.refl _) (Ress.cons rfl (Sub.refl _) Ress.nil)) (Ent.right.trans Ent.one))
end Go.Proofs.Ytepgphflnelpoaa
end
