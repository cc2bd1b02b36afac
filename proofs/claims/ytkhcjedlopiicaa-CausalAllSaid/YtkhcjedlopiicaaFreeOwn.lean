/-
  A literal of the call's own handed to a call that takes it as a chunk; drawn regions with values given, told shorter.
-/
import Derived.Test.YtkhcjedlopiicaaFreeSlices2
import Derived.Test.YtkhcjedlopiicaaFreeTight
set_option linter.unusedSimpArgs false
set_option linter.unusedVariables false
set_option maxRecDepth 20000
namespace Go.Free
open Go.RowKit
/-- A function that turns a chunk: the chunk's blocks lie below the world's end. -/
theorem SpcC.introLow {P : Program} {f : FuncId} {fn : Func} {body : Code} {As : List Fa} {c : Chunk} {X : Type} {ok : X → Prop} {R : X → Fa} {c' : X → Chunk} (hf : P.funcs[f]? = some fn) (hb : fn.body = some body) (hsz : As.length ≤ fn.ntmps)
    (h : ∀ w0 F, J P fn.ntmps (fun w => Kept F w0 w) body (FnPostC P fn ok R c' w0 F) ((1000, heap (fun b => (F b ∨ w0.heap.size ≤ b) ∧ b < w0.heap.size) [c]) :: envNow As 0)) : SpcC P f As c ok R c' := by
  intro w args F hd hc
  have hlen : args.length = As.length := dens_len w As args hd
  refine calls_of_wp hf hb ?_
  refine wp_mono (h w F _ w (Kept.refl _ _) ⟨by simp [hlen]; omega, rfl⟩ ?_) ?_
  · intro t f' hf'
    simp only [look] at hf'
    by_cases ht : 1000 = t
    · rw [if_pos ht] at hf'
      cases hf'
      exact ⟨_, Lies.one hc, fun q b hb => ⟨.inl hb.2, c.lt w F b hc hb.2⟩⟩
    · rw [if_neg ht] at hf'
      exact envNow_sat (vs := args) hd (fun j v hj => frame_args j v hj) t f' hf'
  · rintro e a w' hq
    cases e <;> simp only [FnPostC] at hq <;> first | exact hq.elim | skip
    all_goals
      obtain ⟨h1, v, x, h2, h3⟩ := hq
      exact ⟨h1, v, h2, v, x, rfl, h3⟩
section
variable {P : Program} {ops : Array Oper} {Q : Exit → Act → World → Prop} {n : Nat} {I : World → Prop} {k i : Nat} {E : Env} {o : Oper} {d : Bool} {A : Nat → Prop} {H : List Chunk} {key : Nat}
/-- The bound on the blocks is dropped. -/
theorem J.unlow {c : Code} {B : Nat} (hk : look E key = some (heap (fun b => A b ∧ b < B) H)) (h : J P n I c Q ((key, heap A H) :: E)) : J P n I c Q E := fun a w h1 h2 h3 => by
  obtain ⟨φ, hL, hLA⟩ := h3 key _ hk
  exact h a w h1 h2 (heap_put h3 hL fun q b hb => (hLA q b hb).1)
/-- An operation that turns chunks, of which more is known. -/
theorem Plan.turnW {A0 : Nat → Prop} (ho : ops[i]? = some o) (hg : wantB ops E o = some true) (hd : ∀ d, o.dst = some d → d < n) (hk : look E key = some (heap A0 H)) (hA : Own I A)
    (h : ∀ a w φ, I w → Sat E a w → (∀ x, x ∈ o.op.operands → ∀ f, opF E x = some f → f.den w (a.eval x)) → Lies H φ w → (∀ q b, φ q b → A0 b) → (∀ b, w.heap.size ≤ b → A b) → Sh n a →
      wpOp P ops Q i (fun a' w' => ∃ v F H' φ', a' = a.put o.dst v ∧ Kept A w w' ∧ Lies H' φ' w' ∧ (∀ q b, φ' q b → A b) ∧ F.den w' v ∧ Plan P ops Q n I d k (i + 1) (setE o.dst F ((key, heap A H') :: sieve E))) a w)
    (hq : d = false ∨ barB ops i = true) : Plan P ops Q n I d (k + 1) i E := by
  refine .inr ⟨hq, ?_⟩
  intro a w hI hsh hs
  obtain ⟨φ, hL, hLA⟩ := hs key _ hk
  refine wpOp_mono ?_ (h a w φ hI hs (fun x hx f hf => opF_den ho hx (fun t _ f hf => hs t f hf) hf) hL hLA (hA.fresh w hI) hsh)
  rintro a' w' ⟨v, F, H', φ', rfl, hK, hL', hLA', hF, hp⟩
  refine ⟨_, hp, hA.turn w w' hI hK, hsh.put _ _, ?_⟩
  have hs' : Sat ((key, heap A H') :: sieve E) a w' := by
    intro t f hf
    simp only [look] at hf
    by_cases ht : key = t
    · rw [if_pos ht] at hf; cases hf; exact ⟨φ', hL', hLA'⟩
    · rw [if_neg ht] at hf; exact sieve_sat hs w' t f hf
  intro t f hf
  cases hdst : o.dst with
  | none => rw [hdst] at hf; exact hs' t f hf
  | some dd =>
    rw [hdst] at hf
    simp only [setE, look] at hf
    by_cases hdt : dd = t
    · subst hdt
      simp only [if_true, Option.some.injEq] at hf
      subst hf
      rw [slot_put_same hsh (hd dd hdst)]
      exact hF
    · rw [if_neg hdt] at hf
      rw [slot_put_ne a hdt]
      have : look ((key, heap A H') :: sieve E) t = some f := by simpa only [look] using hf
      exact hs' t f this
/-- A call that turns chunk q, and takes a literal of the caller's own as a chunk. -/
theorem Plan.callOwn {f : FuncId} {xs : List Operand} {ts : Array TypeId} {fs : Nat → List Fa} {c1 : Chunk} {X : Type} {ok : X → Prop} {R : X → Fa} {c' : X → Chunk} {fn : Func} {q t B e sz m : Nat} {cs : List Value} {ft : Fa} (ho : ops[i]? = some o)
    (hop : o.op = .call { callee := .value (.func f), args := xs.toArray, argTypes := ts }) (hg : wantB ops E o = some true) (hc : ∀ g, SpcC P f (fs g) (Free.sepC c1 (rowC e sz (some ⟨g, 0, none⟩) m m cs)) ok R c')
    (hf : P.funcs[f]? = some fn) (hbody : fn.body.isNone = false) (hname : (fn.name == "runtime.NumGoroutine") = false) (hd : ∀ d, o.dst = some d → d < n) (ht : look E t = some ft) (hts : Sub I ft (Free.tight B e sz m cs))
    (hx : ∀ g, Opnds I ((t, .ex (.slice (some ⟨g, 0, none⟩) m m)) :: E) xs (fs g)) (hk : look E key = some (heap (fun b => A b ∧ b < B) H)) (hA : Own I A) (hAB : ∀ b, B ≤ b → A b) (hqH : H[q]? = some c1)
    (h : ∀ x, ok x → Plan P ops Q n I d k (i + 1) (setE o.dst (R x) ((key, heap A (H.set q (c' x))) :: sieve E))) (hq : d = false ∨ barB ops i = true := by first | exact .inl rfl | exact .inr (by kernel_rfl)) : Plan P ops Q n I d (k + 1) i E :=
  Plan.turnW ho hg hd hk hA (fun a w φ hI hs hs' hL hLA hfr hsh => by
    unfold wpOp
    simp only [ho, wantB_spec ho hsh (fun t _ f hf => hs t f hf) hg, if_true]
    refine .inl ?_
    unfold Oper.wp
    have hrun : (execOp a.eval o).run P w = .ok (.enter f (xs.map a.eval).toArray) w := by
      have hn : ¬ fn.name = "runtime.NumGoroutine" := by simpa using hname
      have hb : ¬ fn.body = none := by intro e; rw [e] at hbody; cases hbody
      simp [execOp, hop, resolve, invoke, callFunc, Deferred.ofValue, Act.eval, hf, hb, hn]
    rw [hrun]
    simp only [Oper.upon]
    have htight := hts w _ hI (hs t ft ht)
    simp only [Free.tight, Fa.den] at htight
    obtain ⟨⟨hBw, n0, hown⟩, g, hv⟩ := htight
    rw [hv] at hown
    have hn0 : n0 = m := by
      rcases hown.2 with ⟨h0, _⟩ | ⟨g', cp, cur, h0, _⟩
      · cases h0
      · cases h0; rfl
    subst hn0
    have hgB : B ≤ g := (hown.lt g rfl).1
    have hgw : g < w.heap.size := (hown.lt g rfl).2
    have hrow : (rowC e sz (some ⟨g, 0, none⟩) n0 n0 cs).holds w (fun b => b = g) := by
      refine ⟨⟨hown.1, ?_⟩, fun b => ⟨fun h => (by subst h; rfl), fun h => (by cases h; rfl)⟩⟩
      rcases hown.2 with h0 | ⟨g', cp, cur, h0, _, r⟩
      · exact .inl h0
      · exact .inr ⟨g', cp, cur, h0, Nat.zero_le _, r⟩
    have hden := Opnds.dens (a := a) (w := w) hI (hx g) (fun x hxm f hf => by
      have hxo : x ∈ o.op.operands := by simp [hop, Op.operands, Call.operands, hxm]
      cases x with
      | tmp s =>
        simp only [opF, look] at hf
        by_cases hts : t = s
        · rw [if_pos hts] at hf
          cases hf
          subst hts
          simp only [Fa.den, Act.eval]
          exact hv
        · rw [if_neg hts] at hf
          exact hs' _ hxo f hf
      | const v => exact hs' _ hxo f hf
      | global v => exact hs' _ hxo f hf
      | func v => exact hs' _ hxo f hf)
    have hdis : ∀ p b, φ p b → b ≠ g := fun p b hb e => by have := (hLA p b hb).2; omega
    refine (hc g w _ (fun b => φ q b ∨ b = g) hden ⟨φ q, fun b => b = g, fun b => Iff.rfl, fun b h1 h2 => hdis q b h1 h2, hL.holds q _ hqH, hrow⟩).mono ?_
    rintro e' w' ⟨v, x, rfl, hok, hK, hR, F', hF', hFb⟩
    have hqlt : q < H.length := (List.getElem?_eq_some_iff.1 hqH).1
    refine ⟨v, R x, H.set q (c' x), fun p b => if p = q then F' b else φ p b, rfl, hK.mono (fun b _ hb => ?_), ⟨fun p (c : Chunk) hp => ?_, fun p p' b hp hp' => ?_, fun p b hp => ?_⟩, fun p b hb => ?_, hR, h x hok⟩
    · rcases hb with hb | rfl
      · exact (hLA q b hb).1
      · exact hAB _ hgB
    · by_cases he : p = q
      · subst he
        rw [List.getElem?_set_self hqlt] at hp
        cases hp
        simpa using hF'
      · rw [List.getElem?_set_ne (Ne.symm he)] at hp
        simp only [if_neg he]
        exact c.keep (hL.holds p c hp) hK fun b h1 h2 => h2.elim (fun h2 => he (hL.apart p q b h1 h2)) (hdis p b h1)
    · have key : ∀ p b, p ≠ q → F' b → ¬ φ p b := fun p b hne h1 h2 => by
        rcases hFb b h1 with (h3 | h3) | h3
        · exact hne (hL.apart p q b h2 h3)
        · exact hdis p b h2 h3
        · have := hL.lt h2; omega
      by_cases he : p = q
      · by_cases he' : p' = q
        · rw [he, he']
        · simp only [if_pos he] at hp
          simp only [if_neg he'] at hp'
          exact absurd hp' (key p' b he' hp)
      · by_cases he' : p' = q
        · simp only [if_neg he] at hp
          simp only [if_pos he'] at hp'
          exact absurd hp (key p b he hp')
        · simp only [if_neg he] at hp
          simp only [if_neg he'] at hp'
          exact hL.apart p p' b hp hp'
    · rw [List.length_set]
      by_cases he : p = q
      · omega
      · simp only [if_neg he] at hp
        exact hL.bound p b hp
    · by_cases he : p = q
      · simp only [if_pos he] at hb
        rcases hFb b hb with (h3 | h3) | h3
        · exact (hLA q b h3).1
        · subst h3; exact hAB _ hgB
        · exact hfr b h3
      · simp only [if_neg he] at hb
        exact (hLA p b hb).1) hq
variable {us : List (Nat × Value)} {Es : Env}
theorem Gives.nil : Gives P ops Q n I us Es [] := trivial
theorem Gives.cons {u dd : Nat} {v : Value} {r : List (Nat × Value)} (Eu : Env) (hb : barB ops u = false) (hd : dst ops u = some dd) (hE : factsU ops (aheadU ops us u) ++ Es = Eu) (h : Plan P ops (Qd Q (fun a _ => a.slot dd = v)) n I true 1 u Eu) (hr : Gives P ops Q n I us Es r) : Gives P ops Q n I us Es ((u, v) :: r) :=
  ⟨⟨hb, fun d' hd' => by rw [hd] at hd'; cases hd'; rw [hE]; exact h⟩, hr⟩
theorem Plan.gives {dd : Nat} {v : Value} {d : Bool} (h : look E dd = some (.ex v)) : Plan P ops (Qd Q (fun a _ => a.slot dd = v)) n I d 0 i E := fun a w h1 h2 h3 => by
  have := h3 dd _ h
  simpa only [Fa.den, Qd] using this
/-- A drawn region, some of whose operations' values are given; what is left told outright. -/
theorem J.loose2 {id m : Nat} {vops : Array Oper} {E0 : Env} (us : List (Nat × Value)) (Es : Env) (hm : P.follows .mixedOrders = true) (hI : ∀ w w', I w → Below w.heap.size w w' → I w') (hv : subst us ops = vops) (hs : vops.size = m) (hE0 : factsU ops us = E0) (ht : tidy ops n = true) (ht2 : tidy vops n = true) (hB : looseB us ops n = true) (h1 : onceB us = true) (hst : stillB ops Es = true)
    (hL : ¬ LetsOut Q) (hQ : ∀ c a b w, Q (.panic c) a w → Q (.panic c) b w) (hE : Weak I E Es) (hG : Gives P ops Q n I us Es us)
    (h : Plan P vops Q n I true m 0 (E0 ++ E)) : J P n I (.region id ops true) Q E := by
  subst hv hs hE0
  exact J.loose us Es hm hI ht ht2 hB h1 hst hL hQ hE hG h
end
end Go.Free
