/-
  The judgement over code, loops, and how a contract of a function is begun and ended.
-/
import Derived.Test.YtkhcjedlopiicaaFreeRows
set_option linter.unusedSimpArgs false
set_option linter.unusedVariables false
set_option maxRecDepth 20000
namespace Go.Free
open Go.RowKit

section
variable (P : Program) (n : Nat) (I : World → Prop)
/-- From whatever frame and world meet I and E, c comes to Q. -/
def J (c : Code) (Q : Exit → Act → World → Prop) (E : Env) : Prop := ∀ a w, I w → Sh n a → Sat E a w → c.wp P Q a w
end
section
variable {P : Program} {n : Nat} {I : World → Prop} {Q : Exit → Act → World → Prop} {E : Env}

theorem J.seq {x y : Code} (h : J P n I x (Exit.then (y.wp P Q) Q) E) : J P n I (.seq x y) Q E := fun a w h1 h2 h3 => wp_seq (h a w h1 h2 h3)
theorem J.region {id : Nat} {ops : Array Oper} {draw : Bool} (hm : P.follows .mixedOrders = true) (hI : ∀ w w', I w → Below w.heap.size w w' → I w') (ht : tidyG ops n = true)
    (h : Plan P ops Q n I draw ops.size 0 E) : J P n I (.region id ops draw) Q E := fun _ _ h1 h2 h3 => wp_region_plan hm ht hI h1 h2 h3 h
theorem J.cond {c : Operand} {x y : Code} {b : Bool} (hc : opF E c = some (.ex (.bool b))) (ht : b = true → J P n I x Q E) (hf : b = false → J P n I y Q E) : J P n I (.cond c x y) Q E :=
  fun a w h1 h2 h3 => by
    have : a.eval c = .bool b := by
      cases c with
      | tmp t => have := h3 t _ hc; simpa [Fa.den, Act.slot, Act.eval] using this
      | const v => simp only [opF, Option.some.injEq, Fa.ex.injEq] at hc; subst hc; rfl
      | global g => simp [opF] at hc
      | func f => simp [opF] at hc
    exact wp_cond_split this (fun hb => ht hb a w h1 h2 h3) (fun hb => hf hb a w h1 h2 h3)
theorem J.block {id : Nat} {c : Code} (h : J P n I c (Exit.inBlock id Q) E) : J P n I (.block id c) Q E := fun a w h1 h2 h3 => wp_block (h a w h1 h2 h3)
/-- What is asked where the code has come to its end. -/
def Nrm (n : Nat) (I : World → Prop) (Q : Act → World → Prop) (E : Env) : Prop := ∀ a w, I w → Sh n a → Sat E a w → Q a w
theorem J.skip (h : Nrm n I (Q .normal) E) : J P n I .skip Q E := fun a w h1 h2 h3 => wp_skip (h a w h1 h2 h3)
theorem J.exit {id : Nat} (h : Nrm n I (Q (.exit id)) E) : J P n I (.exit id) Q E := fun a w h1 h2 h3 => wp_exit (h a w h1 h2 h3)
theorem J.ret (h : Nrm n I (Q .ret) E) : J P n I .ret Q E := fun a w h1 h2 h3 => wp_ret (h a w h1 h2 h3)

/-- Each fact of E' is one of E, or follows from one. -/
def Weak (I : World → Prop) (E : Env) : Env → Prop
  | [] => True
  | (t, f) :: r => (∃ g, look E t = some g ∧ Sub I g f) ∧ Weak I E r
theorem Weak.sat {E' : Env} {a : Act} {w : World} (h : Weak I E E') (hI : I w) (hs : Sat E a w) : Sat E' a w := by
  induction E' with
  | nil => intro t f hf; simp [look] at hf
  | cons p r ih =>
    obtain ⟨t0, f0⟩ := p
    obtain ⟨⟨g, hg, hsub⟩, hr⟩ := h
    intro t f hf
    simp only [look] at hf
    by_cases ht : t0 = t
    · subst ht; simp only [if_true, Option.some.injEq] at hf; subst hf; exact hsub w _ hI (hs t0 g hg)
    · rw [if_neg ht] at hf; exact ih hr t f hf
theorem Weak.nil : Weak I E [] := trivial
theorem Weak.cons {t : Nat} {g f : Fa} {r : Env} (h : look E t = some g) (hs : Sub I g f) (hr : Weak I E r) : Weak I E ((t, f) :: r) := ⟨⟨g, h, hs⟩, hr⟩
theorem Sub.of_eq {f g : Fa} (h : g = f) : Sub I g f := h ▸ Sub.refl _
theorem J.weak {c : Code} (E' : Env) (h : Weak I E E') (hj : J P n I c Q E') : J P n I c Q E := fun a w h1 h2 h3 => hj a w h1 h2 (h.sat h1 h3)
theorem Nrm.weak {K : Act → World → Prop} (E' : Env) (h : Weak I E E') (hj : Nrm n I K E') : Nrm n I K E := fun a w h1 h2 h3 => hj a w h1 h2 (h.sat h1 h3)

/-- A loop: at each round's head the frame meets 'Ev s' for some s with 'ok s'; the measure goes down. -/
theorem J.loop {σ : Type} {c : Code} (Ev : σ → Env) (ok : σ → Prop) (m : σ → Nat) (s0 : σ) (h0 : ok s0) (hE : Weak I E (Ev s0))
    (round : ∀ s, ok s → J P n I c (Exit.then (fun a w => ∃ s', ok s' ∧ m s' < m s ∧ I w ∧ Sh n a ∧ Sat (Ev s') a w) Q) (Ev s)) : J P n I (.loop c) Q E := by
  have key : ∀ (k : Nat) (s : σ), m s = k → ok s → ∀ a w, I w → Sh n a → Sat (Ev s) a w → ∀ (b : Frame) (kk : List Item) (cs : List Frame),
      ∃ e a' w', Q e a' w' ∧ Arrives P (lone (b.at a (.code c :: .inLoop c :: kk)) cs w) b kk cs e a' w' := by
    intro k
    induction k using Nat.strongRecOn with
    | _ k ih =>
      intro s hk hs a w h1 h2 h3 b kk cs
      obtain ⟨e, a₁, w₁, hq, harr⟩ := round s hs a w h1 h2 h3 b (.inLoop c :: kk) cs
      cases e with
      | normal =>
        obtain ⟨s', hok, hlt, h1', h2', h3'⟩ := hq
        obtain ⟨e₂, a₂, w₂, hq₂, harr₂⟩ := ih (m s') (hk ▸ hlt) s' rfl hok a₁ w₁ h1' h2' h3' b kk cs
        exact ⟨e₂, a₂, w₂, hq₂, .of_steps (Steps.trans harr (.one step_inLoop)) harr₂⟩
      | exit id => exact ⟨_, a₁, w₁, hq, .pass (x := .inLoop c) rfl (fun _ _ => .inl (by simp)) harr⟩
      | goto l => exact ⟨_, a₁, w₁, hq, .pass (x := .inLoop c) rfl (fun _ _ => .inl (by simp)) harr⟩
      | ret => exact ⟨_, a₁, w₁, hq, .pass (x := .inLoop c) rfl (fun _ _ => .inl (by simp)) harr⟩
      | panic ch => exact ⟨_, a₁, w₁, hq, .pass (x := .inLoop c) rfl (fun _ _ => .inl (by simp)) harr⟩
      | outgrown => exact ⟨_, a₁, w₁, hq, .pass (x := .inLoop c) rfl (fun _ _ => .inl (by simp)) harr⟩
  intro a w h1 h2 h3 b kk cs
  obtain ⟨e, a', w', hq, harr⟩ := key _ s0 rfl h0 a w h1 h2 (hE.sat h1 h3) b kk cs
  exact ⟨e, a', w', hq, .of_steps (.one step_loop) harr⟩

/-- The ways meet again: what holds there, for some s. -/
theorem J.seqMid {σ : Type} {x y : Code} (Ev : σ → Env) (ok : σ → Prop) (h : J P n I x (Exit.then (fun a w => ∃ s, ok s ∧ I w ∧ Sh n a ∧ Sat (Ev s) a w) Q) E) (k : ∀ s, ok s → J P n I y Q (Ev s)) : J P n I (.seq x y) Q E := by
  refine J.seq fun a w h1 h2 h3 => wp_mono (h a w h1 h2 h3) ?_
  intro e a' w' hq
  cases e with
  | normal => obtain ⟨s, hok, i1, i2, i3⟩ := hq; exact k s hok a' w' i1 i2 i3
  | exit id => exact hq
  | goto l => exact hq
  | ret => exact hq
  | panic c => exact hq
  | outgrown => exact hq
theorem Nrm.mid {σ : Type} {Ev : σ → Env} {ok : σ → Prop} (s : σ) (hok : ok s) (h : Weak I E (Ev s)) : Nrm n I (fun a w => ∃ s, ok s ∧ I w ∧ Sh n a ∧ Sat (Ev s) a w) E :=
  fun _ _ h1 h2 h3 => ⟨s, hok, h1, h2, h.sat h1 h3⟩

/-! ### Functions -/
def keepOld (w0 : World) : Fa → Fa
  | .ex v => .ex v
  | .tup l => .tup l
  | .is p => old w0 (.is p)
  | .old w1 f => .old w1 f
def envArgs (w0 : World) : List Fa → Nat → Env
  | [], _ => []
  | f :: fs, i => (i, keepOld w0 f) :: envArgs w0 fs (i + 1)

theorem keepOld_den {w0 : World} {f : Fa} {v : Value} (h : f.den w0 v) : (keepOld w0 f).den w0 v := by
  cases f with
  | ex u => exact h
  | tup l => exact h
  | is p => simpa [keepOld, Fa.den] using h
  | old w1 g => exact h

theorem envArgs_sat {w0 : World} {tmps : Array Value} : ∀ {fs : List Fa} {vs : List Value} {i : Nat}, Fa.dens fs w0 vs → (∀ j v, vs[j]? = some v → tmps[i + j]? = some v) →
    ∀ t f, look (envArgs w0 fs i) t = some f → f.den w0 (tmps.getD t undef)
  | [], _, _, _, _, t, f, h => by simp [envArgs, look] at h
  | g :: fs, vs, i, hd, hv, t, f, h => by
    simp only [Fa.dens] at hd
    obtain ⟨y, ys, rfl, h1, h2⟩ := hd
    simp only [envArgs, look] at h
    by_cases ht : i = t
    · subst ht
      simp only [if_true, Option.some.injEq] at h
      subst h
      have := hv 0 y rfl
      simp only [Nat.add_zero] at this
      have hlt : i < tmps.size := (Array.getElem?_eq_some_iff.1 this).1
      have hg : tmps.getD i undef = y := by
        simp only [Array.getD, hlt, dite_true]
        exact (Array.getElem?_eq_some_iff.1 this).2
      rw [hg]
      exact keepOld_den h1
    · rw [if_neg ht] at h
      exact envArgs_sat (i := i + 1) h2 (fun j v hj => by have := hv (j + 1) v (by simpa using hj); rw [← this]; congr 1; omega) t f h

def FnPost (P : Program) (fn : Func) (R : Nat → Fa) (w0 : World) : Exit → Act → World → Prop
  | .normal, a, w | .ret, a, w => a.defers = [] ∧ ∃ v, (results fn a.tmps).run P w = .ok v w ∧ Below w0.heap.size w0 w ∧ ∀ B, B ≤ w0.heap.size → (R B).den w v
  | _, _, _ => False

theorem Spc.intro {f : FuncId} {fn : Func} {c : Code} {As : List Fa} {R : Nat → Fa} (hf : P.funcs[f]? = some fn) (hb : fn.body = some c) (hsz : As.length ≤ fn.ntmps)
    (h : ∀ w0, J P fn.ntmps (fun w => Below w0.heap.size w0 w) c (FnPost P fn R w0) (envArgs w0 As 0)) : Spc P f As R := by
  intro w args hd
  have hlen : args.length = As.length := by
    have : ∀ (l : List Fa) (xs : List Value), Fa.dens l w xs → xs.length = l.length := by
      intro l
      induction l with
      | nil => intro xs hx; simp only [Fa.dens] at hx; subst hx; rfl
      | cons g l ih => intro xs hx; simp only [Fa.dens] at hx; obtain ⟨y, ys, rfl, _, h2⟩ := hx; simp [ih ys h2]
    exact this As args hd
  refine calls_of_wp hf hb ?_
  refine wp_mono (h w _ w (Below.refl _ _) ⟨by simp [hlen]; omega, rfl⟩ ?_) ?_
  · intro t f hf
    refine envArgs_sat (vs := args) hd (fun j v hj => ?_) t f hf
    have hlt : j < args.length := (List.getElem?_eq_some_iff.1 hj).1
    have hv : args[j] = v := by have := List.getElem?_eq_getElem hlt; rw [hj] at this; exact (Option.some.inj this).symm
    simp [Array.getElem?_append, hlt, hv]
  · rintro e a w' hq
    cases e <;> simp only [FnPost] at hq <;> first | exact hq.elim | skip
    all_goals
      obtain ⟨h1, v, h2, h3, h4⟩ := hq
      exact ⟨h1, v, h2, v, rfl, h3, h4⟩

theorem Spc.mono {f : FuncId} {As As' : List Fa} {R : Nat → Fa} (h : Spc P f As R) (hs : ∀ w vs, Fa.dens As' w vs → Fa.dens As w vs) : Spc P f As' R :=
  fun w args hd => h w args (hs w args hd)

/-- The end of a function with one result. -/
theorem Nrm.ret1 {fn : Func} {R : Nat → Fa} {w0 : World} {t : Nat} {g : Fa} (hr : fn.results = #[.tmp t]) (hI : ∀ w, I w → Below w0.heap.size w0 w) (hl : look E t = some g)
    (hs : ∀ B, B ≤ w0.heap.size → Sub I g (R B)) : Nrm n I (FnPost P fn R w0 .ret) E := fun _ w h1 h2 h3 =>
  ⟨h2.defers, _, results_tmp hr _ _ _, hI w h1, fun B hB => hs B hB w _ h1 (h3 t g hl)⟩
theorem Nrm.ret1n {fn : Func} {R : Nat → Fa} {w0 : World} {t : Nat} {g : Fa} (hr : fn.results = #[.tmp t]) (hI : ∀ w, I w → Below w0.heap.size w0 w) (hl : look E t = some g)
    (hs : ∀ B, B ≤ w0.heap.size → Sub I g (R B)) : Nrm n I (FnPost P fn R w0 .normal) E := fun _ w h1 h2 h3 =>
  ⟨h2.defers, _, results_tmp hr _ _ _, hI w h1, fun B hB => hs B hB w _ h1 (h3 t g hl)⟩

/-- Several results. -/
def Ress (I : World → Prop) (E : Env) : List Nat → List Fa → Prop
  | [], fs => fs = []
  | t :: ts, fs => ∃ g f r, look E t = some g ∧ Sub I g f ∧ fs = f :: r ∧ Ress I E ts r
theorem Ress.nil : Ress I E [] [] := rfl
theorem Ress.cons {t : Nat} {ts : List Nat} {g f : Fa} {r : List Fa} (h : look E t = some g) (hs : Sub I g f) (hr : Ress I E ts r) : Ress I E (t :: ts) (f :: r) := ⟨g, f, r, h, hs, rfl, hr⟩
theorem Ress.dens {a : Act} {w : World} (hI : I w) (hs : Sat E a w) : ∀ {ts : List Nat} {fs : List Fa}, Ress I E ts fs → Fa.dens fs w (ts.map a.slot)
  | [], fs, h => by simp only [Ress] at h; subst h; simp [Fa.dens]
  | t :: ts, fs, h => by
    obtain ⟨g, f, r, h1, h2, rfl, h3⟩ := h
    simp only [Fa.dens, List.map_cons]
    exact ⟨_, _, rfl, h2 w _ hI (hs t g h1), Ress.dens hI hs h3⟩
theorem Nrm.ret2 {fn : Func} {R : Nat → Fa} {w0 : World} {t u : Nat} (hr : fn.results = #[.tmp t, .tmp u]) (hI : ∀ w, I w → Below w0.heap.size w0 w)
    (hs : ∀ B, B ≤ w0.heap.size → ∃ fs, R B = .tup fs ∧ Ress I E [t, u] fs) : Nrm n I (FnPost P fn R w0 .ret) E := fun a w h1 h2 h3 =>
  ⟨h2.defers, _, results_tmp2 hr _ _ _, hI w h1, fun B hB => by
    obtain ⟨fs, he, hrs⟩ := hs B hB
    rw [he]
    simp only [Fa.den]
    exact ⟨_, rfl, hrs.dens h1 h3⟩⟩
theorem Nrm.ret3 {fn : Func} {R : Nat → Fa} {w0 : World} {t u s : Nat} (hr : fn.results = #[.tmp t, .tmp u, .tmp s]) (hI : ∀ w, I w → Below w0.heap.size w0 w)
    (hs : ∀ B, B ≤ w0.heap.size → ∃ fs, R B = .tup fs ∧ Ress I E [t, u, s] fs) : Nrm n I (FnPost P fn R w0 .ret) E := fun a w h1 h2 h3 =>
  ⟨h2.defers, .tuple #[a.slot t, a.slot u, a.slot s], by simp [results, hr, Act.slot], hI w h1, fun B hB => by
    obtain ⟨fs, he, hrs⟩ := hs B hB
    rw [he]
    simp only [Fa.den]
    exact ⟨_, rfl, hrs.dens h1 h3⟩⟩
end
end Go.Free
