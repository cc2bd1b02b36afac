/-
  Drawn regions in which memory is turned: every order, step by step; contracts over worlds beyond one that is known; results that lie in variables of functions that turn chunks.
-/
import Derived.Test.YtkhcjedlopiicaaFreeTree
import Derived.Test.YtkhcjedlopiicaaFreeCell
set_option linter.unusedSimpArgs false
set_option linter.unusedVariables false
set_option maxRecDepth 20000
namespace Go.Free
open Go.RowKit

section
variable {P : Program} {ops : Array Oper} {n : Nat} {I : World → Prop} {Q : Exit → Act → World → Prop} {E : Env}
/-- Ends as Q does, but for the normal one: K. -/
def Qd (Q : Exit → Act → World → Prop) (K : Act → World → Prop) : Exit → Act → World → Prop
  | .normal => K
  | e => Q e
theorem letsOut_Qd {K : Act → World → Prop} (h : LetsOut (Qd Q K)) : LetsOut Q := h
theorem wpOp_Qd {K K' : Act → World → Prop} {i : Nat} {a : Act} {w : World} (h : wpOp P ops (Qd Q K) i K' a w) : wpOp P ops Q i K' a w := by
  unfold wpOp at *
  split
  · rename_i ho; simpa only [ho] using h
  · rename_i o ho
    simp only [ho] at h
    split
    · rename_i hw
      simp only [hw, if_true] at h
      refine h.imp (fun h => ?_) (fun h => ⟨h.1, letsOut_Qd h.2⟩)
      unfold Oper.wp at *
      generalize (execOp a.eval o).run P w = r at *
      cases r with
      | ok x w' =>
        cases x <;> simp only [Oper.upon] at h ⊢ <;>
          first
            | exact h
            | exact Calls.mono h (fun e w'' he => by cases e <;> first | exact he | exact letsOut_Qd he)
      | halt x w' => cases x <;> simp only [Oper.upon] at h ⊢ <;> exact h
    · rename_i hw
      simp only [hw] at h; exact h
/-- What is left to run of a drawn region, where those that are listed have run. -/
def D (P : Program) (ops : Array Oper) (Q : Exit → Act → World → Prop) (n : Nat) (I : World → Prop) (fuel : Nat) (listed : Array Bool) (E : Env) : Prop :=
  ∀ a w, I w → Sh n a → Sat E a w → wpAny P .any ops Q fuel listed a w
/-- Then one of those that are ready runs. -/
theorem D.step {fuel : Nat} {listed : Array Bool} (l : List Nat) (hr : Region.ready .any ops listed = l) (hl : l ≠ []) (ht : tidy ops n = true) (hI : ∀ w w', I w → Below w.heap.size w w' → I w')
    (h : ∀ i ∈ l, Plan P ops (Qd Q (wpAny P .any ops Q fuel (listed.setIfInBounds i true))) n I false 1 i E) : D P ops Q n I (fuel + 1) listed E := by
  intro a w h1 h2 h3
  refine ⟨fun e => absurd (hr.symm.trans e) hl, fun i hi => ?_⟩
  rw [hr] at hi
  rcases h i hi with ⟨F, hst, hp⟩ | ⟨_, heff⟩
  · refine wpOp_Qd (wpOp_mono ?_ (hst a w h1 h2 (fun t _ f hf => h3 t f hf)))
    rintro a' w' ⟨v, rfl, hb, hF⟩
    exact hp _ w' (hI _ _ h1 hb) (h2.put _ _) (h3.step ht h2 hb hF)
  · refine wpOp_Qd (wpOp_mono ?_ (heff a w h1 h2 h3))
    rintro a' w' ⟨E', hK, g1, g2, g3⟩
    exact hK a' w' g1 g2 g3
theorem D.one {fuel : Nat} {listed : Array Bool} (i : Nat) (hr : Region.ready .any ops listed = [i]) (ht : tidy ops n = true) (hI : ∀ w w', I w → Below w.heap.size w w' → I w')
    (h : Plan P ops (Qd Q (wpAny P .any ops Q fuel (listed.setIfInBounds i true))) n I false 1 i E) : D P ops Q n I (fuel + 1) listed E :=
  D.step [i] hr (by simp) ht hI fun j hj => by simp only [List.mem_singleton] at hj; subst hj; exact h
theorem D.two {fuel : Nat} {listed : Array Bool} (i j : Nat) (hr : Region.ready .any ops listed = [i, j]) (ht : tidy ops n = true) (hI : ∀ w w', I w → Below w.heap.size w w' → I w')
    (h : Plan P ops (Qd Q (wpAny P .any ops Q fuel (listed.setIfInBounds i true))) n I false 1 i E)
    (h2 : Plan P ops (Qd Q (wpAny P .any ops Q fuel (listed.setIfInBounds j true))) n I false 1 j E) : D P ops Q n I (fuel + 1) listed E :=
  D.step [i, j] hr (by simp) ht hI fun m hm => by
    rcases List.mem_cons.1 hm with rfl | hm
    · exact h
    · simp only [List.mem_singleton] at hm; subst hm; exact h2
/-- One has run: the next. -/
theorem D.go {fuel i : Nat} {listed : Array Bool} (h : D P ops Q n I fuel listed E) : Plan P ops (Qd Q (wpAny P .any ops Q fuel listed)) n I false 0 i E := h
theorem D.done {fuel : Nat} {listed : Array Bool} (hr : Region.ready .any ops listed = []) (h : Plan P ops Q n I false 0 0 E) : D P ops Q n I fuel listed E := by
  intro a w h1 h2 h3
  cases fuel with
  | zero => exact ⟨hr, h a w h1 h2 h3⟩
  | succ k => exact ⟨fun _ => h a w h1 h2 h3, fun i hi => by rw [hr] at hi; cases hi⟩
theorem J.draw {id : Nat} (hm : P.follows .mixedOrders = true) (hI : ∀ w w', I w → Below w.heap.size w w' → I w') (h : D P ops Q n I ops.size (Array.replicate ops.size false) E) : J P n I (.region id ops true) Q E := fun a w h1 h2 h3 => by
  refine wp_region_any hm ?_
  have hb0 : Below w.heap.size w { w with drawn := w.drawn + 1 } := (Below.refl _ _).drew
  exact h a _ (hI _ _ h1 hb0) h2 (fun t f hf => Fa.mono f w _ _ hb0 (h3 t f hf))
end

/-! ### Contracts over worlds beyond one that is known -/
/-- The value is v, and the world is one beyond wO. -/
def exIn (wO : World) (v : Value) : Fa := .is ⟨fun w x => x = v ∧ Below wO.heap.size wO w, fun _ _ _ hb ⟨h1, h2⟩ => ⟨h1, h2.trans (hb.mono h2.size)⟩⟩
theorem Sub.exIn {I : World → Prop} {wO : World} {v : Value} (h : ∀ w, I w → Below wO.heap.size wO w) : Sub I (.ex v) (Free.exIn wO v) := fun w x hI hx => ⟨hx, h w hI⟩
theorem Sub.inEx {I : World → Prop} {wO : World} {v : Value} : Sub I (Free.exIn wO v) (.ex v) := fun w x _ hx => hx.1
theorem Sub.known {I : World → Prop} {wO : World} {v : Value} {f : Fa} (h : ∀ w, I w → Below wO.heap.size wO w) (hv : f.den wO v) : Sub I (.ex v) f := fun w x hI hx => by
  simp only [Fa.den] at hx
  subst hx
  exact Fa.mono f wO w _ (h w hI) hv

theorem SpcC.intro2 {P : Program} {f : FuncId} {fn : Func} {body : Code} {As : List Fa} {c : Chunk} {X : Type} {ok : X → Prop} {R : X → Fa} {c' : X → Chunk} (hf : P.funcs[f]? = some fn) (hb : fn.body = some body) (hsz : As.length ≤ fn.ntmps)
    (h : ∀ w0 F args, Fa.dens As w0 args → c.holds w0 F → J P fn.ntmps (fun w => Kept F w0 w) body (FnPostC P fn ok R c' w0 F) ((1000, heap (fun b => F b ∨ w0.heap.size ≤ b) [c]) :: envNow As 0)) : SpcC P f As c ok R c' := by
  intro w args F hd hc
  have hlen : args.length = As.length := dens_len w As args hd
  refine calls_of_wp hf hb ?_
  refine wp_mono (h w F args hd hc _ w (Kept.refl _ _) ⟨by simp [hlen]; omega, rfl⟩ ?_) ?_
  · intro t f' hf'
    simp only [look] at hf'
    by_cases ht : 1000 = t
    · rw [if_pos ht] at hf'
      cases hf'
      exact ⟨_, Lies.one hc, fun q b hb => .inl hb.2⟩
    · rw [if_neg ht] at hf'
      exact envNow_sat (vs := args) hd (fun j v hj => frame_args j v hj) t f' hf'
  · rintro e a w' hq
    cases e <;> simp only [FnPostC] at hq <;> first | exact hq.elim | skip
    all_goals
      obtain ⟨h1, v, x, h2, h3⟩ := hq
      exact ⟨h1, v, h2, v, x, rfl, h3⟩
theorem exIn_below {wO w : World} {v : Value} {fs : List Fa} {args : List Value} (h : Fa.dens (exIn wO v :: fs) w args) : Below wO.heap.size wO w := by
  simp only [Fa.dens] at h
  obtain ⟨y, ys, rfl, h1, _⟩ := h
  exact h1.2
theorem kept_beyond {wO w1 w : World} {F : Nat → Prop} (h : Below wO.heap.size wO w1) (hF : ∀ b, F b → wO.heap.size ≤ b) (hk : Kept F w1 w) : Below wO.heap.size wO w :=
  ⟨hk.os.trans h.os, hk.tape.trans h.tape, hk.output.trans h.output, Nat.le_trans h.size hk.size, fun k hlt => by
    rw [hk.block k (Nat.lt_of_lt_of_le hlt h.size) (fun hf => absurd (hF k hf) (by omega)), h.block k hlt]⟩

section
variable {P : Program} {n : Nat} {I : World → Prop} {Q : Exit → Act → World → Prop} {E : Env} {A : Nat → Prop} {H : List Chunk} {key : Nat}
/-- A block of a chunk is of A. -/
theorem J.inA {c : Code} {q β : Nat} {c1 : Chunk} (hk : look E key = some (heap A H)) (hq : H[q]? = some c1) (hf : ∀ w F, c1.holds w F → F β) (h : A β → J P n I c Q E) : J P n I c Q E := fun a w h1 h2 h3 => by
  obtain ⟨φ, hL, hA⟩ := h3 key _ hk
  exact h (hA q β (hf w _ (hL.holds q _ hq))) a w h1 h2 h3
theorem obj_in {β : Nat} {cs : List Value} (w : World) (F : Nat → Prop) (h : (obj β cs).holds w F) : F β := (h.2 β).2 rfl
theorem J.nameOld {c : Code} {t : Nat} {wO : World} {f : Fa} (hf : look E t = some (.old wO f)) (h : ∀ u, f.den wO u → J P n I c Q ((t, .ex u) :: E)) : J P n I c Q E := fun a w h1 h2 h3 => by
  have hv := h3 t _ hf
  simp only [Fa.den] at hv
  refine h (a.slot t) hv a w h1 h2 fun s g hs => ?_
  simp only [look] at hs
  by_cases ht : t = s
  · subst ht; simp only [if_true, Option.some.injEq] at hs; subst hs; simp [Fa.den]
  · rw [if_neg ht] at hs; exact h3 s g hs
/-- A function that turns chunks, and whose result lies in a variable. -/
theorem Nrm.retCc {fn : Func} {X : Type} {ok : X → Prop} {R : X → Fa} {c' : X → Chunk} {w0 : World} {F : Nat → Prop} {t q β : Nat} {ty : TypeId} {td : TypeDesc} {c : Chunk} {cs : List Value} (x : X) (hr : fn.results = #[.cell t ty])
    (hl : look E t = some (.ex (ptr β))) (hk : look E key = some (heap (fun b => F b ∨ w0.heap.size ≤ b) H)) (hq : H[q]? = some c) (hrd : c.reads β 0 cs) (hu : P.underlying ty = some td) (hna : aggB td = true) (hi : (P.info? ty).map (·.size) = some cs.length)
    (hok : ok x) (hs : R x = .ex (.agg cs.toArray)) (he : Ent (allC H) (c' x)) : Nrm n (fun w => Kept F w0 w) (FnPostC P fn ok R c' w0 F .ret) E := fun a w h1 h2 h3 => by
  obtain ⟨φ, hL, hA⟩ := h3 key _ hk
  obtain ⟨G, g1, g2⟩ := he w _ hL.all
  have hrun := cell_load (P := P) (hL.holds q _ hq) hrd hu hna hi
  have hv := h3 t _ hl
  simp only [Fa.den] at hv
  have hv' : a.tmps.getD t undef = ptr β := hv
  have hasz : (asAddr (a.tmps[t]?.getD undef)).run P w = .ok ⟨β, 0, none⟩ w := by rw [← Array.getD_eq_getD_getElem?, hv']; rfl
  refine ⟨h2.defers, .agg cs.toArray, x, ?_, hok, h1, by rw [hs]; simp only [Fa.den], G, g1, fun b hb => by obtain ⟨q, hq⟩ := g2 b hb; exact hA q b hq⟩
  simp [results, hr, hasz, hrun]
end
end Go.Free
