/-
  Memory that is turned: how a function over a chunk is begun and ended, chunks opened, appends, cuts, comparisons with nil.
-/
import Derived.Test.YtkhcjedlopiicaaFreeHeap2
import Derived.Laws.Tables
import Derived.Laws.Pointers
set_option linter.unusedSimpArgs false
set_option linter.unusedVariables false
set_option maxRecDepth 20000
namespace Go.Free
open Go.RowKit

def envNow : List Fa → Nat → Env
  | [], _ => []
  | f :: fs, i => (i, f) :: envNow fs (i + 1)
theorem envNow_sat {w0 : World} {tmps : Array Value} : ∀ {fs : List Fa} {vs : List Value} {i : Nat}, Fa.dens fs w0 vs → (∀ j v, vs[j]? = some v → tmps[i + j]? = some v) →
    ∀ t f, look (envNow fs i) t = some f → f.den w0 (tmps.getD t undef)
  | [], _, _, _, _, t, f, h => by simp [envNow, look] at h
  | g :: fs, vs, i, hd, hv, t, f, h => by
    simp only [Fa.dens] at hd
    obtain ⟨y, ys, rfl, h1, h2⟩ := hd
    simp only [envNow, look] at h
    by_cases ht : i = t
    · subst ht
      simp only [if_true, Option.some.injEq] at h
      subst h
      have := hv 0 y rfl
      simp only [Nat.add_zero] at this
      have hlt : i < tmps.size := (Array.getElem?_eq_some_iff.1 this).1
      have hg : tmps.getD i undef = y := by
        simp only [Array.getD, hlt, dite_true]
        exact (Array.getElem?_eq_some_iff.1 this).2
      rw [hg]
      exact h1
    · rw [if_neg ht] at h
      exact envNow_sat (i := i + 1) h2 (fun j v hj => by have := hv (j + 1) v (by simpa using hj); rw [← this]; congr 1; omega) t f h
theorem dens_len : ∀ (w : World) (l : List Fa) (xs : List Value), Fa.dens l w xs → xs.length = l.length := by
  intro w l
  induction l with
  | nil => intro xs hx; simp only [Fa.dens] at hx; subst hx; rfl
  | cons g l ih => intro xs hx; simp only [Fa.dens] at hx; obtain ⟨y, ys, rfl, _, h2⟩ := hx; simp [ih ys h2]
theorem frame_args {args : List Value} {m : Nat} (j : Nat) (v : Value) (hj : args[j]? = some v) : (args.toArray ++ Array.replicate m undef)[0 + j]? = some v := by
  have hlt : j < args.length := (List.getElem?_eq_some_iff.1 hj).1
  have hv : args[j] = v := by have := List.getElem?_eq_getElem hlt; rw [hj] at this; exact (Option.some.inj this).symm
  simp [Array.getElem?_append, hlt, hv]

def FnPostC (P : Program) (fn : Func) {X : Type} (ok : X → Prop) (R : X → Fa) (c' : X → Chunk) (w0 : World) (F : Nat → Prop) : Exit → Act → World → Prop
  | .normal, a, w | .ret, a, w => a.defers = [] ∧ ∃ v x, (results fn a.tmps).run P w = .ok v w ∧ ok x ∧ Kept F w0 w ∧ (R x).den w v ∧ ∃ F', (c' x).holds w F' ∧ ∀ b, F' b → F b ∨ w0.heap.size ≤ b
  | _, _, _ => False

/-- The heap with one chunk. -/
theorem Lies.one {c : Chunk} {w : World} {F : Nat → Prop} (h : c.holds w F) : Lies [c] (fun q b => q = 0 ∧ F b) w :=
  ⟨fun q d hq => by
      cases q with
      | zero => simp only [List.getElem?_cons_zero, Option.some.injEq] at hq; subst hq; simpa using h
      | succ q => simp at hq,
    fun p q b hp hq => hp.1.trans hq.1.symm, fun q b hb => by simp [hb.1]⟩

theorem SpcC.intro {P : Program} {f : FuncId} {fn : Func} {body : Code} {As : List Fa} {c : Chunk} {X : Type} {ok : X → Prop} {R : X → Fa} {c' : X → Chunk} (hf : P.funcs[f]? = some fn) (hb : fn.body = some body) (hsz : As.length ≤ fn.ntmps)
    (h : ∀ w0 F, J P fn.ntmps (fun w => Kept F w0 w) body (FnPostC P fn ok R c' w0 F) ((1000, heap (fun b => F b ∨ w0.heap.size ≤ b) [c]) :: envNow As 0)) : SpcC P f As c ok R c' := by
  intro w args F hd hc
  have hlen : args.length = As.length := dens_len w As args hd
  refine calls_of_wp hf hb ?_
  refine wp_mono (h w F _ w (Kept.refl _ _) ⟨by simp [hlen]; omega, rfl⟩ ?_) ?_
  · intro t f' hf'
    simp only [look] at hf'
    by_cases ht : 1000 = t
    · rw [if_pos ht] at hf'
      cases hf'
      exact ⟨_, Lies.one hc, fun q b hb => .inl hb.2⟩
    · rw [if_neg ht] at hf'
      exact envNow_sat (vs := args) hd (fun j v hj => frame_args j v hj) t f' hf'
  · rintro e a w' hq
    cases e <;> simp only [FnPostC] at hq <;> first | exact hq.elim | skip
    all_goals
      obtain ⟨h1, v, x, h2, h3⟩ := hq
      exact ⟨h1, v, h2, v, x, rfl, h3⟩

theorem SpcR.intro {P : Program} {f : FuncId} {fn : Func} {body : Code} {As : List Fa} {c : Chunk} {R : Nat → Fa} (hf : P.funcs[f]? = some fn) (hb : fn.body = some body) (hsz : As.length ≤ fn.ntmps)
    (h : ∀ w0, J P fn.ntmps (fun w => Below w0.heap.size w0 w) body (FnPost P fn R w0) ((1000, heap (fun _ => True) [c]) :: envArgs w0 As 0)) : SpcR P f As c R := by
  intro w args F hd hc
  have hlen : args.length = As.length := dens_len w As args hd
  refine calls_of_wp hf hb ?_
  refine wp_mono (h w _ w (Below.refl _ _) ⟨by simp [hlen]; omega, rfl⟩ ?_) ?_
  · intro t f' hf'
    simp only [look] at hf'
    by_cases ht : 1000 = t
    · rw [if_pos ht] at hf'
      cases hf'
      exact ⟨_, Lies.one hc, fun q b hb => trivial⟩
    · rw [if_neg ht] at hf'
      exact envArgs_sat (vs := args) hd (fun j v hj => frame_args j v hj) t f' hf'
  · rintro e a w' hq
    cases e <;> simp only [FnPost] at hq <;> first | exact hq.elim | skip
    all_goals
      obtain ⟨h1, v, h2, h3, h4⟩ := hq
      exact ⟨h1, v, h2, v, rfl, h3, h4⟩

/-- What reads c reads all that has c. -/
theorem SpcR.ent {P : Program} {f : FuncId} {As : List Fa} {c d : Chunk} {R : Nat → Fa} (h : SpcR P f As c R) (he : Ent d c) : SpcR P f As d R := fun w args F hd hc => by
  obtain ⟨G, h1, _⟩ := he w F hc
  exact h w args G hd h1

section
variable {P : Program} {ops : Array Oper} {Q : Exit → Act → World → Prop} {n : Nat} {I : World → Prop} {k i : Nat} {E : Env} {o : Oper} {d : Bool} {A : Nat → Prop} {H : List Chunk} {key : Nat}

/-! ### The end of a function -/
theorem Nrm.retC1 {fn : Func} {X : Type} {ok : X → Prop} {R : X → Fa} {c' : X → Chunk} {w0 : World} {F : Nat → Prop} {t : Nat} {g : Fa} (x : X) (hr : fn.results = #[.tmp t]) (hl : look E t = some g)
    (hk : look E key = some (heap (fun b => F b ∨ w0.heap.size ≤ b) H)) (hok : ok x) (hs : Sub (fun w => Kept F w0 w) g (R x)) (he : Ent (allC H) (c' x)) : Nrm n (fun w => Kept F w0 w) (FnPostC P fn ok R c' w0 F .ret) E := fun _ w h1 h2 h3 => by
  obtain ⟨φ, hL, hA⟩ := h3 key _ hk
  obtain ⟨G, g1, g2⟩ := he w _ hL.all
  exact ⟨h2.defers, _, x, results_tmp hr _ _ _, hok, h1, hs w _ h1 (h3 t g hl), G, g1, fun b hb => by obtain ⟨q, hq⟩ := g2 b hb; exact hA q b hq⟩
theorem Nrm.retC0 {fn : Func} {X : Type} {ok : X → Prop} {R : X → Fa} {c' : X → Chunk} {w0 : World} {F : Nat → Prop} {e : Exit} (x : X) (hr : fn.results = #[]) (hl : R x = Fa.any)
    (hk : look E key = some (heap (fun b => F b ∨ w0.heap.size ≤ b) H)) (hok : ok x) (he : Ent (allC H) (c' x)) (hx : e = .normal ∨ e = .ret) : Nrm n (fun w => Kept F w0 w) (FnPostC P fn ok R c' w0 F e) E := fun a w h1 h2 h3 => by
  obtain ⟨φ, hL, hA⟩ := h3 key _ hk
  obtain ⟨G, g1, g2⟩ := he w _ hL.all
  have hres : (results fn a.tmps).run P w = .ok (.tuple #[]) w := by simp [results, hr]
  have : FnPostC P fn ok R c' w0 F .ret a w := ⟨h2.defers, _, x, hres, hok, h1, by rw [hl]; exact any_den _ _, G, g1, fun b hb => by obtain ⟨q, hq⟩ := g2 b hb; exact hA q b hq⟩
  rcases hx with rfl | rfl <;> exact this
theorem Nrm.retC2 {fn : Func} {X : Type} {ok : X → Prop} {R : X → Fa} {c' : X → Chunk} {w0 : World} {F : Nat → Prop} {t u : Nat} {fs : List Fa} (x : X) (hr : fn.results = #[.tmp t, .tmp u]) (hl : R x = .tup fs)
    (hk : look E key = some (heap (fun b => F b ∨ w0.heap.size ≤ b) H)) (hok : ok x) (hs : Ress (fun w => Kept F w0 w) E [t, u] fs) (he : Ent (allC H) (c' x)) : Nrm n (fun w => Kept F w0 w) (FnPostC P fn ok R c' w0 F .ret) E := fun a w h1 h2 h3 => by
  obtain ⟨φ, hL, hA⟩ := h3 key _ hk
  obtain ⟨G, g1, g2⟩ := he w _ hL.all
  refine ⟨h2.defers, _, x, results_tmp2 hr _ _ _, hok, h1, ?_, G, g1, fun b hb => by obtain ⟨q, hq⟩ := g2 b hb; exact hA q b hq⟩
  rw [hl]
  simp only [Fa.den]
  exact ⟨_, rfl, hs.dens h1 h3⟩

/-! ### Chunks opened and told anew -/
theorem heap_put {a : Act} {w : World} (h3 : Sat E a w) {H' : List Chunk} {φ : Nat → Nat → Prop} (hL : Lies H' φ w) (hA : ∀ q b, φ q b → A b) : Sat ((key, heap A H') :: E) a w := fun t f hf => by
  simp only [look] at hf
  by_cases ht : key = t
  · rw [if_pos ht] at hf; cases hf; exact ⟨φ, hL, hA⟩
  · rw [if_neg ht] at hf; exact h3 t f hf
theorem Lies.conv {φ : Nat → Nat → Prop} {w : World} {q : Nat} {c' : Chunk} {F : Nat → Prop} (h : Lies H φ w) (hq : q < H.length) (hc : c'.holds w F) (hF : ∀ b, F b → φ q b) :
    Lies (H.set q c') (fun p b => if p = q then F b else φ p b) w := h.upd hq (Kept.refl _ _) hc (fun b hb => .inl (hF b hb))
theorem conv_A {φ : Nat → Nat → Prop} {q : Nat} {F : Nat → Prop} (h : ∀ q b, φ q b → A b) (hF : ∀ b, F b → φ q b) : ∀ p b, (if p = q then F b else φ p b) → A b := fun p b hb => by
  by_cases he : p = q
  · rw [if_pos he] at hb; exact h q b (hF b hb)
  · rw [if_neg he] at hb; exact h p b hb

theorem J.convC {c : Code} {q : Nat} {c1 c2 : Chunk} (hk : look E key = some (heap A H)) (hq : H[q]? = some c1) (he : Ent c1 c2) (h : J P n I c Q ((key, heap A (H.set q c2)) :: E)) : J P n I c Q E := fun a w h1 h2 h3 => by
  obtain ⟨φ, hL, hA⟩ := h3 key _ hk
  obtain ⟨G, g1, g2⟩ := he w _ (hL.holds q _ hq)
  exact h a w h1 h2 (heap_put h3 (hL.conv (List.getElem?_eq_some_iff.1 hq).1 g1 g2) (conv_A hA g2))
theorem J.exC {c : Code} {q : Nat} {X : Type} {c1 : X → Chunk} (hk : look E key = some (heap A H)) (hq : H[q]? = some (Free.exC c1)) (h : ∀ x, J P n I c Q ((key, heap A (H.set q (c1 x))) :: E)) : J P n I c Q E := fun a w h1 h2 h3 => by
  obtain ⟨φ, hL, hA⟩ := h3 key _ hk
  obtain ⟨x, hx⟩ := hL.holds q _ hq
  exact h x a w h1 h2 (heap_put h3 (hL.conv (List.getElem?_eq_some_iff.1 hq).1 hx (fun _ hb => hb)) (conv_A hA (fun _ hb => hb)))
theorem J.purC {c : Code} {q : Nat} {p : Prop} {c1 : Chunk} (hk : look E key = some (heap A H)) (hq : H[q]? = some (Free.purC p c1)) (h : p → J P n I c Q ((key, heap A (H.set q c1)) :: E)) : J P n I c Q E := fun a w h1 h2 h3 => by
  obtain ⟨φ, hL, hA⟩ := h3 key _ hk
  obtain ⟨hp, hx⟩ := hL.holds q _ hq
  exact h hp a w h1 h2 (heap_put h3 (hL.conv (List.getElem?_eq_some_iff.1 hq).1 hx (fun _ hb => hb)) (conv_A hA (fun _ hb => hb)))
theorem Lies.split {φ : Nat → Nat → Prop} {w : World} {q : Nat} {c1 c2 : Chunk} (h : Lies H φ w) (hq : H[q]? = some (Free.sepC c1 c2)) : ∃ φ', Lies (H.set q c1 ++ [c2]) φ' w ∧ ∀ p b, φ' p b → ∃ p', φ p' b := by
  obtain ⟨G, K, e1, e2, e3, e4⟩ := h.holds q _ hq
  have hql : q < H.length := (List.getElem?_eq_some_iff.1 hq).1
  have h0 : ∀ p b, (if p = q then G b else φ p b) → φ p b := fun p b hb => by
    by_cases he : p = q
    · rw [if_pos he] at hb; rw [he]; exact (e1 b).2 (.inl hb)
    · rw [if_neg he] at hb; exact hb
  have hc := h.conv hql e3 (fun b hb => (e1 b).2 (.inl hb))
  refine ⟨fun p b => if p = H.length then K b else if p = q then G b else φ p b, ⟨fun p c hp => ?_, fun p p' b hp hp' => ?_, fun p b hp => ?_⟩, fun p b hb => ?_⟩
  · by_cases he : p = H.length
    · subst he
      rw [List.getElem?_append_right (by simp), List.length_set, Nat.sub_self] at hp
      cases hp
      simpa using e4
    · have hl : p < (H.set q c1 ++ [c2]).length := (List.getElem?_eq_some_iff.1 hp).1
      rw [List.length_append, List.length_set, List.length_singleton] at hl
      rw [List.getElem?_append_left (by rw [List.length_set]; omega)] at hp
      simp only [if_neg he]
      exact hc.holds p c hp
  · by_cases he : p = H.length
    · by_cases he' : p' = H.length
      · rw [he, he']
      · simp only [if_pos he] at hp
        simp only [if_neg he'] at hp'
        exfalso
        by_cases hpq : p' = q
        · rw [if_pos hpq] at hp'; exact e2 b hp' hp
        · rw [if_neg hpq] at hp'; exact hpq (h.apart _ _ b hp' ((e1 b).2 (.inr hp)))
    · by_cases he' : p' = H.length
      · simp only [if_neg he] at hp
        simp only [if_pos he'] at hp'
        exfalso
        by_cases hpq : p = q
        · rw [if_pos hpq] at hp; exact e2 b hp hp'
        · rw [if_neg hpq] at hp; exact hpq (h.apart _ _ b hp ((e1 b).2 (.inr hp')))
      · simp only [if_neg he] at hp
        simp only [if_neg he'] at hp'
        exact hc.apart p p' b hp hp'
  · rw [List.length_append, List.length_set, List.length_singleton]
    by_cases he : p = H.length
    · omega
    · simp only [if_neg he] at hp
      have := h.bound p b (h0 p b hp)
      omega
  · by_cases he : p = H.length
    · simp only [if_pos he] at hb
      exact ⟨q, (e1 b).2 (.inr hb)⟩
    · simp only [if_neg he] at hb
      exact ⟨p, h0 p b hb⟩
theorem J.sepC {c : Code} {q : Nat} {c1 c2 : Chunk} (hk : look E key = some (heap A H)) (hq : H[q]? = some (Free.sepC c1 c2)) (h : J P n I c Q ((key, heap A (H.set q c1 ++ [c2])) :: E)) : J P n I c Q E := fun a w h1 h2 h3 => by
  obtain ⟨φ, hL, hA⟩ := h3 key _ hk
  obtain ⟨φ', hL', hA'⟩ := hL.split hq
  exact h a w h1 h2 (heap_put h3 hL' (fun p b hb => by obtain ⟨p', hp'⟩ := hA' p b hb; exact hA p' b hp'))
theorem J.factC {c : Code} {q : Nat} {c1 : Chunk} {p : Prop} (hk : look E key = some (heap A H)) (hq : H[q]? = some c1) (hf : ∀ w F, c1.holds w F → p) (h : p → J P n I c Q E) : J P n I c Q E := fun a w h1 h2 h3 => by
  obtain ⟨φ, hL, _⟩ := h3 key _ hk
  exact h (hf w _ (hL.holds q _ hq)) a w h1 h2 h3

/-- What is known of a row's slice. -/
theorem row_fact {e sz n cap : Nat} {B : Option Addr} {xs : List Value} {w : World} {F : Nat → Prop} (h : (rowC e sz B n cap xs).holds w F) :
    xs.length = n * sz ∧ n ≤ cap ∧ cap ≤ 9223372036854775807 ∧ ((B = none ∧ n = 0 ∧ cap = 0) ∨ ∃ g, B = some ⟨g, 0, none⟩) := by
  refine ⟨h.1.1, ?_⟩
  rcases h.1.2 with ⟨h0, h1⟩ | ⟨g, cp, cur, hv, _, _, h1, h2, _⟩
  · simp only [Value.slice.injEq] at h0
    exact ⟨by omega, by omega, .inl h0⟩
  · simp only [Value.slice.injEq] at hv
    obtain ⟨rfl, -, rfl⟩ := hv
    exact ⟨h1, by simpa [maxLen] using h2, .inr ⟨g, rfl⟩⟩
theorem row_rowH {e sz n cap : Nat} {B : Option Addr} {xs : List Value} {w : World} {F : Nat → Prop} (h : (rowC e sz B n cap xs).holds w F) : rowH sz xs w (.slice B n cap) :=
  own_row (B := 0) (e := e) ⟨Nat.zero_le _, n, h.1⟩
theorem Ent.rowCut {e sz n m cap : Nat} {B : Option Addr} {xs : List Value} (hm : m ≤ n) : Ent (rowC e sz B n cap xs) (rowC e sz B m cap (xs.take (m * sz))) := fun w F h => by
  refine ⟨F, ⟨⟨?_, ?_⟩, fun b => (h.2 b).trans ?_⟩, fun _ hb => hb⟩
  · rw [List.length_take, h.1.1]; exact Nat.min_eq_left (Nat.mul_le_mul_right _ hm)
  · rcases h.1.2 with ⟨h0, h1⟩ | ⟨g, cp, cur, hv, h0, h1, h2, h3, h4, h5⟩
    · simp only [Value.slice.injEq] at h0
      obtain ⟨rfl, rfl, rfl⟩ := h0
      obtain rfl : m = 0 := by omega
      exact .inl ⟨rfl, rfl⟩
    · simp only [Value.slice.injEq] at hv
      obtain ⟨rfl, -, rfl⟩ := hv
      refine .inr ⟨g, cap, cur, rfl, h0, h1, by omega, h3, h4, ?_⟩
      rw [← h5, List.take_take, Nat.min_eq_left (Nat.mul_le_mul_right _ hm)]
  · cases B <;> rfl
theorem Ent.rowEq {e sz n cap : Nat} {B : Option Addr} {xs ys : List Value} (h : xs = ys) : Ent (rowC e sz B n cap xs) (rowC e sz B n cap ys) := h ▸ Ent.refl _
/-- A nil slice is a row of none. -/
theorem nil_row (e sz : Nat) (w : World) : (rowC e sz none 0 0 []).holds w (fun _ => False) := ⟨World.ownsRow_nil w 0 e sz, fun b => ⟨fun h => h.elim, fun h => by simp [Value.ownBlock] at h⟩⟩
theorem Ent.nilRow {c : Chunk} {e sz : Nat} : Ent c (rowC e sz none 0 0 []) := fun w _ _ => ⟨_, nil_row e sz w, fun _ h => h.elim⟩
/-- A row more, of a nil slice. -/
theorem J.nilRow {c : Code} (e sz : Nat) (hk : look E key = some (heap A H)) (h : J P n I c Q ((key, heap A (H ++ [rowC e sz none 0 0 []])) :: E)) : J P n I c Q E := fun a w h1 h2 h3 => by
  obtain ⟨φ, hL, hA⟩ := h3 key _ hk
  refine h a w h1 h2 (heap_put h3 (hL.add (Below.refl _ _) (nil_row e sz w) (fun _ h => h.elim)) (fun q b hb => ?_))
  by_cases he : q = H.length
  · simp only [if_pos he] at hb
  · simp only [if_neg he] at hb; exact hA q b hb

/-! ### Operations -/
/-- A slice out of a chunk, of which a row's contents are known. -/
theorem Plan.loadRowC {t : TypeId} {u : TypeDesc} {x : Operand} {β off q q2 m cap e sz : Nat} {c : Chunk} {B : Option Addr} {xs : List Value} (ho : ops[i]? = some o) (hop : o.op = .load t x) (hg : wantB ops E o = some true)
    (hx : opF E x = some (.ex (.pointer (some ⟨β, off, none⟩)))) (hk : look E key = some (heap A H)) (hqH : H[q]? = some c) (hr : c.reads β off [.slice B m cap]) (hqH2 : H[q2]? = some (rowC e sz B m cap xs)) (hu : P.underlying t = some u) (hna : aggB u = false) (hkn : n ≤ key)
    (h : Plan P ops Q n I d k (i + 1) (setE o.dst (row sz xs) E)) : Plan P ops Q n I d (k + 1) i E :=
  Plan.step ho (Step.runK ho hg fun a w _ hs' hK => by
    have e1 := hs' x (by simp [hop, Op.operands]) _ hx
    simp only [Fa.den] at e1
    obtain ⟨φ, hL, _⟩ := hK key hkn _ hk
    have hc := hr w (φ q) (hL.holds q c hqH) 0 _ rfl
    simp only [Nat.add_zero] at hc
    refine ⟨.slice B m cap, w, ?_, Below.refl _ _, row_rowH (hL.holds q2 _ hqH2)⟩
    have hagg : (isAgg t).run P w = .ok false w := by
      cases u <;> simp [aggB] at hna <;> simp [isAgg, run_underlying hu]
    simp [execOp, hop, e1, Instr.loadAt, Instr.sureAddr, loadVar, hagg, run_load, hc]) h
theorem Plan.lenE {t e : TypeId} {x : Operand} {B : Option Addr} {m cap : Nat} (ho : ops[i]? = some o) (hop : o.op = .call { callee := .builtin .len, args := #[x], argTypes := #[t] }) (hg : wantB ops E o = some true)
    (hx : opF E x = some (.ex (.slice B m cap))) (hu : P.underlying t = some (.slice e))
    (h : Plan P ops Q n I d k (i + 1) (setE o.dst (.ex (.int .i64 m)) E)) : Plan P ops Q n I d (k + 1) i E :=
  Plan.step ho (Step.run ho hg fun a w hI hs' => by
    have hv := hs' x (by simp [hop, Op.operands, Call.operands]) _ hx
    simp only [Fa.den] at hv
    refine ⟨.int .i64 m, w, ?_, Below.refl _ _, by simp [Fa.den]⟩
    have hr : (Builtin.len_ #[t] o.type #[.slice B m cap]).run P w = .ok (goInt m) w := by simp [Builtin.len_, run_underlying hu]
    simp only [execOp, hop, resolve, invoke, builtin, List.map_toArray, List.map_cons, List.map_nil, hv, Sem.run_bind, Sem.run_pure, Result.andThen_ok, hr]
    rfl) h
theorem Plan.eqlPtr {t yt : TypeId} {x : Operand} {p : Option Addr} (ho : ops[i]? = some o) (hop : o.op = .binOp .eql t x (.const (.pointer none)) yt) (hg : wantB ops E o = some true)
    (hx : opF E x = some (.ex (.pointer p))) (hu : P.underlying t = some (.pointer (P.pointee t)))
    (h : Plan P ops Q n I d k (i + 1) (setE o.dst (.ex (.bool p.isNone)) E)) : Plan P ops Q n I d (k + 1) i E :=
  Plan.step ho (Step.run ho hg fun a w hI hs' => by
    have hv := hs' x (by simp [hop, Op.operands]) _ hx
    simp only [Fa.den] at hv
    refine ⟨.bool p.isNone, w, ?_, Below.refl _ _, by simp [Fa.den]⟩
    have hev : a.eval (.const (.pointer none)) = .pointer none := rfl
    have hgd : (eqGuard .eql t x (.const (.pointer none)) (.pointer p) (.pointer none)).run P w = .ok () w := by simp [eqGuard]
    simp only [execOp, hop, hv, hev, Sem.run_bind, hgd, Result.andThen_ok, run_eql_pointer_nil w t p hu, Sem.run_pure]) h
theorem Plan.neqPtr {t yt : TypeId} {x : Operand} {p : Option Addr} (ho : ops[i]? = some o) (hop : o.op = .binOp .neq t x (.const (.pointer none)) yt) (hg : wantB ops E o = some true)
    (hx : opF E x = some (.ex (.pointer p))) (hu : P.underlying t = some (.pointer (P.pointee t)))
    (h : Plan P ops Q n I d k (i + 1) (setE o.dst (.ex (.bool (!p.isNone))) E)) : Plan P ops Q n I d (k + 1) i E :=
  Plan.step ho (Step.run ho hg fun a w hI hs' => by
    have hv := hs' x (by simp [hop, Op.operands]) _ hx
    simp only [Fa.den] at hv
    refine ⟨.bool (!p.isNone), w, ?_, Below.refl _ _, by simp [Fa.den]⟩
    have hev : a.eval (.const (.pointer none)) = .pointer none := rfl
    have hgd : (eqGuard .neq t x (.const (.pointer none)) (.pointer p) (.pointer none)).run P w = .ok () w := by simp [eqGuard]
    simp only [execOp, hop, hv, hev, Sem.run_bind, hgd, Result.andThen_ok, run_neq_pointer_nil w t p hu, Sem.run_pure]) h

/-- The parts of a struct that is built. -/
def Parts (E : Env) : List (Nat × Operand) → List (Nat × Value) → Prop
  | [], vs => vs = []
  | (j, x) :: r, vs => ∃ v r', opF E x = some (.ex v) ∧ vs = (j, v) :: r' ∧ Parts E r r'
theorem Parts.nil : Parts E [] [] := rfl
theorem Parts.cons {j : Nat} {x : Operand} {r : List (Nat × Operand)} {v : Value} {r' : List (Nat × Value)} (h : opF E x = some (.ex v)) (hr : Parts E r r') : Parts E ((j, x) :: r) ((j, v) :: r') := ⟨v, r', h, rfl, hr⟩
theorem Parts.eval {w : World} {a : Act} : ∀ {ps : List (Nat × Operand)} {vs : List (Nat × Value)}, Parts E ps vs → (∀ p ∈ ps, ∀ f, opF E p.2 = some f → f.den w (a.eval p.2)) → ps.map (fun p => (p.1, a.eval p.2)) = vs
  | [], _, h, _ => by simp only [Parts] at h; subst h; rfl
  | (j, x) :: r, _, h, hs => by
    obtain ⟨v, r', h1, rfl, h3⟩ := h
    have hv := hs (j, x) List.mem_cons_self _ h1
    simp only [Fa.den] at hv
    rw [List.map_cons, Parts.eval h3 (fun p hp => hs p (List.mem_cons_of_mem _ hp)), hv]
theorem Plan.build {t : TypeId} {ps : List (Nat × Operand)} {vs : List (Nat × Value)} {cells : Array Value} (ho : ops[i]? = some o) (hop : o.op = .build t ps.toArray) (hg : wantB ops E o = some true)
    (hps : Parts E ps vs) (hb : P.built t vs = some cells)
    (h : Plan P ops Q n I d k (i + 1) (setE o.dst (.ex (.agg cells)) E)) : Plan P ops Q n I d (k + 1) i E :=
  Plan.step ho (Step.run ho hg fun a w hI hs' => by
    have hv := hps.eval (w := w) (a := a) (fun p hp f hf => hs' p.2 (by simp only [hop, Op.operands]; simp; exact ⟨p.1, hp⟩) f hf)
    refine ⟨.agg cells, w, ?_, Below.refl _ _, by simp [Fa.den]⟩
    have hr := run_build (P := P) w t vs.toArray cells (by simpa using hb)
    have he : (ps.toArray.map fun (p : Nat × Operand) => (p.1, a.eval p.2)) = vs.toArray := by rw [List.map_toArray, hv]
    simp only [execOp, hop, Sem.run_bind]
    erw [he]
    rw [hr]
    rfl) h
/-- A new variable with a value. -/
theorem Plan.boxC {t : TypeId} {x : Operand} {v : Value} (ho : ops[i]? = some o) (hop : o.op = .box t x) (hg : wantB ops E o = some true) (hd : ∀ d, o.dst = some d → d < n) (hx : opF E x = some (.ex v))
    (hk : look E key = some (heap A H)) (hA : Own I A)
    (h : ∀ β, Plan P ops Q n I d k (i + 1) (setE o.dst (.ex (ptr β)) ((key, heap A (H ++ [obj β v.cells.toList])) :: sieve E))) (hq : d = false ∨ barB ops i = true := by first | exact .inl rfl | exact .inr (by kernel_rfl)) : Plan P ops Q n I d (k + 1) i E :=
  Plan.turnRun ho hg hd hk hA (fun a w φ _ _ hs' hL hLA hfr => by
    have e1 := hs' x (by simp [hop, Op.operands]) _ hx
    simp only [Fa.den] at e1
    have hb : Below w.heap.size w (w.alloc (.cells v.cells t)) := (Below.refl _ _).alloc (Nat.le_refl _) _
    have hL' := hL.add (c' := obj w.heap.size v.cells.toList) (F := fun b => b = w.heap.size) hb ⟨⟨t, by rw [Array.toArray_toList]; exact heap_alloc_new w _⟩, fun b => Iff.rfl⟩ (fun b e => Nat.le_of_eq e.symm)
    refine ⟨ptr w.heap.size, w.alloc (.cells v.cells t), .ex (ptr w.heap.size), _, _, .inl ?_, .ofBelow hb, hL', fun q b hb => ?_, by simp [Fa.den], h w.heap.size⟩
    · simp [execOp, hop, e1, Instr.box, newVar, newRow]
    · by_cases he : q = H.length
      · simp only [if_pos he] at hb; exact hfr b (Nat.le_of_eq hb.symm)
      · simp only [if_neg he] at hb; exact hLA q b hb) hq

/-- Where an append's result lies: in the row's block, or in a new one. -/
theorem run_append_rowC {w : World} {t ty e : TypeId} {z : Value} {sz bytes n0 cap : Nat} {B : Option Addr} {xs news : List Value} {y : Value} (he : Elt P t e z sz bytes)
    (hown : w.ownsRow 0 e sz (.slice B n0 cap) n0 xs) (hy : rowH sz news w y) (h1 : ∀ u ∈ news, u.oneCell' = true) (hlim : (xs.length + news.length) * bytes ≤ 140737488355328 * sz) :
    ∃ B' m cap' w', (Builtin.append_ #[t, t] ty #[.slice B n0 cap, y]).run P w = .ok (.slice B' m cap') w' ∧ m * sz = xs.length + news.length ∧ w'.ownsRow 0 e sz (.slice B' m cap') m (xs ++ news) ∧ w.grownBy w' (Value.slice B n0 cap).ownBlock ∧
      ∀ b, (Value.slice B' m cap').ownBlock = some b → (Value.slice B n0 cap).ownBlock = some b ∨ w.heap.size ≤ b := by
  obtain ⟨v', w', hr, ⟨_, m, hm⟩, hg⟩ := run_append_rows (B := 0) (ty := ty) he ⟨Nat.zero_le _, n0, hown⟩ hy h1 hlim
  have hsl : ∃ B' cap', v' = .slice B' m cap' := by
    rcases hm.2 with ⟨h0, hm0⟩ | ⟨g, cp, cur, h0, _⟩
    · exact ⟨_, _, by rw [h0, hm0]⟩
    · exact ⟨_, _, h0⟩
  obtain ⟨B', cap', rfl⟩ := hsl
  refine ⟨B', m, cap', w', hr, by rw [← hm.1, List.length_append], hm, hg, fun b hb => ?_⟩
  obtain ⟨inf, hi, hz, hsz, hby⟩ := he.hi
  obtain ⟨A2, m2, c2, rfl, hmc, hc, hl, hnil, hcell⟩ := hy
  have hpos := he.hs
  have hnm : (n0 + m2) * bytes ≤ 140737488355328 := by
    have e1 : (xs.length + news.length) = (n0 + m2) * sz := by rw [hown.1, hl, Nat.add_mul]
    rw [e1, Nat.mul_assoc, Nat.mul_comm sz bytes, ← Nat.mul_assoc] at hlim
    exact Nat.le_of_mul_le_mul_right hlim hpos
  have h63 : n0 + m2 ≤ maxLen := by
    have := he.hb
    have h2 : n0 + m2 ≤ (n0 + m2) * bytes := Nat.le_mul_of_pos_right _ this
    simp only [maxLen]; omega
  cases A2 with
  | none =>
    obtain rfl := hnil rfl
    obtain rfl : m2 = 0 := by omega
    have hr2 := run_append_owned_none (P := P) w 0 t ty e inf sz he.ht hi (.slice B n0 cap) n0 xs hown
    rw [hr2] at hr
    simp only [Result.ok.injEq] at hr
    rw [hr.1]; exact .inl hb
  | some ad =>
    have hcs : ∀ j u, news[j]? = some u → w.cell? (ad.add j) = some u := fun j u hu => by
      obtain ⟨ad', hA, hc⟩ := hcell j u hu
      cases hA; exact hc
    rcases hown.2 with ⟨h0, hn0⟩ | ⟨g, cp, cur, hv, hb0, hg0, h5, h6, h7, h8⟩
    · -- a nil slice: whatever is new lies behind all
      have hx : xs = [] := List.eq_nil_of_length_eq_zero (by rw [hown.1, hn0, Nat.zero_mul])
      rw [h0] at hr
      have hwn : w.ownsRow w.heap.size e sz (.slice none 0 0) 0 xs := by rw [hx]; exact World.ownsRow_nil w _ e sz
      obtain ⟨v3, w3, hr3, h3, _⟩ := run_append_own (P := P) w w.heap.size t ty e inf z sz bytes he.ht hi hz hsz hby he.hz hpos (.slice none 0 0) 0 xs hwn ad m2 c2 news hl hcs h1 (by omega) (by
        have h9 := hnm; rw [hn0] at h9; exact h9) (Nat.le_refl _)
      rw [hr3] at hr
      simp only [Result.ok.injEq] at hr
      obtain ⟨rfl, rfl⟩ := hr
      exact .inr (h3.lt b hb).1
    · simp only [Value.slice.injEq] at hv
      obtain ⟨rfl, -, rfl⟩ := hv
      by_cases hroom : n0 + m2 ≤ cap
      · obtain ⟨w3, hr3, _, _⟩ := run_append_fits (P := P) w 0 t ty e inf sz he.ht hi hsz g n0 cap xs hown ad m2 c2 news hl hcs h1 hroom
        rw [hr3] at hr
        simp only [Result.ok.injEq] at hr
        rw [← hr.1] at hb
        exact .inl hb
      · have hr3 := run_append_grow (P := P) w t ty e inf z he.ht hi hz ⟨g, 0, none⟩ n0 cap xs (by rw [hsz]; exact hown.1) (hown.cells (g := g) rfl) ad m2 c2 news (by rw [hsz]; exact hl) hcs (by omega) (by have := h63; simp only [maxLen] at this; omega) (growslice_fits (by omega) (by rw [hby]; exact hnm))
        rw [hr3] at hr
        simp only [Result.ok.injEq] at hr
        rw [← hr.1] at hb
        simp only [Value.ownBlock, Option.some.injEq] at hb
        exact .inr (Nat.le_of_eq hb)

/-- append(row, row...) of a row that is a chunk -/
theorem Plan.appendC {x y : Operand} {t e : TypeId} {z : Value} {sz bytes m cap q : Nat} {B : Option Addr} {xs news : List Value} {g : Fa} (ho : ops[i]? = some o) (hop : o.op = .call { callee := .builtin .append, args := #[x, y], argTypes := #[t, t] })
    (hg : wantB ops E o = some true) (hx : opF E x = some (.ex (.slice B m cap))) (hy : opF E y = some g) (hs : Sub I g (row sz news)) (he : Elt P t e z sz bytes) (hd : ∀ d, o.dst = some d → d < n)
    (hk : look E key = some (heap A H)) (hA : Own I A) (hqH : H[q]? = some (rowC e sz B m cap xs))
    (h1 : ∀ u ∈ news, u.oneCell' = true) (hlim : (xs.length + news.length) * bytes ≤ 140737488355328 * sz)
    (h : ∀ B' m' cap', m' * sz = xs.length + news.length → Plan P ops Q n I d k (i + 1) (setE o.dst (.ex (.slice B' m' cap')) ((key, heap A (H.set q (rowC e sz B' m' cap' (xs ++ news)))) :: sieve E)))
    (hq : d = false ∨ barB ops i = true := by first | exact .inl rfl | exact .inr (by kernel_rfl)) : Plan P ops Q n I d (k + 1) i E :=
  Plan.turnRun ho hg hd hk hA (fun a w φ hI _ hs' hL hLA hfr => by
    have e1 := hs' x (by simp [hop, Op.operands, Call.operands]) _ hx
    have e2 := hs w _ hI (hs' y (by simp [hop, Op.operands, Call.operands]) _ hy)
    simp only [Fa.den] at e1
    have hc := hL.holds q _ hqH
    obtain ⟨B', m', cap', w', hr, hm', h2, h3, h4⟩ := run_append_rowC (ty := o.type) he hc.1 e2 h1 hlim
    have hK : Kept (φ q) w w' := (Kept.ofGrown h3).mono (fun b _ hb => (hc.2 b).2 hb)
    have hF : ∀ b, (Value.slice B' m' cap').ownBlock = some b → φ q b ∨ w.heap.size ≤ b := fun b hb => (h4 b hb).imp (fun e => (hc.2 b).2 e) id
    have hqlt : q < H.length := (List.getElem?_eq_some_iff.1 hqH).1
    refine ⟨.slice B' m' cap', w', .ex (.slice B' m' cap'), _, _, .inl ?_, hK.mono (fun b _ hb => hLA q b hb), hL.upd (c' := rowC e sz B' m' cap' (xs ++ news)) hqlt hK ⟨h2, fun _ => Iff.rfl⟩ hF, wide (H := H) hLA hfr hF, by simp [Fa.den], h B' m' cap' hm'⟩
    simp only [execOp, hop, resolve, invoke, builtin, List.map_toArray, List.map_cons, List.map_nil, e1, Sem.run_bind, Sem.run_pure, Result.andThen_ok, hr]) hq

/-- A call that returns a row of its own: the row is a chunk more. -/
theorem Plan.callO {f : FuncId} {xs : List Operand} {ts : Array TypeId} {fs : List Fa} {fn : Func} {e sz : Nat} {cs : List Value} {R : Nat → Fa} (ho : ops[i]? = some o)
    (hop : o.op = .call { callee := .value (.func f), args := xs.toArray, argTypes := ts }) (hg : wantB ops E o = some true) (hc : Spc P f fs R) (hR : ∀ B, R B = Free.own B e sz cs)
    (hf : P.funcs[f]? = some fn) (hbody : fn.body.isNone = false) (hname : (fn.name == "runtime.NumGoroutine") = false) (hd : ∀ d, o.dst = some d → d < n)
    (hx : Opnds I E xs fs) (hk : look E key = some (heap A H)) (hA : Own I A)
    (h : ∀ B m cap, m * sz = cs.length → Plan P ops Q n I d k (i + 1) (setE o.dst (.ex (.slice B m cap)) ((key, heap A (H ++ [rowC e sz B m cap cs])) :: sieve E))) (hq : d = false ∨ barB ops i = true := by first | exact .inl rfl | exact .inr (by kernel_rfl)) : Plan P ops Q n I d (k + 1) i E :=
  Plan.turn ho hg hd hk hA (fun a w φ hI hs hs' hL hLA hfr hsh => by
    unfold wpOp
    simp only [ho, wantB_spec ho hsh (fun t _ f hf => hs t f hf) hg, if_true]
    refine .inl ?_
    unfold Oper.wp
    have hrun : (execOp a.eval o).run P w = .ok (.enter f (xs.map a.eval).toArray) w := by
      have hn : ¬ fn.name = "runtime.NumGoroutine" := by simpa using hname
      have hb : ¬ fn.body = none := by intro e; rw [e] at hbody; cases hbody
      simp [execOp, hop, resolve, invoke, callFunc, Deferred.ofValue, Act.eval, hf, hb, hn]
    rw [hrun]
    simp only [Oper.upon]
    have hden := Opnds.dens (a := a) hI hx (fun x hxm f hf => hs' x (by simp [hop, Op.operands, Call.operands, hxm]) f hf)
    refine (hc w _ hden).mono ?_
    rintro ev w' ⟨v, rfl, hB, hRR⟩
    have h0 := hRR w.heap.size (Nat.le_refl _)
    rw [hR] at h0
    obtain ⟨_, m, hm⟩ := h0
    have hsl : ∃ B cap, v = .slice B m cap := by
      rcases hm.2 with ⟨h1, hm0⟩ | ⟨g, cp, cur, h1, _⟩
      · exact ⟨_, _, by rw [h1, hm0]⟩
      · exact ⟨_, _, h1⟩
    obtain ⟨B, cap, rfl⟩ := hsl
    have hm0 : w'.ownsRow 0 e sz (.slice B m cap) m cs := by
      refine ⟨hm.1, ?_⟩
      rcases hm.2 with h1 | ⟨g, cp, cur, hv, hb, r⟩
      · exact .inl h1
      · exact .inr ⟨g, cp, cur, hv, Nat.zero_le _, r⟩
    have hF : ∀ b, (Value.slice B m cap).ownBlock = some b → w.heap.size ≤ b := fun b hb => (hm.lt b hb).1
    refine ⟨.slice B m cap, .ex (.slice B m cap), H ++ [rowC e sz B m cap cs], _, rfl, .ofBelow hB, hL.add hB (c' := rowC e sz B m cap cs) ⟨hm0, fun _ => Iff.rfl⟩ hF, fun q b hb => ?_, by simp [Fa.den], h B m cap hm.1.symm⟩
    by_cases he : q = H.length
    · simp only [if_pos he] at hb; exact hfr b (hF b hb)
    · simp only [if_neg he] at hb; exact hLA q b hb) hq

/-- A row of the call's own, made and held in a slot, becomes a chunk where it is stored: see J.takeC. -/
theorem J.takeC {c : Code} {t B e sz : Nat} {cs : List Value} {f : Fa} (hf : look E t = some f) (hs : Sub I f (Free.own B e sz cs)) (hk : look E key = some (heap (fun b => A b ∧ b < B) H)) (hA : ∀ b, B ≤ b → A b)
    (h : ∀ B' m cap, m * sz = cs.length → J P n I c Q ((t, .ex (.slice B' m cap)) :: (key, heap A (H ++ [rowC e sz B' m cap cs])) :: E)) : J P n I c Q E := fun a w h1 h2 h3 => by
  obtain ⟨φ, hL, hLA⟩ := h3 key _ hk
  obtain ⟨_, m, hm⟩ := hs w _ h1 (h3 t f hf)
  have hsl : ∃ B' cap', a.slot t = .slice B' m cap' := by
    rcases hm.2 with ⟨h0, hm0⟩ | ⟨g, cp, cur, h0, _⟩
    · exact ⟨_, _, by rw [h0, hm0]⟩
    · exact ⟨_, _, h0⟩
  obtain ⟨B', cap, hv⟩ := hsl
  rw [hv] at hm
  refine h B' m cap hm.1.symm a w h1 h2 (derive_sat (heap_put h3 (φ := fun p b => if p = H.length then (Value.slice B' m cap).ownBlock = some b else φ p b) ?_ ?_) (by simp [Fa.den, hv]))
  · have hm0 : w.ownsRow 0 e sz (.slice B' m cap) m cs := by
      refine ⟨hm.1, ?_⟩
      rcases hm.2 with h0 | ⟨g, cp, cur, hv, hb, r⟩
      · exact .inl h0
      · exact .inr ⟨g, cp, cur, hv, Nat.zero_le _, r⟩
    refine ⟨fun p c hp => ?_, fun p p' b hp hp' => ?_, fun p b hp => ?_⟩
    · by_cases he : p = H.length
      · subst he
        simp only [List.getElem?_concat_length, Option.some.injEq] at hp
        subst hp
        simp only [if_true]
        exact ⟨hm0, fun _ => Iff.rfl⟩
      · have hl : p < (H ++ [rowC e sz B' m cap cs]).length := (List.getElem?_eq_some_iff.1 hp).1
        have hl' : p < H.length := by simp at hl; omega
        rw [List.getElem?_append_left hl'] at hp
        simp only [if_neg he]
        exact hL.holds p c hp
    · by_cases he : p = H.length
      · by_cases he' : p' = H.length
        · rw [he, he']
        · simp only [if_pos he] at hp
          simp only [if_neg he'] at hp'
          have h5 := (hm.lt b hp).1
          have h6 := (hLA p' b hp').2
          omega
      · by_cases he' : p' = H.length
        · simp only [if_neg he] at hp
          simp only [if_pos he'] at hp'
          have h5 := (hm.lt b hp').1
          have h6 := (hLA p b hp).2
          omega
        · simp only [if_neg he] at hp
          simp only [if_neg he'] at hp'
          exact hL.apart p p' b hp hp'
    · rw [List.length_append]
      by_cases he : p = H.length
      · simp [he]
      · simp only [if_neg he] at hp
        have := hL.bound p b hp
        simp; omega
  · intro q b hb
    by_cases he : q = H.length
    · simp only [if_pos he] at hb
      exact hA b (hm.lt b hb).1
    · simp only [if_neg he] at hb
      exact (hLA q b hb).1
end
end Go.Free
