/-
  Laid together: FreeHeap3, FreeHeap4, FreeHeap5, FreeHeap6, FreePtr, FlatEq, EvBase, FreeTree, EvFns.
-/
import Derived.Test.YtfglecmimoeinaaRRemB
import Derived.Laws.Tables
import Derived.Laws.Pointers
import Derived.DeepKeys
import Derived.Laws.StructEq

section
set_option linter.unusedSimpArgs false
set_option linter.unusedVariables false
set_option maxRecDepth 20000
namespace Go.Free
open Go.RowKit

def envNow : List Fa → Nat → Env
  | [], _ => []
  | f :: fs, i => (i, f) :: envNow fs (i + 1)
theorem envNow_sat {w0 : World} {tmps : Array Value} : ∀ {fs : List Fa} {vs : List Value} {i : Nat}, Fa.dens fs w0 vs → (∀ j v, vs[j]? = some v → tmps[i + j]? = some v) →
    ∀ t f, look (envNow fs i) t = some f → f.den w0 (tmps.getD t undef)
  | [], _, _, _, _, t, f, h => by simp [envNow, look] at h
  | g :: fs, vs, i, hd, hv, t, f, h => by
    simp only [Fa.dens] at hd
    obtain ⟨y, ys, rfl, h1, h2⟩ := hd
    simp only [envNow, look] at h
    by_cases ht : i = t
    · subst ht
      simp only [if_true, Option.some.injEq] at h
      subst h
      have := hv 0 y rfl
      simp only [Nat.add_zero] at this
      have hlt : i < tmps.size := (Array.getElem?_eq_some_iff.1 this).1
      have hg : tmps.getD i undef = y := by
        simp only [Array.getD, hlt, dite_true]
        exact (Array.getElem?_eq_some_iff.1 this).2
      rw [hg]
      exact h1
    · rw [if_neg ht] at h
      exact envNow_sat (i := i + 1) h2 (fun j v hj => by have := hv (j + 1) v (by simpa using hj); rw [← this]; congr 1; omega) t f h
theorem dens_len : ∀ (w : World) (l : List Fa) (xs : List Value), Fa.dens l w xs → xs.length = l.length := by
  intro w l
  induction l with
  | nil => intro xs hx; simp only [Fa.dens] at hx; subst hx; rfl
  | cons g l ih => intro xs hx; simp only [Fa.dens] at hx; obtain ⟨y, ys, rfl, _, h2⟩ := hx; simp [ih ys h2]
theorem frame_args {args : List Value} {m : Nat} (j : Nat) (v : Value) (hj : args[j]? = some v) : (args.toArray ++ Array.replicate m undef)[0 + j]? = some v := by
  have hlt : j < args.length := (List.getElem?_eq_some_iff.1 hj).1
  have hv : args[j] = v := by have := List.getElem?_eq_getElem hlt; rw [hj] at this; exact (Option.some.inj this).symm
  simp [Array.getElem?_append, hlt, hv]

def FnPostC (P : Program) (fn : Func) {X : Type} (ok : X → Prop) (R : X → Fa) (c' : X → Chunk) (w0 : World) (F : Nat → Prop) : Exit → Act → World → Prop
  | .normal, a, w | .ret, a, w => a.defers = [] ∧ ∃ v x, (results fn a.tmps).run P w = .ok v w ∧ ok x ∧ Kept F w0 w ∧ (R x).den w v ∧ ∃ F', (c' x).holds w F' ∧ ∀ b, F' b → F b ∨ w0.heap.size ≤ b
  | _, _, _ => False

/-- The heap with one chunk. -/
theorem Lies.one {c : Chunk} {w : World} {F : Nat → Prop} (h : c.holds w F) : Lies [c] (fun q b => q = 0 ∧ F b) w :=
  ⟨fun q d hq => by
      cases q with
      | zero => simp only [List.getElem?_cons_zero, Option.some.injEq] at hq; subst hq; simpa using h
      | succ q => simp at hq,
    fun p q b hp hq => hp.1.trans hq.1.symm, fun q b hb => by simp [hb.1]⟩

theorem SpcC.intro {P : Program} {f : FuncId} {fn : Func} {body : Code} {As : List Fa} {c : Chunk} {X : Type} {ok : X → Prop} {R : X → Fa} {c' : X → Chunk} (hf : P.funcs[f]? = some fn) (hb : fn.body = some body) (hsz : As.length ≤ fn.ntmps)
    (h : ∀ w0 F, J P fn.ntmps (fun w => Kept F w0 w) body (FnPostC P fn ok R c' w0 F) ((1000, heap (fun b => F b ∨ w0.heap.size ≤ b) [c]) :: envNow As 0)) : SpcC P f As c ok R c' := by
  intro w args F hd hc
  have hlen : args.length = As.length := dens_len w As args hd
  refine calls_of_wp hf hb ?_
  refine wp_mono (h w F _ w (Kept.refl _ _) ⟨by simp [hlen]; omega, rfl⟩ ?_) ?_
  · intro t f' hf'
    simp only [look] at hf'
    by_cases ht : 1000 = t
    · rw [if_pos ht] at hf'
      cases hf'
      exact ⟨_, Lies.one hc, fun q b hb => .inl hb.2⟩
    · rw [if_neg ht] at hf'
      exact envNow_sat (vs := args) hd (fun j v hj => frame_args j v hj) t f' hf'
  · rintro e a w' hq
    cases e <;> simp only [FnPostC] at hq <;> first | exact hq.elim | skip
    all_goals
      obtain ⟨h1, v, x, h2, h3⟩ := hq
      exact ⟨h1, v, h2, v, x, rfl, h3⟩

theorem SpcR.intro {P : Program} {f : FuncId} {fn : Func} {body : Code} {As : List Fa} {c : Chunk} {R : Nat → Fa} (hf : P.funcs[f]? = some fn) (hb : fn.body = some body) (hsz : As.length ≤ fn.ntmps)
    (h : ∀ w0, J P fn.ntmps (fun w => Below w0.heap.size w0 w) body (FnPost P fn R w0) ((1000, heap (fun _ => True) [c]) :: envArgs w0 As 0)) : SpcR P f As c R := by
  intro w args F hd hc
  have hlen : args.length = As.length := dens_len w As args hd
  refine calls_of_wp hf hb ?_
  refine wp_mono (h w _ w (Below.refl _ _) ⟨by simp [hlen]; omega, rfl⟩ ?_) ?_
  · intro t f' hf'
    simp only [look] at hf'
    by_cases ht : 1000 = t
    · rw [if_pos ht] at hf'
      cases hf'
      exact ⟨_, Lies.one hc, fun q b hb => trivial⟩
    · rw [if_neg ht] at hf'
      exact envArgs_sat (vs := args) hd (fun j v hj => frame_args j v hj) t f' hf'
  · rintro e a w' hq
    cases e <;> simp only [FnPost] at hq <;> first | exact hq.elim | skip
    all_goals
      obtain ⟨h1, v, h2, h3, h4⟩ := hq
      exact ⟨h1, v, h2, v, rfl, h3, h4⟩

/-- What reads c reads all that has c. -/
theorem SpcR.ent {P : Program} {f : FuncId} {As : List Fa} {c d : Chunk} {R : Nat → Fa} (h : SpcR P f As c R) (he : Ent d c) : SpcR P f As d R := fun w args F hd hc => by
  obtain ⟨G, h1, _⟩ := he w F hc
  exact h w args G hd h1

section
variable {P : Program} {ops : Array Oper} {Q : Exit → Act → World → Prop} {n : Nat} {I : World → Prop} {k i : Nat} {E : Env} {o : Oper} {d : Bool} {A : Nat → Prop} {H : List Chunk} {key : Nat}

/-! ### The end of a function -/
theorem Nrm.retC1 {fn : Func} {X : Type} {ok : X → Prop} {R : X → Fa} {c' : X → Chunk} {w0 : World} {F : Nat → Prop} {t : Nat} {g : Fa} (x : X) (hr : fn.results = #[.tmp t]) (hl : look E t = some g)
    (hk : look E key = some (heap (fun b => F b ∨ w0.heap.size ≤ b) H)) (hok : ok x) (hs : Sub (fun w => Kept F w0 w) g (R x)) (he : Ent (allC H) (c' x)) : Nrm n (fun w => Kept F w0 w) (FnPostC P fn ok R c' w0 F .ret) E := fun _ w h1 h2 h3 => by
  obtain ⟨φ, hL, hA⟩ := h3 key _ hk
  obtain ⟨G, g1, g2⟩ := he w _ hL.all
  exact ⟨h2.defers, _, x, results_tmp hr _ _ _, hok, h1, hs w _ h1 (h3 t g hl), G, g1, fun b hb => by obtain ⟨q, hq⟩ := g2 b hb; exact hA q b hq⟩
theorem Nrm.retC0 {fn : Func} {X : Type} {ok : X → Prop} {R : X → Fa} {c' : X → Chunk} {w0 : World} {F : Nat → Prop} {e : Exit} (x : X) (hr : fn.results = #[]) (hl : R x = Fa.any)
    (hk : look E key = some (heap (fun b => F b ∨ w0.heap.size ≤ b) H)) (hok : ok x) (he : Ent (allC H) (c' x)) (hx : e = .normal ∨ e = .ret) : Nrm n (fun w => Kept F w0 w) (FnPostC P fn ok R c' w0 F e) E := fun a w h1 h2 h3 => by
  obtain ⟨φ, hL, hA⟩ := h3 key _ hk
  obtain ⟨G, g1, g2⟩ := he w _ hL.all
  have hres : (results fn a.tmps).run P w = .ok (.tuple #[]) w := by simp [results, hr]
  have : FnPostC P fn ok R c' w0 F .ret a w := ⟨h2.defers, _, x, hres, hok, h1, by rw [hl]; exact any_den _ _, G, g1, fun b hb => by obtain ⟨q, hq⟩ := g2 b hb; exact hA q b hq⟩
  rcases hx with rfl | rfl <;> exact this
theorem Nrm.retC2 {fn : Func} {X : Type} {ok : X → Prop} {R : X → Fa} {c' : X → Chunk} {w0 : World} {F : Nat → Prop} {t u : Nat} {fs : List Fa} (x : X) (hr : fn.results = #[.tmp t, .tmp u]) (hl : R x = .tup fs)
    (hk : look E key = some (heap (fun b => F b ∨ w0.heap.size ≤ b) H)) (hok : ok x) (hs : Ress (fun w => Kept F w0 w) E [t, u] fs) (he : Ent (allC H) (c' x)) : Nrm n (fun w => Kept F w0 w) (FnPostC P fn ok R c' w0 F .ret) E := fun a w h1 h2 h3 => by
  obtain ⟨φ, hL, hA⟩ := h3 key _ hk
  obtain ⟨G, g1, g2⟩ := he w _ hL.all
  refine ⟨h2.defers, _, x, results_tmp2 hr _ _ _, hok, h1, ?_, G, g1, fun b hb => by obtain ⟨q, hq⟩ := g2 b hb; exact hA q b hq⟩
  rw [hl]
  simp only [Fa.den]
  exact ⟨_, rfl, hs.dens h1 h3⟩

/-! ### Chunks opened and told anew -/
theorem heap_put {a : Act} {w : World} (h3 : Sat E a w) {H' : List Chunk} {φ : Nat → Nat → Prop} (hL : Lies H' φ w) (hA : ∀ q b, φ q b → A b) : Sat ((key, heap A H') :: E) a w := fun t f hf => by
  simp only [look] at hf
  by_cases ht : key = t
  · rw [if_pos ht] at hf; cases hf; exact ⟨φ, hL, hA⟩
  · rw [if_neg ht] at hf; exact h3 t f hf
theorem Lies.conv {φ : Nat → Nat → Prop} {w : World} {q : Nat} {c' : Chunk} {F : Nat → Prop} (h : Lies H φ w) (hq : q < H.length) (hc : c'.holds w F) (hF : ∀ b, F b → φ q b) :
    Lies (H.set q c') (fun p b => if p = q then F b else φ p b) w := h.upd hq (Kept.refl _ _) hc (fun b hb => .inl (hF b hb))
theorem conv_A {φ : Nat → Nat → Prop} {q : Nat} {F : Nat → Prop} (h : ∀ q b, φ q b → A b) (hF : ∀ b, F b → φ q b) : ∀ p b, (if p = q then F b else φ p b) → A b := fun p b hb => by
  by_cases he : p = q
  · rw [if_pos he] at hb; exact h q b (hF b hb)
  · rw [if_neg he] at hb; exact h p b hb

theorem J.convC {c : Code} {q : Nat} {c1 c2 : Chunk} (hk : look E key = some (heap A H)) (hq : H[q]? = some c1) (he : Ent c1 c2) (h : J P n I c Q ((key, heap A (H.set q c2)) :: E)) : J P n I c Q E := fun a w h1 h2 h3 => by
  obtain ⟨φ, hL, hA⟩ := h3 key _ hk
  obtain ⟨G, g1, g2⟩ := he w _ (hL.holds q _ hq)
  exact h a w h1 h2 (heap_put h3 (hL.conv (List.getElem?_eq_some_iff.1 hq).1 g1 g2) (conv_A hA g2))
theorem J.exC {c : Code} {q : Nat} {X : Type} {c1 : X → Chunk} (hk : look E key = some (heap A H)) (hq : H[q]? = some (Free.exC c1)) (h : ∀ x, J P n I c Q ((key, heap A (H.set q (c1 x))) :: E)) : J P n I c Q E := fun a w h1 h2 h3 => by
  obtain ⟨φ, hL, hA⟩ := h3 key _ hk
  obtain ⟨x, hx⟩ := hL.holds q _ hq
  exact h x a w h1 h2 (heap_put h3 (hL.conv (List.getElem?_eq_some_iff.1 hq).1 hx (fun _ hb => hb)) (conv_A hA (fun _ hb => hb)))
theorem J.purC {c : Code} {q : Nat} {p : Prop} {c1 : Chunk} (hk : look E key = some (heap A H)) (hq : H[q]? = some (Free.purC p c1)) (h : p → J P n I c Q ((key, heap A (H.set q c1)) :: E)) : J P n I c Q E := fun a w h1 h2 h3 => by
  obtain ⟨φ, hL, hA⟩ := h3 key _ hk
  obtain ⟨hp, hx⟩ := hL.holds q _ hq
  exact h hp a w h1 h2 (heap_put h3 (hL.conv (List.getElem?_eq_some_iff.1 hq).1 hx (fun _ hb => hb)) (conv_A hA (fun _ hb => hb)))
theorem Lies.split {φ : Nat → Nat → Prop} {w : World} {q : Nat} {c1 c2 : Chunk} (h : Lies H φ w) (hq : H[q]? = some (Free.sepC c1 c2)) : ∃ φ', Lies (H.set q c1 ++ [c2]) φ' w ∧ ∀ p b, φ' p b → ∃ p', φ p' b := by
  obtain ⟨G, K, e1, e2, e3, e4⟩ := h.holds q _ hq
  have hql : q < H.length := (List.getElem?_eq_some_iff.1 hq).1
  have h0 : ∀ p b, (if p = q then G b else φ p b) → φ p b := fun p b hb => by
    by_cases he : p = q
    · rw [if_pos he] at hb; rw [he]; exact (e1 b).2 (.inl hb)
    · rw [if_neg he] at hb; exact hb
  have hc := h.conv hql e3 (fun b hb => (e1 b).2 (.inl hb))
  refine ⟨fun p b => if p = H.length then K b else if p = q then G b else φ p b, ⟨fun p c hp => ?_, fun p p' b hp hp' => ?_, fun p b hp => ?_⟩, fun p b hb => ?_⟩
  · by_cases he : p = H.length
    · subst he
      rw [List.getElem?_append_right (by simp), List.length_set, Nat.sub_self] at hp
      cases hp
      simpa using e4
    · have hl : p < (H.set q c1 ++ [c2]).length := (List.getElem?_eq_some_iff.1 hp).1
      rw [List.length_append, List.length_set, List.length_singleton] at hl
      rw [List.getElem?_append_left (by rw [List.length_set]; omega)] at hp
      simp only [if_neg he]
      exact hc.holds p c hp
  · by_cases he : p = H.length
    · by_cases he' : p' = H.length
      · rw [he, he']
      · simp only [if_pos he] at hp
        simp only [if_neg he'] at hp'
        exfalso
        by_cases hpq : p' = q
        · rw [if_pos hpq] at hp'; exact e2 b hp' hp
        · rw [if_neg hpq] at hp'; exact hpq (h.apart _ _ b hp' ((e1 b).2 (.inr hp)))
    · by_cases he' : p' = H.length
      · simp only [if_neg he] at hp
        simp only [if_pos he'] at hp'
        exfalso
        by_cases hpq : p = q
        · rw [if_pos hpq] at hp; exact e2 b hp hp'
        · rw [if_neg hpq] at hp; exact hpq (h.apart _ _ b hp ((e1 b).2 (.inr hp')))
      · simp only [if_neg he] at hp
        simp only [if_neg he'] at hp'
        exact hc.apart p p' b hp hp'
  · rw [List.length_append, List.length_set, List.length_singleton]
    by_cases he : p = H.length
    · omega
    · simp only [if_neg he] at hp
      have := h.bound p b (h0 p b hp)
      omega
  · by_cases he : p = H.length
    · simp only [if_pos he] at hb
      exact ⟨q, (e1 b).2 (.inr hb)⟩
    · simp only [if_neg he] at hb
      exact ⟨p, h0 p b hb⟩
theorem J.sepC {c : Code} {q : Nat} {c1 c2 : Chunk} (hk : look E key = some (heap A H)) (hq : H[q]? = some (Free.sepC c1 c2)) (h : J P n I c Q ((key, heap A (H.set q c1 ++ [c2])) :: E)) : J P n I c Q E := fun a w h1 h2 h3 => by
  obtain ⟨φ, hL, hA⟩ := h3 key _ hk
  obtain ⟨φ', hL', hA'⟩ := hL.split hq
  exact h a w h1 h2 (heap_put h3 hL' (fun p b hb => by obtain ⟨p', hp'⟩ := hA' p b hb; exact hA p' b hp'))
theorem J.factC {c : Code} {q : Nat} {c1 : Chunk} {p : Prop} (hk : look E key = some (heap A H)) (hq : H[q]? = some c1) (hf : ∀ w F, c1.holds w F → p) (h : p → J P n I c Q E) : J P n I c Q E := fun a w h1 h2 h3 => by
  obtain ⟨φ, hL, _⟩ := h3 key _ hk
  exact h (hf w _ (hL.holds q _ hq)) a w h1 h2 h3

/-- What is known of a row's slice. -/
theorem row_fact {e sz n cap : Nat} {B : Option Addr} {xs : List Value} {w : World} {F : Nat → Prop} (h : (rowC e sz B n cap xs).holds w F) :
    xs.length = n * sz ∧ n ≤ cap ∧ cap ≤ 9223372036854775807 ∧ ((B = none ∧ n = 0 ∧ cap = 0) ∨ ∃ g, B = some ⟨g, 0, none⟩) := by
  refine ⟨h.1.1, ?_⟩
  rcases h.1.2 with ⟨h0, h1⟩ | ⟨g, cp, cur, hv, _, _, h1, h2, _⟩
  · simp only [Value.slice.injEq] at h0
    exact ⟨by omega, by omega, .inl h0⟩
  · simp only [Value.slice.injEq] at hv
    obtain ⟨rfl, -, rfl⟩ := hv
    exact ⟨h1, by simpa [maxLen] using h2, .inr ⟨g, rfl⟩⟩
theorem row_rowH {e sz n cap : Nat} {B : Option Addr} {xs : List Value} {w : World} {F : Nat → Prop} (h : (rowC e sz B n cap xs).holds w F) : rowH sz xs w (.slice B n cap) :=
  own_row (B := 0) (e := e) ⟨Nat.zero_le _, n, h.1⟩
theorem Ent.rowCut {e sz n m cap : Nat} {B : Option Addr} {xs : List Value} (hm : m ≤ n) : Ent (rowC e sz B n cap xs) (rowC e sz B m cap (xs.take (m * sz))) := fun w F h => by
  refine ⟨F, ⟨⟨?_, ?_⟩, fun b => (h.2 b).trans ?_⟩, fun _ hb => hb⟩
  · rw [List.length_take, h.1.1]; exact Nat.min_eq_left (Nat.mul_le_mul_right _ hm)
  · rcases h.1.2 with ⟨h0, h1⟩ | ⟨g, cp, cur, hv, h0, h1, h2, h3, h4, h5⟩
    · simp only [Value.slice.injEq] at h0
      obtain ⟨rfl, rfl, rfl⟩ := h0
      obtain rfl : m = 0 := by omega
      exact .inl ⟨rfl, rfl⟩
    · simp only [Value.slice.injEq] at hv
      obtain ⟨rfl, -, rfl⟩ := hv
      refine .inr ⟨g, cap, cur, rfl, h0, h1, by omega, h3, h4, ?_⟩
      rw [← h5, List.take_take, Nat.min_eq_left (Nat.mul_le_mul_right _ hm)]
  · cases B <;> rfl
theorem Ent.rowEq {e sz n cap : Nat} {B : Option Addr} {xs ys : List Value} (h : xs = ys) : Ent (rowC e sz B n cap xs) (rowC e sz B n cap ys) := h ▸ Ent.refl _
/-- A nil slice is a row of none. -/
theorem nil_row (e sz : Nat) (w : World) : (rowC e sz none 0 0 []).holds w (fun _ => False) := ⟨World.ownsRow_nil w 0 e sz, fun b => ⟨fun h => h.elim, fun h => by simp [Value.ownBlock] at h⟩⟩
theorem Ent.nilRow {c : Chunk} {e sz : Nat} : Ent c (rowC e sz none 0 0 []) := fun w _ _ => ⟨_, nil_row e sz w, fun _ h => h.elim⟩
/-- A row more, of a nil slice. -/
theorem J.nilRow {c : Code} (e sz : Nat) (hk : look E key = some (heap A H)) (h : J P n I c Q ((key, heap A (H ++ [rowC e sz none 0 0 []])) :: E)) : J P n I c Q E := fun a w h1 h2 h3 => by
  obtain ⟨φ, hL, hA⟩ := h3 key _ hk
  refine h a w h1 h2 (heap_put h3 (hL.add (Below.refl _ _) (nil_row e sz w) (fun _ h => h.elim)) (fun q b hb => ?_))
  by_cases he : q = H.length
  · simp only [if_pos he] at hb
  · simp only [if_neg he] at hb; exact hA q b hb

/-! ### Operations -/
/-- A slice out of a chunk, of which a row's contents are known. -/
theorem Plan.loadRowC {t : TypeId} {u : TypeDesc} {x : Operand} {β off q q2 m cap e sz : Nat} {c : Chunk} {B : Option Addr} {xs : List Value} (ho : ops[i]? = some o) (hop : o.op = .load t x) (hg : wantB ops E o = some true)
    (hx : opF E x = some (.ex (.pointer (some ⟨β, off, none⟩)))) (hk : look E key = some (heap A H)) (hqH : H[q]? = some c) (hr : c.reads β off [.slice B m cap]) (hqH2 : H[q2]? = some (rowC e sz B m cap xs)) (hu : P.underlying t = some u) (hna : aggB u = false) (hkn : n ≤ key)
    (h : Plan P ops Q n I d k (i + 1) (setE o.dst (row sz xs) E)) : Plan P ops Q n I d (k + 1) i E :=
  Plan.step ho (Step.runK ho hg fun a w _ hs' hK => by
    have e1 := hs' x (by simp [hop, Op.operands]) _ hx
    simp only [Fa.den] at e1
    obtain ⟨φ, hL, _⟩ := hK key hkn _ hk
    have hc := hr w (φ q) (hL.holds q c hqH) 0 _ rfl
    simp only [Nat.add_zero] at hc
    refine ⟨.slice B m cap, w, ?_, Below.refl _ _, row_rowH (hL.holds q2 _ hqH2)⟩
    have hagg : (isAgg t).run P w = .ok false w := by
      cases u <;> simp [aggB] at hna <;> simp [isAgg, run_underlying hu]
    simp [execOp, hop, e1, Instr.loadAt, Instr.sureAddr, loadVar, hagg, run_load, hc]) h
theorem Plan.lenE {t e : TypeId} {x : Operand} {B : Option Addr} {m cap : Nat} (ho : ops[i]? = some o) (hop : o.op = .call { callee := .builtin .len, args := #[x], argTypes := #[t] }) (hg : wantB ops E o = some true)
    (hx : opF E x = some (.ex (.slice B m cap))) (hu : P.underlying t = some (.slice e))
    (h : Plan P ops Q n I d k (i + 1) (setE o.dst (.ex (.int .i64 m)) E)) : Plan P ops Q n I d (k + 1) i E :=
  Plan.step ho (Step.run ho hg fun a w hI hs' => by
    have hv := hs' x (by simp [hop, Op.operands, Call.operands]) _ hx
    simp only [Fa.den] at hv
    refine ⟨.int .i64 m, w, ?_, Below.refl _ _, by simp [Fa.den]⟩
    have hr : (Builtin.len_ #[t] o.type #[.slice B m cap]).run P w = .ok (goInt m) w := by simp [Builtin.len_, run_underlying hu]
    simp only [execOp, hop, resolve, invoke, builtin, List.map_toArray, List.map_cons, List.map_nil, hv, Sem.run_bind, Sem.run_pure, Result.andThen_ok, hr]
    rfl) h
theorem Plan.eqlPtr {t yt : TypeId} {x : Operand} {p : Option Addr} (ho : ops[i]? = some o) (hop : o.op = .binOp .eql t x (.const (.pointer none)) yt) (hg : wantB ops E o = some true)
    (hx : opF E x = some (.ex (.pointer p))) (hu : P.underlying t = some (.pointer (P.pointee t)))
    (h : Plan P ops Q n I d k (i + 1) (setE o.dst (.ex (.bool p.isNone)) E)) : Plan P ops Q n I d (k + 1) i E :=
  Plan.step ho (Step.run ho hg fun a w hI hs' => by
    have hv := hs' x (by simp [hop, Op.operands]) _ hx
    simp only [Fa.den] at hv
    refine ⟨.bool p.isNone, w, ?_, Below.refl _ _, by simp [Fa.den]⟩
    have hev : a.eval (.const (.pointer none)) = .pointer none := rfl
    have hgd : (eqGuard .eql t x (.const (.pointer none)) (.pointer p) (.pointer none)).run P w = .ok () w := by simp [eqGuard]
    simp only [execOp, hop, hv, hev, Sem.run_bind, hgd, Result.andThen_ok, run_eql_pointer_nil w t p hu, Sem.run_pure]) h
theorem Plan.neqPtr {t yt : TypeId} {x : Operand} {p : Option Addr} (ho : ops[i]? = some o) (hop : o.op = .binOp .neq t x (.const (.pointer none)) yt) (hg : wantB ops E o = some true)
    (hx : opF E x = some (.ex (.pointer p))) (hu : P.underlying t = some (.pointer (P.pointee t)))
    (h : Plan P ops Q n I d k (i + 1) (setE o.dst (.ex (.bool (!p.isNone))) E)) : Plan P ops Q n I d (k + 1) i E :=
  Plan.step ho (Step.run ho hg fun a w hI hs' => by
    have hv := hs' x (by simp [hop, Op.operands]) _ hx
    simp only [Fa.den] at hv
    refine ⟨.bool (!p.isNone), w, ?_, Below.refl _ _, by simp [Fa.den]⟩
    have hev : a.eval (.const (.pointer none)) = .pointer none := rfl
    have hgd : (eqGuard .neq t x (.const (.pointer none)) (.pointer p) (.pointer none)).run P w = .ok () w := by simp [eqGuard]
    simp only [execOp, hop, hv, hev, Sem.run_bind, hgd, Result.andThen_ok, run_neq_pointer_nil w t p hu, Sem.run_pure]) h

/-- The parts of a struct that is built. -/
def Parts (E : Env) : List (Nat × Operand) → List (Nat × Value) → Prop
  | [], vs => vs = []
  | (j, x) :: r, vs => ∃ v r', opF E x = some (.ex v) ∧ vs = (j, v) :: r' ∧ Parts E r r'
theorem Parts.nil : Parts E [] [] := rfl
theorem Parts.cons {j : Nat} {x : Operand} {r : List (Nat × Operand)} {v : Value} {r' : List (Nat × Value)} (h : opF E x = some (.ex v)) (hr : Parts E r r') : Parts E ((j, x) :: r) ((j, v) :: r') := ⟨v, r', h, rfl, hr⟩
theorem Parts.eval {w : World} {a : Act} : ∀ {ps : List (Nat × Operand)} {vs : List (Nat × Value)}, Parts E ps vs → (∀ p ∈ ps, ∀ f, opF E p.2 = some f → f.den w (a.eval p.2)) → ps.map (fun p => (p.1, a.eval p.2)) = vs
  | [], _, h, _ => by simp only [Parts] at h; subst h; rfl
  | (j, x) :: r, _, h, hs => by
    obtain ⟨v, r', h1, rfl, h3⟩ := h
    have hv := hs (j, x) List.mem_cons_self _ h1
    simp only [Fa.den] at hv
    rw [List.map_cons, Parts.eval h3 (fun p hp => hs p (List.mem_cons_of_mem _ hp)), hv]
theorem Plan.build {t : TypeId} {ps : List (Nat × Operand)} {vs : List (Nat × Value)} {cells : Array Value} (ho : ops[i]? = some o) (hop : o.op = .build t ps.toArray) (hg : wantB ops E o = some true)
    (hps : Parts E ps vs) (hb : P.built t vs = some cells)
    (h : Plan P ops Q n I d k (i + 1) (setE o.dst (.ex (.agg cells)) E)) : Plan P ops Q n I d (k + 1) i E :=
  Plan.step ho (Step.run ho hg fun a w hI hs' => by
    have hv := hps.eval (w := w) (a := a) (fun p hp f hf => hs' p.2 (by simp only [hop, Op.operands]; simp; exact ⟨p.1, hp⟩) f hf)
    refine ⟨.agg cells, w, ?_, Below.refl _ _, by simp [Fa.den]⟩
    have hr := run_build (P := P) w t vs.toArray cells (by simpa using hb)
    have he : (ps.toArray.map fun (p : Nat × Operand) => (p.1, a.eval p.2)) = vs.toArray := by rw [List.map_toArray, hv]
    simp only [execOp, hop, Sem.run_bind]
    erw [he]
    rw [hr]
    rfl) h
/-- A new variable with a value. -/
theorem Plan.boxC {t : TypeId} {x : Operand} {v : Value} (ho : ops[i]? = some o) (hop : o.op = .box t x) (hg : wantB ops E o = some true) (hd : ∀ d, o.dst = some d → d < n) (hx : opF E x = some (.ex v))
    (hk : look E key = some (heap A H)) (hA : Own I A)
    (h : ∀ β, Plan P ops Q n I d k (i + 1) (setE o.dst (.ex (ptr β)) ((key, heap A (H ++ [obj β v.cells.toList])) :: sieve E))) (hq : d = false ∨ barB ops i = true := by first | exact .inl rfl | exact .inr (by kernel_rfl)) : Plan P ops Q n I d (k + 1) i E :=
  Plan.turnRun ho hg hd hk hA (fun a w φ _ _ hs' hL hLA hfr => by
    have e1 := hs' x (by simp [hop, Op.operands]) _ hx
    simp only [Fa.den] at e1
    have hb : Below w.heap.size w (w.alloc (.cells v.cells t)) := (Below.refl _ _).alloc (Nat.le_refl _) _
    have hL' := hL.add (c' := obj w.heap.size v.cells.toList) (F := fun b => b = w.heap.size) hb ⟨⟨t, by rw [Array.toArray_toList]; exact heap_alloc_new w _⟩, fun b => Iff.rfl⟩ (fun b e => Nat.le_of_eq e.symm)
    refine ⟨ptr w.heap.size, w.alloc (.cells v.cells t), .ex (ptr w.heap.size), _, _, .inl ?_, .ofBelow hb, hL', fun q b hb => ?_, by simp [Fa.den], h w.heap.size⟩
    · simp [execOp, hop, e1, Instr.box, newVar, newRow]
    · by_cases he : q = H.length
      · simp only [if_pos he] at hb; exact hfr b (Nat.le_of_eq hb.symm)
      · simp only [if_neg he] at hb; exact hLA q b hb) hq

/-- Where an append's result lies: in the row's block, or in a new one. -/
theorem run_append_rowC {w : World} {t ty e : TypeId} {z : Value} {sz bytes n0 cap : Nat} {B : Option Addr} {xs news : List Value} {y : Value} (he : Elt P t e z sz bytes)
    (hown : w.ownsRow 0 e sz (.slice B n0 cap) n0 xs) (hy : rowH sz news w y) (h1 : ∀ u ∈ news, u.oneCell' = true) (hlim : (xs.length + news.length) * bytes ≤ 140737488355328 * sz) :
    ∃ B' m cap' w', (Builtin.append_ #[t, t] ty #[.slice B n0 cap, y]).run P w = .ok (.slice B' m cap') w' ∧ m * sz = xs.length + news.length ∧ w'.ownsRow 0 e sz (.slice B' m cap') m (xs ++ news) ∧ w.grownBy w' (Value.slice B n0 cap).ownBlock ∧
      ∀ b, (Value.slice B' m cap').ownBlock = some b → (Value.slice B n0 cap).ownBlock = some b ∨ w.heap.size ≤ b := by
  obtain ⟨v', w', hr, ⟨_, m, hm⟩, hg⟩ := run_append_rows (B := 0) (ty := ty) he ⟨Nat.zero_le _, n0, hown⟩ hy h1 hlim
  have hsl : ∃ B' cap', v' = .slice B' m cap' := by
    rcases hm.2 with ⟨h0, hm0⟩ | ⟨g, cp, cur, h0, _⟩
    · exact ⟨_, _, by rw [h0, hm0]⟩
    · exact ⟨_, _, h0⟩
  obtain ⟨B', cap', rfl⟩ := hsl
  refine ⟨B', m, cap', w', hr, by rw [← hm.1, List.length_append], hm, hg, fun b hb => ?_⟩
  obtain ⟨inf, hi, hz, hsz, hby⟩ := he.hi
  obtain ⟨A2, m2, c2, rfl, hmc, hc, hl, hnil, hcell⟩ := hy
  have hpos := he.hs
  have hnm : (n0 + m2) * bytes ≤ 140737488355328 := by
    have e1 : (xs.length + news.length) = (n0 + m2) * sz := by rw [hown.1, hl, Nat.add_mul]
    rw [e1, Nat.mul_assoc, Nat.mul_comm sz bytes, ← Nat.mul_assoc] at hlim
    exact Nat.le_of_mul_le_mul_right hlim hpos
  have h63 : n0 + m2 ≤ maxLen := by
    have := he.hb
    have h2 : n0 + m2 ≤ (n0 + m2) * bytes := Nat.le_mul_of_pos_right _ this
    simp only [maxLen]; omega
  cases A2 with
  | none =>
    obtain rfl := hnil rfl
    obtain rfl : m2 = 0 := by omega
    have hr2 := run_append_owned_none (P := P) w 0 t ty e inf sz he.ht hi (.slice B n0 cap) n0 xs hown
    rw [hr2] at hr
    simp only [Result.ok.injEq] at hr
    rw [hr.1]; exact .inl hb
  | some ad =>
    have hcs : ∀ j u, news[j]? = some u → w.cell? (ad.add j) = some u := fun j u hu => by
      obtain ⟨ad', hA, hc⟩ := hcell j u hu
      cases hA; exact hc
    rcases hown.2 with ⟨h0, hn0⟩ | ⟨g, cp, cur, hv, hb0, hg0, h5, h6, h7, h8⟩
    · -- a nil slice: whatever is new lies behind all
      have hx : xs = [] := List.eq_nil_of_length_eq_zero (by rw [hown.1, hn0, Nat.zero_mul])
      rw [h0] at hr
      have hwn : w.ownsRow w.heap.size e sz (.slice none 0 0) 0 xs := by rw [hx]; exact World.ownsRow_nil w _ e sz
      obtain ⟨v3, w3, hr3, h3, _⟩ := run_append_own (P := P) w w.heap.size t ty e inf z sz bytes he.ht hi hz hsz hby he.hz hpos (.slice none 0 0) 0 xs hwn ad m2 c2 news hl hcs h1 (by omega) (by
        have h9 := hnm; rw [hn0] at h9; exact h9) (Nat.le_refl _)
      rw [hr3] at hr
      simp only [Result.ok.injEq] at hr
      obtain ⟨rfl, rfl⟩ := hr
      exact .inr (h3.lt b hb).1
    · simp only [Value.slice.injEq] at hv
      obtain ⟨rfl, -, rfl⟩ := hv
      by_cases hroom : n0 + m2 ≤ cap
      · obtain ⟨w3, hr3, _, _⟩ := run_append_fits (P := P) w 0 t ty e inf sz he.ht hi hsz g n0 cap xs hown ad m2 c2 news hl hcs h1 hroom
        rw [hr3] at hr
        simp only [Result.ok.injEq] at hr
        rw [← hr.1] at hb
        exact .inl hb
      · have hr3 := run_append_grow (P := P) w t ty e inf z he.ht hi hz ⟨g, 0, none⟩ n0 cap xs (by rw [hsz]; exact hown.1) (hown.cells (g := g) rfl) ad m2 c2 news (by rw [hsz]; exact hl) hcs (by omega) (by have := h63; simp only [maxLen] at this; omega) (growslice_fits (by omega) (by rw [hby]; exact hnm))
        rw [hr3] at hr
        simp only [Result.ok.injEq] at hr
        rw [← hr.1] at hb
        simp only [Value.ownBlock, Option.some.injEq] at hb
        exact .inr (Nat.le_of_eq hb)

/-- append(row, row...) of a row that is a chunk -/
theorem Plan.appendC {x y : Operand} {t e : TypeId} {z : Value} {sz bytes m cap q : Nat} {B : Option Addr} {xs news : List Value} {g : Fa} (ho : ops[i]? = some o) (hop : o.op = .call { callee := .builtin .append, args := #[x, y], argTypes := #[t, t] })
    (hg : wantB ops E o = some true) (hx : opF E x = some (.ex (.slice B m cap))) (hy : opF E y = some g) (hs : Sub I g (row sz news)) (he : Elt P t e z sz bytes) (hd : ∀ d, o.dst = some d → d < n)
    (hk : look E key = some (heap A H)) (hA : Own I A) (hqH : H[q]? = some (rowC e sz B m cap xs))
    (h1 : ∀ u ∈ news, u.oneCell' = true) (hlim : (xs.length + news.length) * bytes ≤ 140737488355328 * sz)
    (h : ∀ B' m' cap', m' * sz = xs.length + news.length → Plan P ops Q n I d k (i + 1) (setE o.dst (.ex (.slice B' m' cap')) ((key, heap A (H.set q (rowC e sz B' m' cap' (xs ++ news)))) :: sieve E)))
    (hq : d = false ∨ barB ops i = true := by first | exact .inl rfl | exact .inr (by kernel_rfl)) : Plan P ops Q n I d (k + 1) i E :=
  Plan.turnRun ho hg hd hk hA (fun a w φ hI _ hs' hL hLA hfr => by
    have e1 := hs' x (by simp [hop, Op.operands, Call.operands]) _ hx
    have e2 := hs w _ hI (hs' y (by simp [hop, Op.operands, Call.operands]) _ hy)
    simp only [Fa.den] at e1
    have hc := hL.holds q _ hqH
    obtain ⟨B', m', cap', w', hr, hm', h2, h3, h4⟩ := run_append_rowC (ty := o.type) he hc.1 e2 h1 hlim
    have hK : Kept (φ q) w w' := (Kept.ofGrown h3).mono (fun b _ hb => (hc.2 b).2 hb)
    have hF : ∀ b, (Value.slice B' m' cap').ownBlock = some b → φ q b ∨ w.heap.size ≤ b := fun b hb => (h4 b hb).imp (fun e => (hc.2 b).2 e) id
    have hqlt : q < H.length := (List.getElem?_eq_some_iff.1 hqH).1
    refine ⟨.slice B' m' cap', w', .ex (.slice B' m' cap'), _, _, .inl ?_, hK.mono (fun b _ hb => hLA q b hb), hL.upd (c' := rowC e sz B' m' cap' (xs ++ news)) hqlt hK ⟨h2, fun _ => Iff.rfl⟩ hF, wide (H := H) hLA hfr hF, by simp [Fa.den], h B' m' cap' hm'⟩
    simp only [execOp, hop, resolve, invoke, builtin, List.map_toArray, List.map_cons, List.map_nil, e1, Sem.run_bind, Sem.run_pure, Result.andThen_ok, hr]) hq

/-- A call that returns a row of its own: the row is a chunk more. -/
theorem Plan.callO {f : FuncId} {xs : List Operand} {ts : Array TypeId} {fs : List Fa} {fn : Func} {e sz : Nat} {cs : List Value} {R : Nat → Fa} (ho : ops[i]? = some o)
    (hop : o.op = .call { callee := .value (.func f), args := xs.toArray, argTypes := ts }) (hg : wantB ops E o = some true) (hc : Spc P f fs R) (hR : ∀ B, R B = Free.own B e sz cs)
    (hf : P.funcs[f]? = some fn) (hbody : fn.body.isNone = false) (hname : (fn.name == "runtime.NumGoroutine") = false) (hd : ∀ d, o.dst = some d → d < n)
    (hx : Opnds I E xs fs) (hk : look E key = some (heap A H)) (hA : Own I A)
    (h : ∀ B m cap, m * sz = cs.length → Plan P ops Q n I d k (i + 1) (setE o.dst (.ex (.slice B m cap)) ((key, heap A (H ++ [rowC e sz B m cap cs])) :: sieve E))) (hq : d = false ∨ barB ops i = true := by first | exact .inl rfl | exact .inr (by kernel_rfl)) : Plan P ops Q n I d (k + 1) i E :=
  Plan.turn ho hg hd hk hA (fun a w φ hI hs hs' hL hLA hfr hsh => by
    unfold wpOp
    simp only [ho, wantB_spec ho hsh (fun t _ f hf => hs t f hf) hg, if_true]
    refine .inl ?_
    unfold Oper.wp
    have hrun : (execOp a.eval o).run P w = .ok (.enter f (xs.map a.eval).toArray) w := by
      have hn : ¬ fn.name = "runtime.NumGoroutine" := by simpa using hname
      have hb : ¬ fn.body = none := by intro e; rw [e] at hbody; cases hbody
      simp [execOp, hop, resolve, invoke, callFunc, Deferred.ofValue, Act.eval, hf, hb, hn]
    rw [hrun]
    simp only [Oper.upon]
    have hden := Opnds.dens (a := a) hI hx (fun x hxm f hf => hs' x (by simp [hop, Op.operands, Call.operands, hxm]) f hf)
    refine (hc w _ hden).mono ?_
    rintro ev w' ⟨v, rfl, hB, hRR⟩
    have h0 := hRR w.heap.size (Nat.le_refl _)
    rw [hR] at h0
    obtain ⟨_, m, hm⟩ := h0
    have hsl : ∃ B cap, v = .slice B m cap := by
      rcases hm.2 with ⟨h1, hm0⟩ | ⟨g, cp, cur, h1, _⟩
      · exact ⟨_, _, by rw [h1, hm0]⟩
      · exact ⟨_, _, h1⟩
    obtain ⟨B, cap, rfl⟩ := hsl
    have hm0 : w'.ownsRow 0 e sz (.slice B m cap) m cs := by
      refine ⟨hm.1, ?_⟩
      rcases hm.2 with h1 | ⟨g, cp, cur, hv, hb, r⟩
      · exact .inl h1
      · exact .inr ⟨g, cp, cur, hv, Nat.zero_le _, r⟩
    have hF : ∀ b, (Value.slice B m cap).ownBlock = some b → w.heap.size ≤ b := fun b hb => (hm.lt b hb).1
    refine ⟨.slice B m cap, .ex (.slice B m cap), H ++ [rowC e sz B m cap cs], _, rfl, .ofBelow hB, hL.add hB (c' := rowC e sz B m cap cs) ⟨hm0, fun _ => Iff.rfl⟩ hF, fun q b hb => ?_, by simp [Fa.den], h B m cap hm.1.symm⟩
    by_cases he : q = H.length
    · simp only [if_pos he] at hb; exact hfr b (hF b hb)
    · simp only [if_neg he] at hb; exact hLA q b hb) hq

/-- A row of the call's own, made and held in a slot, becomes a chunk where it is stored: see J.takeC. -/
theorem J.takeC {c : Code} {t B e sz : Nat} {cs : List Value} {f : Fa} (hf : look E t = some f) (hs : Sub I f (Free.own B e sz cs)) (hk : look E key = some (heap (fun b => A b ∧ b < B) H)) (hA : ∀ b, B ≤ b → A b)
    (h : ∀ B' m cap, m * sz = cs.length → J P n I c Q ((t, .ex (.slice B' m cap)) :: (key, heap A (H ++ [rowC e sz B' m cap cs])) :: E)) : J P n I c Q E := fun a w h1 h2 h3 => by
  obtain ⟨φ, hL, hLA⟩ := h3 key _ hk
  obtain ⟨_, m, hm⟩ := hs w _ h1 (h3 t f hf)
  have hsl : ∃ B' cap', a.slot t = .slice B' m cap' := by
    rcases hm.2 with ⟨h0, hm0⟩ | ⟨g, cp, cur, h0, _⟩
    · exact ⟨_, _, by rw [h0, hm0]⟩
    · exact ⟨_, _, h0⟩
  obtain ⟨B', cap, hv⟩ := hsl
  rw [hv] at hm
  refine h B' m cap hm.1.symm a w h1 h2 (derive_sat (heap_put h3 (φ := fun p b => if p = H.length then (Value.slice B' m cap).ownBlock = some b else φ p b) ?_ ?_) (by simp [Fa.den, hv]))
  · have hm0 : w.ownsRow 0 e sz (.slice B' m cap) m cs := by
      refine ⟨hm.1, ?_⟩
      rcases hm.2 with h0 | ⟨g, cp, cur, hv, hb, r⟩
      · exact .inl h0
      · exact .inr ⟨g, cp, cur, hv, Nat.zero_le _, r⟩
    refine ⟨fun p c hp => ?_, fun p p' b hp hp' => ?_, fun p b hp => ?_⟩
    · by_cases he : p = H.length
      · subst he
        simp only [List.getElem?_concat_length, Option.some.injEq] at hp
        subst hp
        simp only [if_true]
        exact ⟨hm0, fun _ => Iff.rfl⟩
      · have hl : p < (H ++ [rowC e sz B' m cap cs]).length := (List.getElem?_eq_some_iff.1 hp).1
        have hl' : p < H.length := by simp at hl; omega
        rw [List.getElem?_append_left hl'] at hp
        simp only [if_neg he]
        exact hL.holds p c hp
    · by_cases he : p = H.length
      · by_cases he' : p' = H.length
        · rw [he, he']
        · simp only [if_pos he] at hp
          simp only [if_neg he'] at hp'
          have h5 := (hm.lt b hp).1
          have h6 := (hLA p' b hp').2
          omega
      · by_cases he' : p' = H.length
        · simp only [if_neg he] at hp
          simp only [if_pos he'] at hp'
          have h5 := (hm.lt b hp').1
          have h6 := (hLA p b hp).2
          omega
        · simp only [if_neg he] at hp
          simp only [if_neg he'] at hp'
          exact hL.apart p p' b hp hp'
    · rw [List.length_append]
      by_cases he : p = H.length
      · simp [he]
      · simp only [if_neg he] at hp
        have := hL.bound p b hp
        simp; omega
  · intro q b hb
    by_cases he : q = H.length
    · simp only [if_pos he] at hb
      exact hA b (hm.lt b hb).1
    · simp only [if_neg he] at hb
      exact (hLA q b hb).1
end
end Go.Free
end

section
set_option linter.unusedSimpArgs false
set_option linter.unusedVariables false
set_option maxRecDepth 20000
namespace Go.Free
open Go.RowKit

theorem Ent.swap {c d e : Chunk} : Ent (sepC c (sepC d e)) (sepC d (sepC c e)) := fun w F ⟨G, K, h1, h2, h3, K1, K2, k1, k2, k3, k4⟩ =>
  ⟨F, ⟨K1, fun b => G b ∨ K2 b, fun b => by rw [h1, k1]; exact ⟨fun h => h.elim (fun h => .inr (.inl h)) (fun h => h.elim .inl (fun h => .inr (.inr h))), fun h => h.elim (fun h => .inr (.inl h)) (fun h => h.elim .inl (fun h => .inr (.inr h)))⟩,
    fun b hb hb' => hb'.elim (fun e => h2 b e ((k1 b).2 (.inl hb))) (fun e => k2 b hb e), k3, G, K2, fun _ => Iff.rfl, fun b hb hb' => h2 b hb ((k1 b).2 (.inr hb')), h3, k4⟩, fun _ hb => hb⟩
theorem Ent.addEmp {c : Chunk} : Ent c (sepC c Free.emp) := fun w F h => ⟨F, ⟨F, fun _ => False, fun b => ⟨.inl, fun h => h.elim id (fun e => e.elim)⟩, fun _ _ e => e, h, fun _ e => e⟩, fun _ hb => hb⟩
theorem Ent.of_eq {c d : Chunk} (h : c = d) : Ent c d := h ▸ Ent.refl _
theorem Lies.ofAll : ∀ {H : List Chunk} {F : Nat → Prop} {w : World}, (allC H).holds w F → ∃ φ, Lies H φ w ∧ ∀ q b, φ q b → F b
  | [], F, w, h => ⟨fun _ _ => False, ⟨fun q c hq => by simp at hq, fun _ _ _ e => e.elim, fun _ _ e => e.elim⟩, fun _ _ e => e.elim⟩
  | c :: r, F, w, ⟨G, K, h1, h2, h3, h4⟩ => by
    obtain ⟨φ, hL, hF⟩ := Lies.ofAll h4
    refine ⟨fun q b => match q with | 0 => G b | q + 1 => φ q b, ⟨fun q d hq => ?_, fun p q b hp hq => ?_, fun q b hb => ?_⟩, fun q b hb => ?_⟩
    · cases q with
      | zero => simp only [List.getElem?_cons_zero, Option.some.injEq] at hq; subst hq; exact h3
      | succ q => exact hL.holds q d (by simpa using hq)
    · cases p with
      | zero =>
        cases q with
        | zero => rfl
        | succ q => exact (h2 b hp (hF q b hq)).elim
      | succ p =>
        cases q with
        | zero => exact (h2 b hq (hF p b hp)).elim
        | succ q => rw [hL.apart p q b hp hq]
    · cases q with
      | zero => simp
      | succ q => have := hL.bound q b hb; simp; omega
    · cases q with
      | zero => exact (h1 b).2 (.inl hb)
      | succ q => exact (h1 b).2 (.inr (hF q b hb))

section
variable {P : Program} {ops : Array Oper} {Q : Exit → Act → World → Prop} {n : Nat} {I : World → Prop} {k i : Nat} {E : Env} {o : Oper} {d : Bool} {A : Nat → Prop} {H : List Chunk} {key : Nat}

/-- The heap's chunks told anew. -/
theorem J.regroup {c : Code} (H' : List Chunk) (hk : look E key = some (heap A H)) (he : Ent (allC H) (allC H')) (h : J P n I c Q ((key, heap A H') :: E)) : J P n I c Q E := fun a w h1 h2 h3 => by
  obtain ⟨φ, hL, hA⟩ := h3 key _ hk
  obtain ⟨G, g1, g2⟩ := he w _ hL.all
  obtain ⟨φ', hL', hF⟩ := Lies.ofAll g1
  exact h a w h1 h2 (heap_put h3 hL' (fun q b hb => by obtain ⟨p, hp⟩ := g2 b (hF q b hb); exact hA p b hp))

/-- In a region in the text's order: what is known told anew ahead of an operation. -/
theorem Plan.ghost (ht : tidy ops n = true) (hI : ∀ w w', I w → Below w.heap.size w w' → I w') : ∀ {k i : Nat} {E : Env}, (∀ a w, I w → Sat E a w → ∃ E', Sat E' a w ∧ Plan P ops Q n I false k i E') → Plan P ops Q n I false k i E
  | 0, _, _, h => fun a w h1 h2 h3 => by
    obtain ⟨E', h4, h5⟩ := h a w h1 h3
    exact h5 a w h1 h2 h4
  | k + 1, i, E, h => .inr ⟨.inl rfl, fun a w h1 h2 h3 => by
    obtain ⟨E', h4, h5⟩ := h a w h1 h3
    rcases h5 with ⟨F, hst, hp⟩ | ⟨_, heff⟩
    · refine wpOp_mono ?_ (hst a w h1 h2 (fun t _ f hf => h4 t f hf))
      rintro a' w' ⟨v, rfl, hb, hF⟩
      exact ⟨_, hp, hI _ _ h1 hb, h2.put _ _, h4.step ht h2 hb hF⟩
    · exact heff a w h1 h2 h4⟩
theorem Plan.convC {q : Nat} {c1 c2 : Chunk} (ht : tidy ops n = true) (hI : ∀ w w', I w → Below w.heap.size w w' → I w') (hk : look E key = some (heap A H)) (hq : H[q]? = some c1) (he : Ent c1 c2) (h : Plan P ops Q n I false k i ((key, heap A (H.set q c2)) :: E)) : Plan P ops Q n I false k i E := Plan.ghost ht hI fun a w h1 h3 => by
  obtain ⟨φ, hL, hA⟩ := h3 key _ hk
  obtain ⟨G, g1, g2⟩ := he w _ (hL.holds q _ hq)
  exact ⟨_, heap_put h3 (hL.conv (List.getElem?_eq_some_iff.1 hq).1 g1 g2) (conv_A hA g2), h⟩
theorem Plan.exC {q : Nat} {X : Type} {c1 : X → Chunk} (ht : tidy ops n = true) (hI : ∀ w w', I w → Below w.heap.size w w' → I w') (hk : look E key = some (heap A H)) (hq : H[q]? = some (Free.exC c1)) (h : ∀ x, Plan P ops Q n I false k i ((key, heap A (H.set q (c1 x))) :: E)) : Plan P ops Q n I false k i E := Plan.ghost ht hI fun a w h1 h3 => by
  obtain ⟨φ, hL, hA⟩ := h3 key _ hk
  obtain ⟨x, hx⟩ := hL.holds q _ hq
  exact ⟨_, heap_put h3 (hL.conv (List.getElem?_eq_some_iff.1 hq).1 hx (fun _ hb => hb)) (conv_A hA (fun _ hb => hb)), h x⟩
theorem Plan.sepC {q : Nat} {c1 c2 : Chunk} (ht : tidy ops n = true) (hI : ∀ w w', I w → Below w.heap.size w w' → I w') (hk : look E key = some (heap A H)) (hq : H[q]? = some (Free.sepC c1 c2)) (h : Plan P ops Q n I false k i ((key, heap A (H.set q c1 ++ [c2])) :: E)) : Plan P ops Q n I false k i E := Plan.ghost ht hI fun a w h1 h3 => by
  obtain ⟨φ, hL, hA⟩ := h3 key _ hk
  obtain ⟨φ', hL', hA'⟩ := hL.split hq
  exact ⟨_, heap_put h3 hL' (fun p b hb => by obtain ⟨p', hp'⟩ := hA' p b hb; exact hA p' b hp'), h⟩
theorem Plan.regroup (H' : List Chunk) (ht : tidy ops n = true) (hI : ∀ w w', I w → Below w.heap.size w w' → I w') (hk : look E key = some (heap A H)) (he : Ent (allC H) (allC H')) (h : Plan P ops Q n I false k i ((key, heap A H') :: E)) : Plan P ops Q n I false k i E := Plan.ghost ht hI fun a w h1 h3 => by
  obtain ⟨φ, hL, hA⟩ := h3 key _ hk
  obtain ⟨G, g1, g2⟩ := he w _ hL.all
  obtain ⟨φ', hL', hF⟩ := Lies.ofAll g1
  exact ⟨_, heap_put h3 hL' (fun q b hb => by obtain ⟨p, hp⟩ := g2 b (hF q b hb); exact hA p b hp), h⟩
theorem Plan.factC {q : Nat} {c1 : Chunk} {p : Prop} (ht : tidy ops n = true) (hI : ∀ w w', I w → Below w.heap.size w w' → I w') (hk : look E key = some (heap A H)) (hq : H[q]? = some c1) (hf : ∀ w F, c1.holds w F → p) (h : p → Plan P ops Q n I false k i E) : Plan P ops Q n I false k i E := Plan.ghost ht hI fun a w h1 h3 => by
  obtain ⟨φ, hL, _⟩ := h3 key _ hk
  exact ⟨E, h3, h (hf w _ (hL.holds q _ hq))⟩

theorem Plan.sliceHi {t e : TypeId} {z : Value} {sz bytes : Nat} {x y : Operand} {m cap b0 : Nat} {B : Option Addr} {kd : IntKind} (ho : ops[i]? = some o) (hop : o.op = .slice t x none (some y) none)
    (hg : wantB ops E o = some true) (hx : opF E x = some (.ex (.slice B m cap))) (he : Elt P t e z sz bytes) (hy : opF E y = some (.ex (.int kd (b0 : Int)))) (hb : b0 ≤ cap)
    (h : Plan P ops Q n I d k (i + 1) (setE o.dst (.ex (.slice B b0 cap)) E)) : Plan P ops Q n I d (k + 1) i E :=
  Plan.step ho (Step.run ho hg fun a w hI hs' => by
    have e1 := hs' x (by simp [hop, Op.operands]) _ hx
    have e2 := hs' y (by simp [hop, Op.operands]) _ hy
    simp only [Fa.den] at e1 e2
    obtain ⟨inf, hinf, hz, hs1, hby⟩ := he.hi
    have hB : (Instr.sliceBounds true m cap none (some (.int kd (b0 : Int))) none).run P w = .ok (0, b0, cap) w := by
      unfold Instr.sliceBounds
      simp [run_sliceBound_ok (P := P) (w := w) (Int.natCast_nonneg b0) (show (b0 : Int) ≤ cap by omega)]
    refine ⟨.slice B b0 cap, w, ?_, Below.refl _ _, by simp [Fa.den]⟩
    have hr : (Instr.sliceAt t (.slice B m cap) none (some (.int kd (b0 : Int))) none).run P w = .ok (.slice B b0 cap) w := by
      have hA : (B.map fun a => a.add 0) = B := by cases B <;> rfl
      have hAA : (if cap = 0 then B else B.map fun a => a.add 0) = B := by rw [hA]; split <;> rfl
      simp [Instr.sliceAt, run_underlying he.ht, Instr.slice, hB, sizeOf, typeInfo, hinf, hs1]
      try exact hA
      try exact hAA
      try exact fun _ => hA
    simp only [execOp, hop, Option.map_none, Option.map_some, e1, e2, Sem.run_bind, hr, Result.andThen_ok, Sem.run_pure]) h

theorem Plan.sliceLo {t e : TypeId} {z : Value} {sz bytes : Nat} {x y : Operand} {m cap a0 β o0 : Nat} {kd : IntKind} (ho : ops[i]? = some o) (hop : o.op = .slice t x (some y) none none)
    (hg : wantB ops E o = some true) (hx : opF E x = some (.ex (.slice (some ⟨β, o0, none⟩) m cap))) (he : Elt P t e z sz bytes) (hy : opF E y = some (.ex (.int kd (a0 : Int)))) (ha : a0 ≤ m) (hm : m ≤ cap) (hc : a0 < cap)
    (h : Plan P ops Q n I d k (i + 1) (setE o.dst (.ex (.slice (some ⟨β, o0 + a0 * sz, none⟩) (m - a0) (cap - a0))) E)) : Plan P ops Q n I d (k + 1) i E :=
  Plan.step ho (Step.run ho hg fun a w hI hs' => by
    have e1 := hs' x (by simp [hop, Op.operands]) _ hx
    have e2 := hs' y (by simp [hop, Op.operands]) _ hy
    simp only [Fa.den] at e1 e2
    obtain ⟨inf, hinf, hz, hs1, hby⟩ := he.hi
    have hB : (Instr.sliceBounds true m cap (some (.int kd (a0 : Int))) none none).run P w = .ok (a0, m, cap) w := by
      unfold Instr.sliceBounds
      simp [run_sliceBound_ok (P := P) (w := w) (Int.natCast_nonneg a0) (show (a0 : Int) ≤ m by omega)]
    refine ⟨.slice (some ⟨β, o0 + a0 * sz, none⟩) (m - a0) (cap - a0), w, ?_, Below.refl _ _, by simp [Fa.den]⟩
    have hr : (Instr.sliceAt t (.slice (some ⟨β, o0, none⟩) m cap) (some (.int kd (a0 : Int))) none none).run P w = .ok (.slice (some ⟨β, o0 + a0 * sz, none⟩) (m - a0) (cap - a0)) w := by
      have hne : ¬ cap = a0 := by omega
      simp [Instr.sliceAt, run_underlying he.ht, Instr.slice, hB, sizeOf, typeInfo, hinf, hs1, hne, add_at]
    simp only [execOp, hop, Option.map_none, Option.map_some, e1, e2, Sem.run_bind, hr, Result.andThen_ok, Sem.run_pure]) h

theorem Plan.sliceAny {t e : TypeId} {z : Value} {sz bytes : Nat} {x y : Operand} {m cap a0 : Nat} {B : Option Addr} {kd : IntKind} (ho : ops[i]? = some o) (hop : o.op = .slice t x (some y) none none)
    (hg : wantB ops E o = some true) (hx : opF E x = some (.ex (.slice B m cap))) (he : Elt P t e z sz bytes) (hy : opF E y = some (.ex (.int kd (a0 : Int)))) (ha : a0 ≤ m)
    (h : Plan P ops Q n I d k (i + 1) (setE o.dst Fa.any E)) : Plan P ops Q n I d (k + 1) i E :=
  Plan.step ho (Step.run ho hg fun a w hI hs' => by
    have e1 := hs' x (by simp [hop, Op.operands]) _ hx
    have e2 := hs' y (by simp [hop, Op.operands]) _ hy
    simp only [Fa.den] at e1 e2
    obtain ⟨inf, hinf, hz, hs1, hby⟩ := he.hi
    have hB : (Instr.sliceBounds true m cap (some (.int kd (a0 : Int))) none none).run P w = .ok (a0, m, cap) w := by
      unfold Instr.sliceBounds
      simp [run_sliceBound_ok (P := P) (w := w) (Int.natCast_nonneg a0) (show (a0 : Int) ≤ m by omega)]
    refine ⟨.slice (if cap = a0 then B else B.map (·.add (a0 * sz))) (m - a0) (cap - a0), w, ?_, Below.refl _ _, any_den _ _⟩
    have hr : (Instr.sliceAt t (.slice B m cap) (some (.int kd (a0 : Int))) none none).run P w = .ok (.slice (if cap = a0 then B else B.map (·.add (a0 * sz))) (m - a0) (cap - a0)) w := by
      simp [Instr.sliceAt, run_underlying he.ht, Instr.slice, hB, sizeOf, typeInfo, hinf, hs1]
    simp only [execOp, hop, Option.map_none, Option.map_some, e1, e2, Sem.run_bind, hr, Result.andThen_ok, Sem.run_pure]) h

theorem Plan.indexC {t e : TypeId} {z : Value} {bytes sz m cap β o0 off : Nat} {x y : Operand} {kd : IntKind} {j : Nat} (ho : ops[i]? = some o) (hop : o.op = .indexAddr t x y)
    (hg : wantB ops E o = some true) (hx : opF E x = some (.ex (.slice (some ⟨β, o0, none⟩) m cap))) (hy : opF E y = some (.ex (.int kd (j : Int)))) (he : Elt P t e z sz bytes) (h1 : j < m) (hq : o0 + j * sz = off)
    (h : Plan P ops Q n I d k (i + 1) (setE o.dst (.ex (.pointer (some ⟨β, off, none⟩))) E)) : Plan P ops Q n I d (k + 1) i E :=
  Plan.indexEx (ad := ⟨β, o0, none⟩) (q := j * sz) ho hop hg hx hy he (by omega) (by omega) (by rw [Int.toNat_natCast]) (by rw [add_at, hq]; exact h)

/-- As what is known of the world is told more weakly. -/
theorem Nrm.idle {Q' : Act → World → Prop} {I' : World → Prop} (hI : ∀ w, I w → I' w) (h : Nrm n I' Q' E) : Nrm n I Q' E := fun a w h1 h2 h3 => h a w (hI w h1) h2 h3
end
end Go.Free
end

section
set_option linter.unusedSimpArgs false
set_option linter.unusedVariables false
set_option maxRecDepth 20000
namespace Go.Free
open Go.RowKit

section
variable {P : Program} {ops : Array Oper} {Q : Exit → Act → World → Prop} {n : Nat} {I : World → Prop} {k i : Nat} {E : Env} {o : Oper} {d : Bool} {A : Nat → Prop} {H : List Chunk} {key : Nat}

/-- A heap of none. -/
theorem J.heap0 {c : Code} (key : Nat) (A : Nat → Prop) (h : J P n I c Q ((key, heap A []) :: E)) : J P n I c Q E := fun a w h1 h2 h3 =>
  h a w h1 h2 (heap_put h3 (φ := fun _ _ => False) ⟨fun q c hq => by simp at hq, fun _ _ _ e => e.elim, fun _ _ e => e.elim⟩ (fun _ _ e => e.elim))

/-- An operation that makes a row of its own: the row is a chunk more. -/
theorem Plan.newRowC {e sz : Nat} {cs : List Value} (ho : ops[i]? = some o) (hg : wantB ops E o = some true) (hd : ∀ d, o.dst = some d → d < n) (hk : look E key = some (heap A H)) (hA : Own I A)
    (hr : ∀ (a : Act) (w : World), I w → (∀ x, x ∈ o.op.operands → ∀ f, opF E x = some f → f.den w (a.eval x)) → ∃ v w', (execOp a.eval o).run P w = .ok (.value v) w' ∧ Below w.heap.size w w' ∧ ownH w.heap.size e sz cs w' v)
    (h : ∀ B m cap, m * sz = cs.length → Plan P ops Q n I d k (i + 1) (setE o.dst (.ex (.slice B m cap)) ((key, heap A (H ++ [rowC e sz B m cap cs])) :: sieve E))) (hq : d = false ∨ barB ops i = true) : Plan P ops Q n I d (k + 1) i E :=
  Plan.turnRun ho hg hd hk hA (fun a w φ hI hs hs' hL hLA hfr => by
    obtain ⟨v, w', hrun, hB, _, m, hm⟩ := hr a w hI hs'
    have hsl : ∃ B cap, v = .slice B m cap := by
      rcases hm.2 with ⟨h1, hm0⟩ | ⟨g, cp, cur, h1, _⟩
      · exact ⟨_, _, by rw [h1, hm0]⟩
      · exact ⟨_, _, h1⟩
    obtain ⟨B, cap, rfl⟩ := hsl
    have hm0 : w'.ownsRow 0 e sz (.slice B m cap) m cs := by
      refine ⟨hm.1, ?_⟩
      rcases hm.2 with h1 | ⟨g, cp, cur, hv, hb, r⟩
      · exact .inl h1
      · exact .inr ⟨g, cp, cur, hv, Nat.zero_le _, r⟩
    have hF : ∀ b, (Value.slice B m cap).ownBlock = some b → w.heap.size ≤ b := fun b hb => (hm.lt b hb).1
    refine ⟨.slice B m cap, w', .ex (.slice B m cap), H ++ [rowC e sz B m cap cs], _, .inl hrun, .ofBelow hB, hL.add hB (c' := rowC e sz B m cap cs) ⟨hm0, fun _ => Iff.rfl⟩ hF, fun q b hb => ?_, by simp [Fa.den], h B m cap hm.1.symm⟩
    by_cases he : q = H.length
    · simp only [if_pos he] at hb; exact hfr b (hF b hb)
    · simp only [if_neg he] at hb; exact hLA q b hb) hq

/-- A slice literal, as a chunk. -/
theorem Plan.litC {t e : TypeId} {z : Value} {sz bytes m : Nat} {ps : List (Nat × Operand)} {vs : List Value} (ho : ops[i]? = some o) (hop : o.op = .buildSlice t m ps.toArray)
    (hg : wantB ops E o = some true) (he : Elt P t e z sz bytes) (hv : litVals E ps 0 = some vs) (hd : ∀ d, o.dst = some d → d < n) (hk : look E key = some (heap A H)) (hA : Own I A)
    (hm : vs.length = m) (hsz : ∀ v ∈ vs, v.cells.size = sz) (hlim : m * sz ≤ 16777216)
    (h : ∀ B m cap, m * sz = (flat vs).length → Plan P ops Q n I d k (i + 1) (setE o.dst (.ex (.slice B m cap)) ((key, heap A (H ++ [rowC e sz B m cap (flat vs)])) :: sieve E)))
    (hq : d = false ∨ barB ops i = true := by first | exact .inl rfl | exact .inr (by kernel_rfl)) : Plan P ops Q n I d (k + 1) i E :=
  Plan.newRowC ho hg hd hk hA (fun a w hI hs => by
    have := lit_run (B := w.heap.size) (a := a) (w := w) hop he hv hs (Nat.le_refl _) hm hsz hlim
    exact this) h hq

/-- []byte("constant") of a literal that is a chunk: its row is read from here on. -/
theorem Plan.convSameC {t e : TypeId} {x : Operand} {B : Option Addr} {m cap q : Nat} {l : List UInt8} (ho : ops[i]? = some o) (hop : o.op = .convert t t x) (hg : wantB ops E o = some true) (hd : ∀ d, o.dst = some d → d < n)
    (hx : opF E x = some (.ex (.slice B m cap))) (hu : P.underlying t = some (.slice e)) (he : P.underlying e = some (.int .u8)) (hl : l ≠ [])
    (hk : look E key = some (heap A H)) (hA : Own I A) (hqH : H[q]? = some (rowC e 1 B m cap (bs l)))
    (h : Plan P ops Q n I d k (i + 1) (setE o.dst (bytesF l) ((key, heap A (H.set q emp)) :: sieve E))) (hq : d = false ∨ barB ops i = true := by first | exact .inl rfl | exact .inr (by kernel_rfl)) : Plan P ops Q n I d (k + 1) i E :=
  Plan.turnRun ho hg hd hk hA (fun a w φ hI hs hs' hL hLA hfr => by
    have e1 := hs' x (by simp [hop, Op.operands]) _ hx
    simp only [Fa.den] at e1
    have hc := hL.holds q _ hqH
    have hne : (Value.slice B m cap) ≠ .slice none 0 0 := by
      intro he'
      rcases hc.1.2 with ⟨_, h0⟩ | ⟨g, cp, cur, hv, _⟩
      · have := hc.1.1
        rw [bs_length, h0] at this
        exact hl (List.eq_nil_of_length_eq_zero (by simpa using this))
      · rw [he'] at hv; simp at hv
    obtain ⟨w', hr, h2, h3⟩ := run_convert_same (B := 0) hu he hne ⟨Nat.zero_le _, m, hc.1⟩
    have hK : Kept (φ q) w w' := (Kept.ofGrown h2).mono (fun b _ hb => (hc.2 b).2 hb)
    have hqlt : q < H.length := (List.getElem?_eq_some_iff.1 hqH).1
    refine ⟨.slice B m cap, w', bytesF l, H.set q emp, _, .inl ?_, hK.mono (fun b _ hb => hLA q b hb), hL.upd (c' := emp) (F := fun _ => False) hqlt hK (fun _ e => e) (fun _ e => e.elim), wide (H := H) hLA hfr (fun _ e => e.elim), h3, h⟩
    simp only [execOp, hop, e1, Sem.run_bind, hr, Result.andThen_ok, Sem.run_pure]) hq
end
end Go.Free
end

section
set_option linter.unusedSimpArgs false
set_option linter.unusedVariables false
set_option maxRecDepth 20000
namespace Go.Free
open Go.RowKit

/-- n bytes, written in place, not appended to: the row may be marked behind its end. -/
def wHolds (e g n cap : Nat) (xs : List Value) (w : World) : Prop := ∃ cur fz, w.heap[g]? = some (.cells cur e fz) ∧ cur.size ≤ fz.1 ∧ xs.length = n ∧ n ≤ cap ∧ cap ≤ 9223372036854775807 ∧ n ≤ cur.size ∧ cur.toList.take n = xs
def wrow (e g n cap : Nat) (xs : List Value) : Chunk := ⟨fun w F => wHolds e g n cap xs w ∧ ∀ b, F b ↔ b = g,
  fun _ _ b ⟨⟨_, _, h, _⟩, hF⟩ hb => by rw [(hF b).1 hb]; exact (Array.getElem?_eq_some_iff.1 h).1,
  fun _ _ _ ⟨⟨cur, fz, h, r⟩, hF⟩ hk => ⟨⟨cur, fz, (hk g ((hF g).2 rfl)).trans h, r⟩, hF⟩⟩
def ownW (B e : Nat) (xs : List Value) : Fa := .is ⟨fun w v => ∃ g cap, v = .slice (some ⟨g, 0, none⟩) xs.length cap ∧ B ≤ g ∧ wHolds e g xs.length cap xs w,
  fun _ _ _ hb ⟨g, cap, hv, hB, cur, fz, h, r⟩ => ⟨g, cap, hv, hB, cur, fz, (hb.block g (Array.getElem?_eq_some_iff.1 h).1).trans h, r⟩⟩

theorem wcell {e g n cap j : Nat} {xs : List Value} {w : World} {u : Value} (h : wHolds e g n cap xs w) (hu : xs[j]? = some u) : w.cell? ⟨g, j, none⟩ = some u := by
  obtain ⟨cur, fz, hh, _, hl, _, _, _, ht⟩ := h
  simp only [World.cell?, hh, Option.isSome_none, Bool.false_eq_true, if_false]
  rw [← ht, List.getElem?_take] at hu
  split at hu
  · simpa using hu
  · cases hu
theorem wrow_reads1 {e g n cap off : Nat} {xs : List Value} {u : Value} (h : xs[off]? = some u) : (wrow e g n cap xs).reads g off [u] := fun w F ⟨hh, _⟩ j v hv => by
  cases j with
  | zero => simp only [List.getElem?_cons_zero, Option.some.injEq] at hv; subst hv; exact wcell hh h
  | succ j => simp at hv
theorem wrow_rowH {e g n cap : Nat} {xs : List Value} {w : World} (h : wHolds e g n cap xs w) : rowH 1 xs w (.slice (some ⟨g, 0, none⟩) n cap) := by
  obtain ⟨cur, fz, hh, h0, hl, hc, hcM, hs, ht⟩ := id h
  exact ⟨_, _, _, rfl, hc, hcM, by omega, (fun h => by cases h), fun j u hu => ⟨_, rfl, by rw [add_at, Nat.zero_add]; exact wcell h hu⟩⟩
theorem Ent.wCut {e g n m cap : Nat} {xs : List Value} (hm : m ≤ n) : Ent (wrow e g n cap xs) (wrow e g m cap (xs.take m)) := fun w F ⟨⟨cur, fz, hh, h0, hl, hc, hcM, hs, ht⟩, hF⟩ =>
  ⟨F, ⟨⟨cur, fz, hh, h0, by rw [List.length_take]; omega, by omega, hcM, by omega, by rw [← ht, List.take_take, Nat.min_eq_left hm]⟩, hF⟩, fun _ hb => hb⟩
theorem Ent.wEq {e g n cap : Nat} {xs ys : List Value} (h : xs = ys) : Ent (wrow e g n cap xs) (wrow e g n cap ys) := h ▸ Ent.refl _
theorem w_fact {e g n cap : Nat} {xs : List Value} {w : World} {F : Nat → Prop} (h : (wrow e g n cap xs).holds w F) : xs.length = n ∧ n ≤ cap ∧ cap ≤ 9223372036854775807 := by
  obtain ⟨⟨cur, fz, hh, h0, hl, hc, hcM, hs, ht⟩, hF⟩ := h
  exact ⟨hl, hc, hcM⟩

section
variable {P : Program} {ops : Array Oper} {Q : Exit → Act → World → Prop} {n : Nat} {I : World → Prop} {k i : Nat} {E : Env} {o : Oper} {d : Bool} {A : Nat → Prop} {H : List Chunk} {key : Nat}

/-- From here on what is made is new against the heap. -/
theorem J.fresh {c : Code} (hk : look E key = some (heap A H)) (hA : Own I A) (h : ∀ B, (∀ b, B ≤ b → A b) → J P n (fun w => I w ∧ B ≤ w.heap.size) c Q ((key, heap (fun b => A b ∧ b < B) H) :: E)) : J P n I c Q E := fun a w h1 h2 h3 => by
  obtain ⟨φ, hL, hLA⟩ := h3 key _ hk
  exact h w.heap.size (hA.fresh w h1) a w ⟨h1, Nat.le_refl _⟩ h2 (heap_put h3 hL (fun q b hb => ⟨hLA q b hb, hL.lt hb⟩))
theorem J.idle {c : Code} {I' : World → Prop} (hI : ∀ w, I w → I' w) (h : J P n I' c Q E) : J P n I c Q E := fun a w h1 h2 h3 => h a w (hI w h1) h2 h3
theorem hFresh {B : Nat} (hI : ∀ w w', I w → Below w.heap.size w w' → I w') : ∀ w w', (I w ∧ B ≤ w.heap.size) → Below w.heap.size w w' → (I w' ∧ B ≤ w'.heap.size) := fun _ _ h hb => ⟨hI _ _ h.1 hb, Nat.le_trans h.2 hb.size⟩

theorem Plan.convSBW {st dt e : TypeId} {x : Operand} {p : List UInt8} {B : Nat} (ho : ops[i]? = some o) (hop : o.op = .convert st dt x) (hg : wantB ops E o = some true)
    (hx : opF E x = some (.ex (str p))) (hsrc : P.underlying st = some .string) (hdst : P.underlying dt = some (.slice e)) (he : P.underlying e = some (.int .u8)) (hp : p.length ≤ 9223372036854775807) (hB : ∀ w, I w → B ≤ w.heap.size)
    (h : Plan P ops Q n I d k (i + 1) (setE o.dst (ownW B e (bs p)) E)) : Plan P ops Q n I d (k + 1) i E :=
  Plan.step ho (Step.run ho hg fun a w hI hs => by
    have h1 := hs x (by simp [hop, Op.operands]) _ hx
    simp only [Fa.den, str] at h1
    have hr := Lib.run_convert_string_bytes (P := P) w st dt e ⟨p.toArray⟩ hsrc hdst he
    have hsz : (ByteArray.mk p.toArray).size = p.length := by simp [ByteArray.size]
    refine ⟨.slice (some ⟨w.heap.size, 0, none⟩) (ByteArray.mk p.toArray).size (grownCap w (ByteArray.mk p.toArray).size 0 e), Lib.bytesWorld w e ⟨p.toArray⟩, ?_, ⟨rfl, rfl, rfl, by rw [Lib.bytesWorld_size]; omega, fun j hj => Lib.bytesWorld_at_old w e _ j hj⟩, ?_⟩
    · simp only [execOp, hop, h1, Sem.run_bind, hr, Result.andThen_ok, Sem.run_pure]
    · refine ⟨w.heap.size, _, by rw [bs_length, hsz], hB w hI, _, _, Lib.bytesWorld_at_new w e _, Nat.le_refl _, rfl, ?_, ?_, ?_, ?_⟩
      · rw [bs_length]; exact Nat.le_trans (Nat.le_of_eq hsz.symm) (grownCap_ge _ _ _ _)
      · have := grownCap_le_maxLen w (ByteArray.mk p.toArray).size 0 e (by rw [hsz]; simpa [maxLen] using hp)
        rw [hsz] at this
        simpa [maxLen] using this
      · rw [bs_length]; simp [Lib.bytesCells]
      · simp [Lib.bytesCells, bs, List.take_append]) h

theorem J.takeW {c : Code} {t B e : Nat} {xs : List Value} {f : Fa} (hf : look E t = some f) (hs : Sub I f (ownW B e xs)) (hk : look E key = some (heap (fun b => A b ∧ b < B) H)) (hA : ∀ b, B ≤ b → A b)
    (h : ∀ g cap, J P n I c Q ((t, .ex (.slice (some ⟨g, 0, none⟩) xs.length cap)) :: (key, heap A (H ++ [wrow e g xs.length cap xs])) :: E)) : J P n I c Q E := fun a w h1 h2 h3 => by
  obtain ⟨φ, hL, hLA⟩ := h3 key _ hk
  obtain ⟨g, cap, hv, hB, hw⟩ := hs w _ h1 (h3 t f hf)
  refine h g cap a w h1 h2 (derive_sat (heap_put h3 (φ := fun p b => if p = H.length then b = g else φ p b) ?_ ?_) (by simp [Fa.den, hv]))
  · refine ⟨fun p c hp => ?_, fun p p' b hp hp' => ?_, fun p b hp => ?_⟩
    · by_cases he : p = H.length
      · subst he
        simp only [List.getElem?_concat_length, Option.some.injEq] at hp
        subst hp
        simp only [if_true]
        exact ⟨hw, fun _ => Iff.rfl⟩
      · have hl : p < (H ++ [wrow e g xs.length cap xs]).length := (List.getElem?_eq_some_iff.1 hp).1
        have hl' : p < H.length := by simp at hl; omega
        rw [List.getElem?_append_left hl'] at hp
        simp only [if_neg he]
        exact hL.holds p c hp
    · by_cases he : p = H.length
      · by_cases he' : p' = H.length
        · rw [he, he']
        · simp only [if_pos he] at hp
          simp only [if_neg he'] at hp'
          have h6 := (hLA p' b hp').2
          omega
      · by_cases he' : p' = H.length
        · simp only [if_neg he] at hp
          simp only [if_pos he'] at hp'
          have h6 := (hLA p b hp).2
          omega
        · simp only [if_neg he] at hp
          simp only [if_neg he'] at hp'
          exact hL.apart p p' b hp hp'
    · rw [List.length_append]
      by_cases he : p = H.length
      · simp [he]
      · simp only [if_neg he] at hp
        have := hL.bound p b hp
        simp; omega
  · intro q b hb
    by_cases he : q = H.length
    · simp only [if_pos he] at hb
      exact hA b (by omega)
    · simp only [if_neg he] at hb
      exact (hLA q b hb).1

/-- A store of one value into such bytes. -/
theorem Plan.storeW {t : TypeId} {p x : Operand} {e g m cap off q : Nat} {xs : List Value} {v : Value} (ho : ops[i]? = some o) (hop : o.op = .store t p x) (hdst : o.dst = none) (hg : wantB ops E o = some true)
    (hp : opF E p = some (.ex (.pointer (some ⟨g, off, none⟩)))) (hx : opF E x = some (.ex v)) (hone : v.oneCell' = true) (hc1 : v.cells = #[v]) (hi : (P.info? t).map (·.size) = some 1)
    (hk : look E key = some (heap A H)) (hA : Own I A) (hqH : H[q]? = some (wrow e g m cap xs)) (hoff : off < xs.length)
    (h : Plan P ops Q n I d k (i + 1) ((key, heap A (H.set q (wrow e g m cap (xs.set off v)))) :: sieve E)) (hq : d = false ∨ barB ops i = true := by first | exact .inl rfl | exact .inr (by kernel_rfl)) : Plan P ops Q n I d (k + 1) i E :=
  Plan.turnRun ho hg (by rw [hdst]; intro _ e; cases e) hk hA (fun a w φ _ _ hs' hL hLA hfr => by
    have e1 := hs' p (by simp [hop, Op.operands]) _ hp
    have e2 := hs' x (by simp [hop, Op.operands]) _ hx
    simp only [Fa.den] at e1 e2
    obtain ⟨hw, hF⟩ := hL.holds q _ hqH
    have hcell := wcell hw (List.getElem?_eq_getElem hoff)
    obtain ⟨cur, fz, hh, h0, hl, hc, hcM, hs, ht⟩ := hw
    have hfr0 : w.frozen? ⟨g, off, none⟩ = false := by
      simp only [World.frozen?, hh]
      have : ¬ fz.1 ≤ off := by omega
      simp [this]
    obtain ⟨inf, hi1, hi2⟩ : ∃ inf, P.info? t = some inf ∧ inf.size = 1 := by
      cases hinf : P.info? t with
      | none => rw [hinf] at hi; cases hi
      | some inf => rw [hinf] at hi; exact ⟨inf, rfl, by simpa using hi⟩
    have hlt : g < w.heap.size := (Array.getElem?_eq_some_iff.1 hh).1
    have hh' : (w.setCell ⟨g, off, none⟩ v).heap[g]? = some (.cells (cur.setIfInBounds off v) e fz) := by
      simp only [World.setCell, Array.getElem?_modify, if_true, hh, Option.map_some]
      rfl
    have hK : Kept (φ q) w (w.setCell ⟨g, off, none⟩ v) :=
      ⟨rfl, rfl, rfl, by simp [World.setCell], fun kk _ hkk => Below.heap_setCell _ _ _ _ (fun e => hkk (by rw [e]; exact (hF g).2 rfl))⟩
    have hc2 : (wrow e g m cap (xs.set off v)).holds (w.setCell ⟨g, off, none⟩ v) (φ q) := by
      refine ⟨⟨_, fz, hh', by simpa using h0, by simp [hl], hc, hcM, by simpa using hs, ?_⟩, hF⟩
      rw [← ht, Array.toList_setIfInBounds, List.take_set]
    have hqlt : q < H.length := (List.getElem?_eq_some_iff.1 hqH).1
    have hL' := hL.upd hqlt hK hc2 (fun b hb => .inl hb)
    refine ⟨undef, w.setCell ⟨g, off, none⟩ v, .ex undef, _, _, .inr ⟨?_, rfl⟩, hK.mono (fun b _ hb => hLA q b hb), hL', wide (H := H) hLA hfr (fun b hb => .inl hb), by simp [Fa.den], by rw [hdst]; exact h⟩
    have hst := run_store P w ⟨g, off, none⟩ v .plain hone
    simp only [hcell, hfr0] at hst
    simp [execOp, hop, e1, e2, Instr.storeAt, Instr.sureAddr, storeVar, hc1, sizeOf, typeInfo, hi1, hi2, storeCells, Addr.add, hst]) hq

/-- string(bytes) of bytes that lie in a chunk. -/
theorem Plan.convBSC {st dt e : TypeId} {x : Operand} {v : Value} {c : Chunk} {q : Nat} {p : List UInt8} (ho : ops[i]? = some o) (hop : o.op = .convert st dt x) (hg : wantB ops E o = some true)
    (hx : opF E x = some (.ex v)) (hk : look E key = some (heap A H)) (hqH : H[q]? = some c) (hr : ∀ w F, c.holds w F → rowH 1 (bs p) w v) (hsrc : P.underlying st = some (.slice e)) (hdst : P.underlying dt = some .string) (he : P.underlying e = some (.int .u8)) (hkn : n ≤ key)
    (h : Plan P ops Q n I d k (i + 1) (setE o.dst (.ex (str p)) E)) : Plan P ops Q n I d (k + 1) i E :=
  Plan.step ho (Step.runK ho hg fun a w hI hs' hK => by
    have h1 := hs' x (by simp [hop, Op.operands]) _ hx
    simp only [Fa.den] at h1
    obtain ⟨φ, hL, _⟩ := hK key hkn _ hk
    have h2 := hr w _ (hL.holds q _ hqH)
    refine ⟨str p, w, ?_, Below.refl _ _, by simp [Fa.den]⟩
    simp only [execOp, hop, h1, Sem.run_bind, run_bytes_row hsrc he hdst h2, Result.andThen_ok, Sem.run_pure]) h
/-- A slot's slice, of which a chunk has the contents. -/
theorem Plan.seeC {t sz q : Nat} {v : Value} {c : Chunk} {xs : List Value} (ht : tidy ops n = true) (hI : ∀ w w', I w → Below w.heap.size w w' → I w') (hv : look E t = some (.ex v)) (hk : look E key = some (heap A H)) (hqH : H[q]? = some c) (hr : ∀ w F, c.holds w F → rowH sz xs w v)
    (h : Plan P ops Q n I false k i ((t, row sz xs) :: E)) : Plan P ops Q n I false k i E := Plan.ghost ht hI fun a w h1 h3 => by
  obtain ⟨φ, hL, _⟩ := h3 key _ hk
  have e1 := h3 t _ hv
  simp only [Fa.den] at e1
  exact ⟨_, derive_sat h3 (by rw [e1]; exact hr w _ (hL.holds q _ hqH)), h⟩
end
end Go.Free
end

section
set_option linter.unusedSimpArgs false
set_option linter.unusedVariables false
set_option maxRecDepth 20000
namespace Go.Free
open Go.RowKit
section
variable {P : Program} {ops : Array Oper} {Q : Exit → Act → World → Prop} {n : Nat} {I : World → Prop} {k i : Nat} {E : Env} {o : Oper} {d : Bool} {A : Nat → Prop} {H : List Chunk} {key : Nat}
theorem Plan.fieldPtr {s : TypeId} {x : Operand} {f : Nat} {fs : Array Field} {fld : Field} {g : Fa} {cs us : List Value} (ho : ops[i]? = some o) (hop : o.op = .fieldAddr s x f) (hg : wantB ops E o = some true)
    (hx : opF E x = some g) (hs : Sub I g (ptrF cs)) (hu : P.underlying s = some (.struct fs)) (hf : fs[f]? = some fld) (hi : ((P.info? fld.type).map fun i => decide (0 < i.size)) = some true) (hus : (cs.drop fld.offset).take us.length = us)
    (h : Plan P ops Q n I d k (i + 1) (setE o.dst (ptrF us) E)) : Plan P ops Q n I d (k + 1) i E :=
  Plan.step ho (Step.run ho hg fun a w hI hs' => by
    obtain ⟨ad, e1, hc⟩ := hs w _ hI (hs' x (by simp [hop, Op.operands]) _ hx)
    obtain ⟨inf, hi1, hi2⟩ : ∃ inf, P.info? fld.type = some inf ∧ ¬ inf.size = 0 := by
      cases hinf : P.info? fld.type with
      | none => rw [hinf] at hi; cases hi
      | some inf => rw [hinf] at hi; exact ⟨inf, rfl, by simp at hi; omega⟩
    refine ⟨.pointer (some (ad.add fld.offset)), w, ?_, Below.refl _ _, ⟨_, rfl, fun j u hu => ?_⟩⟩
    · simp [execOp, hop, e1, Instr.fieldAt, Instr.sureAddr, run_underlying hu, hf, fieldPlace, sizeOf, typeInfo, hi1, hi2]
    · rw [← hus, List.getElem?_take] at hu
      split at hu
      · rw [List.getElem?_drop] at hu
        rw [add_add]; exact hc _ u hu
      · cases hu) h
theorem Plan.loadAggP {t : TypeId} {u : TypeDesc} {x : Operand} {g : Fa} {cs : List Value} (ho : ops[i]? = some o) (hop : o.op = .load t x) (hg : wantB ops E o = some true)
    (hx : opF E x = some g) (hs : Sub I g (ptrF cs)) (hu : P.underlying t = some u) (hna : aggB u = true) (hi : (P.info? t).map (·.size) = some cs.length)
    (h : Plan P ops Q n I d k (i + 1) (setE o.dst (.ex (.agg cs.toArray)) E)) : Plan P ops Q n I d (k + 1) i E := by
  obtain ⟨inf, hi1, hi2⟩ : ∃ inf, P.info? t = some inf ∧ inf.size = cs.length := by
    cases hinf : P.info? t with
    | none => rw [hinf] at hi; cases hi
    | some inf => rw [hinf] at hi; exact ⟨inf, rfl, by simpa using hi⟩
  exact Plan.loadAgg ho hop hg hx hs hu hna hi1 hi2 h
end
end Go.Free
end

section
set_option linter.unusedSimpArgs false
set_option linter.unusedVariables false
set_option maxRecDepth 20000
namespace Go.Free
open Go.RowKit

def litOf : Value → Lit
  | .int k n => .int k n
  | .bool b => .bool b
  | .string s => .string s.data.toList
  | _ => .bool false
theorem CellsOk.split : ∀ {a b : List Kd} {c : List Value}, CellsOk (a ++ b) c → CellsOk a (c.take a.length) ∧ CellsOk b (c.drop a.length)
  | [], _, _, h => ⟨by simp [CellsOk], by simpa using h⟩
  | k :: a, b, _, ⟨v, r, h1, h2, h3⟩ => by
    subst h1
    obtain ⟨e1, e2⟩ := CellsOk.split h3
    exact ⟨⟨v, _, by simp, h2, e1⟩, by simpa using e2⟩
theorem litOf_inj {l : List Kd} : ∀ {xs ys : List Value}, CellsOk l xs → CellsOk l ys → xs.map litOf = ys.map litOf → xs = ys := by
  induction l with
  | nil => intro xs ys h1 h2 _; simp only [CellsOk] at h1 h2; rw [h1, h2]
  | cons k l ih =>
    intro xs ys ⟨v, r, h1, h2, h3⟩ ⟨u, s, g1, g2, g3⟩ he
    subst h1 g1
    simp only [List.map_cons, List.cons.injEq] at he
    rw [ih h3 g3 he.2]
    congr 1
    have h4 := he.1
    cases k with
    | int q =>
      obtain ⟨n, rfl, _⟩ := h2
      obtain ⟨m, rfl, _⟩ := g2
      simpa [litOf] using h4
    | str =>
      obtain ⟨n, rfl, _⟩ := h2
      obtain ⟨m, rfl, _⟩ := g2
      simp only [litOf, Lit.string.injEq] at h4
      obtain ⟨⟨n⟩⟩ := n
      obtain ⟨⟨m⟩⟩ := m
      simp only at h4
      rw [h4]
    | bool =>
      obtain ⟨n, rfl⟩ := h2
      obtain ⟨m, rfl⟩ := g2
      simpa [litOf] using h4

section
variable {P : Program}
theorem keyLits_fs {n : Nat} {cs : List Value} (hg : ∀ t l cs, P.keyTypeAt n t = true → flatT P n t = some l → CellsOk l cs → P.keyLits n t cs = some (cs.map litOf)) :
    ∀ (fs : List Field) (acc : Nat) (l : List Kd), flatFs P (flatT P n) fs acc = some l → (∀ f ∈ fs, P.keyTypeAt n f.type = true) → acc + l.length ≤ cs.length → CellsOk l ((cs.drop acc).take l.length) →
      ∃ ls, fs.mapM (fun f => P.keyLits n f.type ((cs.drop f.offset).take (P.cellsOf f.type))) = some ls ∧ ls.flatten = ((cs.drop acc).take l.length).map litOf
  | [], acc, l, h, _, _, _ => by simp only [flatFs, Option.some.injEq] at h; subst h; exact ⟨[], by simp, by simp⟩
  | f :: fs, acc, l, h, hk, hl, hc => by
    simp only [flatFs] at h
    cases hga : flatT P n f.type with
    | none => rw [hga] at h; cases h
    | some a =>
      rw [hga] at h
      simp only at h
      split at h
      · rename_i hcond
        cases hr : flatFs P (flatT P n) fs (acc + a.length) with
        | none => rw [hr] at h; cases h
        | some b =>
          rw [hr] at h
          simp only [Option.map_some, Option.some.injEq] at h
          subst h
          rw [List.length_append] at hl hc
          obtain ⟨h1, h2⟩ := hc.split
          rw [List.take_take, Nat.min_eq_left (by omega)] at h1
          rw [List.drop_take, List.drop_drop, show a.length + b.length - a.length = b.length by omega] at h2
          obtain ⟨ls, e1, e2⟩ := keyLits_fs hg fs _ b hr (fun f' hf' => hk f' (List.mem_cons_of_mem _ hf')) (by omega) h2
          have h3 := hg f.type a _ (hk f List.mem_cons_self) hga h1
          refine ⟨((cs.drop acc).take a.length).map litOf :: ls, ?_, ?_⟩
          · simp only [List.mapM_cons, Option.bind_eq_bind, Option.pure_def]
            rw [hcond.1, ← hcond.2, h3, e1]; rfl
          · rw [List.flatten_cons, e2, List.length_append, List.take_add, List.drop_drop, List.map_append]
      · cases h
theorem keyLits_flat : ∀ (n : Nat) (t : TypeId) (l : List Kd) (cs : List Value), P.keyTypeAt n t = true → flatT P n t = some l → CellsOk l cs → P.keyLits n t cs = some (cs.map litOf)
  | 0, _, _, _, h, _, _ => by simp [Program.keyTypeAt] at h
  | n + 1, t, l, cs, hk, h, hc => by
    unfold flatT at h
    unfold Program.keyTypeAt at hk
    unfold Program.keyLits
    cases hu : P.underlying t with
    | none => rw [hu] at h; cases h
    | some d =>
      rw [hu] at h hk
      cases d <;> simp only [reduceCtorEq, Option.some.injEq] at h
      case bool =>
        subst h
        obtain ⟨v, r, rfl, ⟨b, rfl⟩, h2⟩ := hc
        simp only [CellsOk] at h2; subst h2
        rfl
      case int k =>
        subst h
        obtain ⟨v, r, rfl, ⟨b, rfl, hw⟩, h2⟩ := hc
        simp only [CellsOk] at h2; subst h2
        simp [hw, litOf]
      case string =>
        subst h
        obtain ⟨v, r, rfl, ⟨b, rfl, hw⟩, h2⟩ := hc
        simp only [CellsOk] at h2; subst h2
        simp [hw, litOf]
      case struct fs =>
        simp only [Bool.and_eq_true, Array.all_eq_true_iff_forall_mem] at hk
        split at h
        · rename_i l' hl'
          split at h
          · rename_i hlen
            cases h
            have hcl := hc.length
            obtain ⟨ls, e1, e2⟩ := keyLits_fs (cs := cs) (fun t l cs h1 h2 h3 => keyLits_flat n t l cs h1 h2 h3) fs.toList 0 l hl' (fun f hf => (hk.1.1 f (by simpa using hf)).2) (by omega)
              (by rw [List.drop_zero, List.take_of_length_le (by omega)]; exact hc)
            rw [List.drop_zero, List.take_of_length_le (by omega)] at e2
            have hnm : (fs.all fun x => x.name != "_") = true := by
              rw [Array.all_eq_true_iff_forall_mem]
              exact fun f hf => (hk.1.1 f hf).1
            simp only [hcl, hlen, hnm, and_self, if_true, e1, Option.map_some, e2]
          · cases h
        · cases h
      case array q e =>
        simp only at hk
        split at h
        · rename_i l' hl'
          split at h
          · rename_i hlen
            cases h
            have hcl : cs.length = P.cellsOf t := by rw [hc.length, List.length_flatten, List.map_replicate, List.sum_replicate_nat, hlen.2]
            have key : ∀ j (c : List Value), CellsOk (List.replicate j l').flatten c → ∀ o, (∀ i, i < j → ((cs.drop ((o + i) * P.cellsOf e)).take (P.cellsOf e)) = (c.drop (i * P.cellsOf e)).take (P.cellsOf e)) →
                ∃ ls, (List.range' o j).mapM (fun i => P.keyLits n e ((cs.drop (i * P.cellsOf e)).take (P.cellsOf e))) = some ls ∧ ls.flatten = c.map litOf := by
              intro j
              induction j with
              | zero =>
                intro c hc o _
                simp only [List.replicate_zero, List.flatten_nil, CellsOk] at hc
                subst hc
                exact ⟨[], by simp, by simp⟩
              | succ j ih =>
                intro c hc o hs
                rw [List.replicate_succ, List.flatten_cons] at hc
                obtain ⟨h1, h2⟩ := hc.split
                rw [hlen.1] at h1 h2
                obtain ⟨ls, e1, e2⟩ := ih _ h2 (o + 1) (fun i hi => by
                  have := hs (i + 1) (by omega)
                  rw [show o + 1 + i = o + (i + 1) by omega, this, List.drop_drop, Nat.add_mul, Nat.one_mul, Nat.add_comm])
                have h0 := hs 0 (by omega)
                rw [Nat.add_zero, Nat.zero_mul, List.drop_zero] at h0
                refine ⟨(c.take (P.cellsOf e)).map litOf :: ls, ?_, ?_⟩
                · rw [List.range'_succ, List.mapM_cons, e1, h0, keyLits_flat n e l' _ hk hl' h1]; rfl
                · rw [List.flatten_cons, e2, ← List.map_append, List.take_append_drop]
            obtain ⟨ls, e1, e2⟩ := key q cs hc 0 (fun i _ => by rw [Nat.zero_add])
            rw [← List.range_eq_range'] at e1
            simp only [hcl, if_true, e1, Option.map_some, e2]
          · cases h
        · cases h

theorem run_eq_flat {w : World} {n : Nat} {t : TypeId} {l : List Kd} {xs ys : List Value} {r : Bool} (hn : n ≤ 10000) (hk : P.keyTypeAt n t = true) (hf : flatT P n t = some l) (hx : CellsOk l xs) (hy : CellsOk l ys)
    (fx : (Value.agg xs.toArray).formed P t = true) (fy : (Value.agg ys.toArray).formed P t = true) (hr : r = true ↔ xs = ys) : (Op.equalIn 10000 t (.agg xs.toArray) (.agg ys.toArray)).run P w = .ok r w := by
  obtain ⟨r', h1, h2⟩ := run_equalIn_deep (10000 - n) n t hk w n n (.agg xs.toArray) (.agg ys.toArray) _ _ fx fy (by simpa [Value.cells] using keyLits_flat n t l xs hk hf hx) (by simpa [Value.cells] using keyLits_flat n t l ys hk hf hy)
  rw [show 10000 - n + n = 10000 by omega] at h1
  rw [h1]
  congr 1
  rw [Bool.eq_iff_iff, h2, hr]
  exact ⟨fun e => litOf_inj hx hy e, fun e => by rw [e]⟩
variable {ops : Array Oper} {Q : Exit → Act → World → Prop} {n : Nat} {I : World → Prop} {k i : Nat} {E : Env} {o : Oper} {d : Bool}
/-- Two structs compared. -/
theorem Plan.eqAgg {op : BinOp} {t yt : TypeId} {x y : Operand} {m : Nat} {l : List Kd} {xs ys : List Value} {r v : Bool} (ho : ops[i]? = some o) (hop : o.op = .binOp op t x y yt) (hg : wantB ops E o = some true)
    (hx : opF E x = some (.ex (.agg xs.toArray))) (hy : opF E y = some (.ex (.agg ys.toArray))) (hn : m ≤ 10000) (hk : P.keyTypeAt m t = true) (hf : flatT P m t = some l) (hm : P.eqGuardType P.depth t = false)
    (h1 : CellsOk l xs) (h2 : CellsOk l ys) (fx : ∀ zs : Array Value, zs.size = l.length → (Value.agg zs).formed P t = true) (hr : r = true ↔ xs = ys) (hv : (op = .eql ∧ v = r) ∨ (op = .neq ∧ v = !r))
    (h : Plan P ops Q n I d k (i + 1) (setE o.dst (.ex (.bool v)) E)) : Plan P ops Q n I d (k + 1) i E :=
  Plan.step ho (Step.run ho hg fun a w hI hs' => by
    have e1 := hs' x (by simp [hop, Op.operands]) _ hx
    have e2 := hs' y (by simp [hop, Op.operands]) _ hy
    simp only [Fa.den] at e1 e2
    have hr' := run_eq_flat (P := P) (w := w) hn hk hf h1 h2 (fx _ (by simp [h1.length])) (fx _ (by simp [h2.length])) hr
    refine ⟨.bool v, w, ?_, Below.refl _ _, by simp [Fa.den]⟩
    rcases hv with ⟨rfl, rfl⟩ | ⟨rfl, rfl⟩
    · simp only [execOp, hop, e1, e2, Sem.run_bind, run_eqGuard_agg w .eql t x y _ _ hm, Result.andThen_ok, run_eql_struct, hr', Sem.run_pure]
    · simp only [execOp, hop, e1, e2, Sem.run_bind, run_eqGuard_agg w .neq t x y _ _ hm, Result.andThen_ok, run_neq_struct, hr', Sem.run_pure]) h
end
end Go.Free
end

section
set_option linter.unusedSimpArgs false
set_option linter.unusedVariables false
set_option maxRecDepth 20000
namespace Go.Proofs.Ytfglecmimoeinaa
open Go.Free Go.RowKit Go.Proofs
set_option maxHeartbeats 2000000

def in64 (x : Int) : Prop := -9223372036854775808 ≤ x ∧ x ≤ 9223372036854775807
structure EvV where
  r : Int
  n : Int
  time : Int
  d : Nat → Int
  kind : Int
  key : List UInt8
  field : List UInt8
  value : List UInt8
  num : Int
  rr : Int
  rn : Int
abbrev vi (x : Int) : Value := .int .i64 x
def EvV.enc (e : EvV) : List Value := [vi e.r, vi e.n, vi e.time, vi (e.d 0), vi (e.d 1), vi (e.d 2), vi (e.d 3), vi (e.d 4), vi (e.d 5), vi (e.d 6), vi (e.d 7), vi (e.d 8), vi (e.d 9), vi (e.d 10), vi (e.d 11), vi (e.d 12), vi (e.d 13), vi (e.d 14), vi (e.d 15),
  vi e.kind, str e.key, str e.field, str e.value, vi e.num, vi e.rr, vi e.rn]
def EvV.okV (e : EvV) : Prop := in64 e.r ∧ in64 e.n ∧ in64 e.time ∧ (∀ i, i < 16 → in64 (e.d i)) ∧ in64 e.kind ∧ e.key.length ≤ 9223372036854775807 ∧ e.field.length ≤ 9223372036854775807 ∧ e.value.length ≤ 9223372036854775807 ∧ in64 e.num ∧ in64 e.rr ∧ in64 e.rn
def ev0 : EvV := ⟨0, 0, 0, fun _ => 0, 0, [], [], [], 0, 0, 0⟩
theorem encE (e : EvV) : e.enc.length = 26 := rfl
def kdsEvent : List Kd := [.int .i64, .int .i64, .int .i64, .int .i64, .int .i64, .int .i64, .int .i64, .int .i64, .int .i64, .int .i64, .int .i64, .int .i64, .int .i64, .int .i64, .int .i64, .int .i64, .int .i64, .int .i64, .int .i64, .int .i64, .str, .str, .str, .int .i64, .int .i64, .int .i64]
theorem eltE : Elt Try.prog 22 41 (.agg ev0.enc.toArray) 26 232 := Elt.mk' Try.underlying22 (by kernel_rfl) rfl (by decide) (by decide)
theorem in64_wf {n : Int} : (Lit.int .i64 n).wf = true ↔ in64 n := by
  have k1 : IntKind.min .i64 = -9223372036854775808 := by decide +kernel
  have k2 : IntKind.max .i64 = 9223372036854775807 := by decide +kernel
  simp [Lit.wf, k1, k2, in64]
theorem str_len {s : ByteArray} (h : s.size ≤ maxLen) : s.data.toList.length ≤ 9223372036854775807 := by
  simp only [maxLen, ByteArray.size] at h
  simp only [Array.length_toList]; omega
theorem str_mk (s : ByteArray) : (Value.string s) = str s.data.toList := by simp [str]
theorem intF {x : Int} (h : in64 x) : (Kd.int .i64).ok (vi x) := ⟨x, rfl, in64_wf.2 h⟩
theorem strF {l : List UInt8} (h : l.length ≤ 9223372036854775807) : Kd.str.ok (str l) := ⟨_, rfl, by simpa [maxLen, ByteArray.size] using h⟩
theorem enc_ok {e : EvV} (h : e.okV) : CellsOk kdsEvent e.enc := by
  obtain ⟨h1, h2, h3, hd, h4, h5, h6, h7, h8, h9, h10⟩ := h
  exact ⟨_, _, rfl, intF h1, _, _, rfl, intF h2, _, _, rfl, intF h3, _, _, rfl, intF (hd 0 (by decide)), _, _, rfl, intF (hd 1 (by decide)), _, _, rfl, intF (hd 2 (by decide)), _, _, rfl, intF (hd 3 (by decide)),
    _, _, rfl, intF (hd 4 (by decide)), _, _, rfl, intF (hd 5 (by decide)), _, _, rfl, intF (hd 6 (by decide)), _, _, rfl, intF (hd 7 (by decide)), _, _, rfl, intF (hd 8 (by decide)), _, _, rfl, intF (hd 9 (by decide)),
    _, _, rfl, intF (hd 10 (by decide)), _, _, rfl, intF (hd 11 (by decide)), _, _, rfl, intF (hd 12 (by decide)), _, _, rfl, intF (hd 13 (by decide)), _, _, rfl, intF (hd 14 (by decide)), _, _, rfl, intF (hd 15 (by decide)),
    _, _, rfl, intF h4, _, _, rfl, strF h5, _, _, rfl, strF h6, _, _, rfl, strF h7, _, _, rfl, intF h8, _, _, rfl, intF h9, _, _, rfl, intF h10, rfl⟩
theorem ev_of {c : List Value} (h : CellsOk kdsEvent c) : ∃ e : EvV, c = e.enc ∧ e.okV := by
  obtain ⟨_, _, rfl, ⟨r, rfl, hr⟩, _, _, rfl, ⟨n, rfl, hn⟩, _, _, rfl, ⟨t, rfl, ht⟩, _, _, rfl, ⟨d0, rfl, g0⟩, _, _, rfl, ⟨d1, rfl, g1⟩, _, _, rfl, ⟨d2, rfl, g2⟩, _, _, rfl, ⟨d3, rfl, g3⟩,
    _, _, rfl, ⟨d4, rfl, g4⟩, _, _, rfl, ⟨d5, rfl, g5⟩, _, _, rfl, ⟨d6, rfl, g6⟩, _, _, rfl, ⟨d7, rfl, g7⟩, _, _, rfl, ⟨d8, rfl, g8⟩, _, _, rfl, ⟨d9, rfl, g9⟩, _, _, rfl, ⟨d10, rfl, g10⟩, _, _, rfl, ⟨d11, rfl, g11⟩,
    _, _, rfl, ⟨d12, rfl, g12⟩, _, _, rfl, ⟨d13, rfl, g13⟩, _, _, rfl, ⟨d14, rfl, g14⟩, _, _, rfl, ⟨d15, rfl, g15⟩, _, _, rfl, ⟨k, rfl, hk⟩, _, _, rfl, ⟨a, rfl, ha⟩, _, _, rfl, ⟨b, rfl, hb⟩, _, _, rfl, ⟨c, rfl, hc⟩,
    _, _, rfl, ⟨m, rfl, hm⟩, _, _, rfl, ⟨p, rfl, hp⟩, _, _, rfl, ⟨q, rfl, hq⟩, rfl⟩ := h
  refine ⟨⟨r, n, t, fun i => [d0, d1, d2, d3, d4, d5, d6, d7, d8, d9, d10, d11, d12, d13, d14, d15].getD i 0, k, a.data.toList, b.data.toList, c.data.toList, m, p, q⟩, ?_, in64_wf.1 hr, in64_wf.1 hn, in64_wf.1 ht, ?_, in64_wf.1 hk, str_len ha, str_len hb, str_len hc, in64_wf.1 hm, in64_wf.1 hp, in64_wf.1 hq⟩
  · simp [EvV.enc, str_mk]
  · intro i hi
    match i, hi with
    | 0, _ => exact in64_wf.1 g0
    | 1, _ => exact in64_wf.1 g1
    | 2, _ => exact in64_wf.1 g2
    | 3, _ => exact in64_wf.1 g3
    | 4, _ => exact in64_wf.1 g4
    | 5, _ => exact in64_wf.1 g5
    | 6, _ => exact in64_wf.1 g6
    | 7, _ => exact in64_wf.1 g7
    | 8, _ => exact in64_wf.1 g8
    | 9, _ => exact in64_wf.1 g9
    | 10, _ => exact in64_wf.1 g10
    | 11, _ => exact in64_wf.1 g11
    | 12, _ => exact in64_wf.1 g12
    | 13, _ => exact in64_wf.1 g13
    | 14, _ => exact in64_wf.1 g14
    | 15, _ => exact in64_wf.1 g15
    | _ + 16, h => exact absurd h (by omega)
theorem evs_of : ∀ (ls : List (List Value)), (∀ c ∈ ls, CellsOk kdsEvent c) → ∃ es : List EvV, es.length = ls.length ∧ ls.flatten = es.flatMap EvV.enc ∧ ∀ e ∈ es, e.okV
  | [], _ => ⟨[], rfl, rfl, by simp⟩
  | c :: r, h => by
    obtain ⟨o, rfl, ho⟩ := ev_of (h c List.mem_cons_self)
    obtain ⟨sc, h1, h2, h3⟩ := evs_of r (fun c hc => h c (List.mem_cons_of_mem _ hc))
    exact ⟨o :: sc, by simp [h1], by simp [h2], fun x hx => by rcases List.mem_cons.1 hx with rfl | hx; exact ho; exact h3 x hx⟩

abbrev aggE (e : EvV) : Value := .agg e.enc.toArray
abbrev newB (w0 : World) : Nat → Prop := fun b => w0.heap.size ≤ b
/-- b is later than a. -/
def later (b a : EvV) : Bool := decide (a.time < b.time ∨ (a.time = b.time ∧ (a.r < b.r ∨ (a.r = b.r ∧ a.n < b.n))))
def cmp3 (x y : Int) : Int := if x < y then -1 else if y < x then 1 else 0
theorem isNaN_fn (x : Int) : Spc Try.prog 46 [.ex (vi x)] fun _ => .ex (.bool false) := by
  refine Spc.intro Try.func46 rfl (Nat.le_of_ble_eq_true rfl) fun w0 => ?_
  have hI := hIb w0
  repeat (first | refine Plan.move rfl rfl rfl rfl ?_ | refine Plan.assign rfl rfl rfl rfl ?_ | (refine Plan.ints rfl rfl rfl rfl rfl rfl ?_; (skip)) | refine J.seq (J.region mixed hI (by kernel_rfl) ?_))
  refine Plan.boolv (y := false) (by simp) ?_
  repeat (fail)
  exact J.ret (Nrm.ret1 rfl (fun _ h => h) rfl fun B _ => Sub.refl _)
theorem compare_fn (x y : Int) : Spc Try.prog 42 [.ex (vi x), .ex (vi y)] fun _ => .ex (vi (cmp3 x y)) := by
  refine Spc.intro Try.func42 rfl (Nat.le_of_ble_eq_true rfl) fun w0 => ?_
  have hI := hIb w0
  repeat (first | refine Plan.move rfl rfl rfl rfl ?_ | refine Plan.assign rfl rfl rfl rfl ?_ | refine J.seq (J.region mixed hI (by kernel_rfl) ?_))
  refine Plan.call (B := w0.heap.size) rfl rfl rfl (isNaN_fn x) Try.func46 rfl rfl (hBb w0) (by repeat (first | exact Opnds.nil | refine Opnds.cons rfl (by exact Sub.refl _) ?_)) ?_
  repeat (first | refine Plan.move rfl rfl rfl rfl ?_ | refine Plan.assign rfl rfl rfl rfl ?_ | refine J.seq (J.region mixed hI (by kernel_rfl) ?_))
  refine Plan.call (B := w0.heap.size) rfl rfl rfl (isNaN_fn y) Try.func46 rfl rfl (hBb w0) (by repeat (first | exact Opnds.nil | refine Opnds.cons rfl (by exact Sub.refl _) ?_)) ?_
  repeat (first | refine Plan.move rfl rfl rfl rfl ?_ | refine Plan.assign rfl rfl rfl rfl ?_ | (refine Plan.ints rfl rfl rfl rfl rfl rfl ?_; (skip)) | refine J.seq (J.seq (J.region mixed hI (by kernel_rfl) ?_)) | refine J.condF rfl ?_ | refine J.skip ?_)
  refine J.condD rfl (fun h => ?_) (fun h => ?_)
  · have e : cmp3 x y = -1 := by unfold cmp3; rw [if_pos h]
    rw [e]
    repeat (first | refine Plan.assign rfl rfl rfl rfl ?_ | refine J.seq (J.region mixed hI (by kernel_rfl) ?_))
    exact J.ret (Nrm.ret1 rfl (fun _ h => h) rfl fun B _ => Sub.refl _)
  repeat (first | refine Plan.move rfl rfl rfl rfl ?_ | (refine Plan.ints rfl rfl rfl rfl rfl rfl ?_; (skip)) | refine J.seq (J.seq (J.region mixed hI (by kernel_rfl) ?_)) | refine J.skip ?_)
  refine J.condD rfl (fun h2 => ?_) (fun h2 => ?_)
  · have e : cmp3 x y = 1 := by unfold cmp3; rw [if_neg h, if_pos (by omega)]
    rw [e]
    repeat (first | refine Plan.assign rfl rfl rfl rfl ?_ | refine J.seq (J.region mixed hI (by kernel_rfl) ?_))
    exact J.ret (Nrm.ret1 rfl (fun _ h => h) rfl fun B _ => Sub.refl _)
  · have e : cmp3 x y = 0 := by unfold cmp3; rw [if_neg h, if_neg (by omega)]
    rw [e]
    repeat (first | refine Plan.assign rfl rfl rfl rfl ?_ | refine J.seq (J.region mixed hI (by kernel_rfl) ?_) | refine J.skip ?_)
    exact J.ret (Nrm.ret1 rfl (fun _ h => h) rfl fun B _ => Sub.refl _)
def firstN : List Int → Int
  | [] => 0
  | x :: r => if x = 0 then firstN r else x
abbrev is (l : List Int) : List Value := l.flatMap fun x => [vi x]
theorem eltI : Elt Try.prog 49 3 (vi 0) 1 8 := Elt.mk' Try.underlying49 (by kernel_rfl) rfl (by decide) (by decide)
theorem or_fn (l : List Int) (hl : l.length ≤ 9223372036854775807) : Spc Try.prog 41 [row 1 (is l)] fun _ => .ex (vi (firstN l)) := by
  refine Spc.intro Try.func41 rfl (Nat.le_of_ble_eq_true rfl) fun w0 => ?_
  have hI := hIb w0
  repeat (first | refine Plan.move rfl rfl rfl rfl ?_ | refine Plan.assign rfl rfl rfl rfl ?_ | refine J.seq (J.region mixed hI (by kernel_rfl) ?_) | refine J.seq (J.seq (J.region mixed hI (by kernel_rfl) ?_)))
  refine Plan.lenRow (m := l.length) rfl rfl rfl rfl (Sub.old fun _ h => h) Try.underlying49 (by rw [flatMap_length _ 1 (fun _ => rfl)]) (by decide) ?_
  repeat (refine Plan.move rfl rfl rfl rfl ?_)
  refine J.block (J.loop (fun i : Nat => [(3, .ex (vi 0)), (6, old w0 (row 1 (is l))), (7, .ex (vi l.length)), (8, .ex (vi i))]) (fun i => i ≤ l.length ∧ firstN (l.drop i) = firstN l) (fun i => l.length - i) 0 ⟨Nat.zero_le _, rfl⟩ ?_ ?_)
  · repeat (first | exact Weak.nil | refine Weak.cons rfl (Sub.refl _) ?_)
  rintro i ⟨hi, hf⟩
  repeat (first | (refine Plan.ints rfl rfl rfl rfl rfl rfl ?_; (skip)) | refine J.seq (J.region mixed hI (by kernel_rfl) ?_))
  refine J.seq (J.condD rfl (fun hlt => ?_) (fun hlt => ?_))
  · have hlt' : i < l.length := by omega
    have hget : l.getD i 0 = l[i] := by simp [List.getD_eq_getElem?_getD, List.getElem?_eq_getElem hlt']
    rw [List.drop_eq_getElem_cons hlt'] at hf
    repeat (refine J.skip ?_)
    refine J.seq (J.block ?_)
    repeat (refine J.seq (J.region mixed hI (by kernel_rfl) ?_))
    refine Plan.indexAddr (fun x => [vi x]) 1 l 0 rfl rfl rfl rfl (Sub.old fun _ h => h) rfl eltI (fun _ => rfl) (by omega) (by omega) ?_
    rw [Int.toNat_natCast, hget]
    refine Plan.load rfl rfl rfl rfl (Sub.refl _) Try.underlying3 rfl ?_
    repeat (first | refine Plan.move rfl rfl rfl rfl ?_ | refine Plan.assign rfl rfl rfl rfl ?_ | (refine Plan.ints rfl rfl rfl rfl rfl rfl ?_; (skip)) | refine J.seq (J.region mixed hI (by kernel_rfl) ?_))
    refine J.condN rfl (fun h => ?_) (fun h => ?_)
    · have e : l[i] = firstN l := by rw [← hf]; unfold firstN; rw [if_neg h]
      repeat (first | refine Plan.move rfl rfl rfl rfl ?_ | refine Plan.assign rfl rfl rfl rfl ?_ | refine J.seq (J.region mixed hI (by kernel_rfl) ?_))
      exact J.ret (Nrm.ret1 rfl (fun _ h => h) rfl fun B _ => Sub.of_eq (by rw [e]))
    · repeat (first | refine Plan.move rfl rfl rfl rfl ?_ | (refine Plan.ints rfl rfl rfl rfl rfl rfl ?_; (refine Plan.int (i64r (by omega)) ?_)) | refine J.region mixed hI (by kernel_rfl) ?_ | refine J.skip ?_)
      refine Plan.int (y := ((i + 1 : Nat) : Int)) (by omega) ?_
      refine Nrm.next (i + 1) ⟨hlt', ?_⟩ (by omega) (by repeat (first | exact Weak.nil | refine Weak.cons rfl (Sub.refl _) ?_))
      rw [← hf]; simp [firstN, h]
  · have hie : i = l.length := by omega
    subst hie
    rw [List.drop_length] at hf
    refine J.exit ?_
    repeat (first | refine Plan.move rfl rfl rfl rfl ?_ | refine Plan.assign rfl rfl rfl rfl ?_ | refine J.seq (J.region mixed hI (by kernel_rfl) ?_))
    exact J.ret (Nrm.ret1 rfl (fun _ h => h) rfl fun B _ => Sub.of_eq (by rw [← hf]; rfl))
end Go.Proofs.Ytfglecmimoeinaa
end

section
set_option linter.unusedSimpArgs false
set_option linter.unusedVariables false
set_option maxRecDepth 20000
namespace Go.Free
open Go.RowKit
theorem beq_decide {α : Type} [BEq α] [LawfulBEq α] {p q : α} {P : Prop} [Decidable P] (h : p = q ↔ P) : (p == q) = decide P := by
  by_cases e : p = q
  · rw [decide_eq_true (h.1 e)]; simpa using e
  · rw [decide_eq_false (fun x => e (h.2 x))]; simpa using e
theorem bne_decide {α : Type} [BEq α] [LawfulBEq α] {p q : α} {P : Prop} [Decidable P] (h : p ≠ q ↔ P) : (p != q) = decide P := by
  by_cases e : p = q
  · rw [decide_eq_false (fun x => h.2 x e)]; simpa using e
  · rw [decide_eq_true (h.1 e)]; simpa using e
section
variable {P : Program} {ops : Array Oper} {Q : Exit → Act → World → Prop} {n : Nat} {I : World → Prop} {k i : Nat} {E : Env} {o : Oper} {d : Bool} {A : Nat → Prop} {H : List Chunk} {key : Nat}
theorem J.condND {c : Operand} {x y : Code} {p : Prop} [Decidable p] (hc : opF E c = some (.ex (.bool (!decide p)))) (ht : ¬ p → J P n I x Q E) (hf : p → J P n I y Q E) : J P n I (.cond c x y) Q E :=
  J.cond hc (fun h => ht (by simpa using h)) (fun h => hf (by simpa using h))
theorem Plan.splitND {t : Nat} {p : Prop} [Decidable p] (ht : ¬ p → Plan P ops Q n I d k i ((t, .ex (.bool true)) :: E)) (hf : p → Plan P ops Q n I d k i ((t, .ex (.bool false)) :: E)) : Plan P ops Q n I d k i ((t, .ex (.bool (!decide p))) :: E) := by
  by_cases h : p
  · have e : (!decide p) = false := by simpa using h
    rw [e]; exact hf h
  · have e : (!decide p) = true := by simpa using h
    rw [e]; exact ht h
/-- An element's address in an array that lies in a chunk. -/
theorem Plan.indexArr {t e : TypeId} {x y : Operand} {β o0 off len sz : Nat} {kd : IntKind} {j : Int} (ho : ops[i]? = some o) (hop : o.op = .indexAddr t x y) (hg : wantB ops E o = some true)
    (hx : opF E x = some (.ex (.pointer (some ⟨β, o0, none⟩)))) (hy : opF E y = some (.ex (.int kd j))) (hu : P.underlying t = some (.array len e)) (hi : (P.info? e).map (·.size) = some sz) (h0 : 0 ≤ j) (h1 : j < len) (hq : o0 + j.toNat * sz = off)
    (h : Plan P ops Q n I d k (i + 1) (setE o.dst (.ex (.pointer (some ⟨β, off, none⟩))) E)) : Plan P ops Q n I d (k + 1) i E :=
  Plan.step ho (Step.run ho hg fun a w hI hs' => by
    have e1 := hs' x (by simp [hop, Op.operands]) _ hx
    have e2 := hs' y (by simp [hop, Op.operands]) _ hy
    simp only [Fa.den] at e1 e2
    obtain ⟨inf, hi1, hi2⟩ : ∃ inf, P.info? e = some inf ∧ inf.size = sz := by
      cases hinf : P.info? e with
      | none => rw [hinf] at hi; cases hi
      | some inf => rw [hinf] at hi; exact ⟨inf, rfl, by simpa using hi⟩
    refine ⟨.pointer (some ⟨β, off, none⟩), w, ?_, Below.refl _ _, by simp [Fa.den]⟩
    simp [execOp, hop, e1, e2, Instr.indexAt, Instr.sureAddr, asIntOf, run_underlying hu, h0, h1, sizeOf, typeInfo, hi1, hi2, add_at, hq]) h
/-- An element of one cell of an array's value. -/
theorem Plan.indexAgg {t e : TypeId} {u : TypeDesc} {x y : Operand} {len : Nat} {kd : IntKind} {j : Int} {vs : List Value} {v : Value} (ho : ops[i]? = some o) (hop : o.op = .index t x y) (hg : wantB ops E o = some true)
    (hx : opF E x = some (.ex (.agg vs.toArray))) (hy : opF E y = some (.ex (.int kd j))) (hu : P.underlying t = some (.array len e)) (hi : (P.info? e).map (·.size) = some 1) (hue : P.underlying e = some u) (hna : aggB u = false) (h0 : 0 ≤ j) (h1 : j < len) (hv : vs[j.toNat]? = some v)
    (h : Plan P ops Q n I d k (i + 1) (setE o.dst (.ex v) E)) : Plan P ops Q n I d (k + 1) i E :=
  Plan.step ho (Step.run ho hg fun a w hI hs' => by
    have e1 := hs' x (by simp [hop, Op.operands]) _ hx
    have e2 := hs' y (by simp [hop, Op.operands]) _ hy
    simp only [Fa.den] at e1 e2
    obtain ⟨inf, hi1, hi2⟩ : ∃ inf, P.info? e = some inf ∧ inf.size = 1 := by
      cases hinf : P.info? e with
      | none => rw [hinf] at hi; cases hi
      | some inf => rw [hinf] at hi; exact ⟨inf, rfl, by simpa using hi⟩
    refine ⟨v, w, ?_, Below.refl _ _, by simp [Fa.den]⟩
    have hagg : (isAgg e).run P w = .ok false w := by
      cases u <;> simp [aggB] at hna <;> simp [isAgg, run_underlying hue]
    simp [execOp, hop, e1, e2, Instr.index, part, asIntOf, run_underlying hu, h0, h1, sizeOf, typeInfo, hi1, hi2, hagg, hv]) h
end
end Go.Free
end

section
set_option linter.unusedSimpArgs false
set_option linter.unusedVariables false
set_option maxRecDepth 20000
namespace Go.Proofs.Ytfglecmimoeinaa
open Go.Free Go.RowKit Go.Proofs
set_option maxHeartbeats 4000000

def vList (d : Nat → Int) : List Value := [vi (d 0), vi (d 1), vi (d 2), vi (d 3), vi (d 4), vi (d 5), vi (d 6), vi (d 7), vi (d 8), vi (d 9), vi (d 10), vi (d 11), vi (d 12), vi (d 13), vi (d 14), vi (d 15)]
abbrev aggV (d : Nat → Int) : Value := .agg (vList d).toArray
abbrev aggD (r n : Int) : Value := .agg [vi r, vi n].toArray
def EvV.op (e : EvV) : List Value := [vi e.kind, str e.key, str e.field, str e.value, vi e.num, vi e.rr, vi e.rn]
abbrev aggO (e : EvV) : Value := .agg e.op.toArray
theorem vList_get (d : Nat → Int) : ∀ {i : Nat}, i < 16 → (vList d)[i]? = some (vi (d i))
  | 0, _ => rfl | 1, _ => rfl | 2, _ => rfl | 3, _ => rfl | 4, _ => rfl | 5, _ => rfl | 6, _ => rfl | 7, _ => rfl | 8, _ => rfl | 9, _ => rfl | 10, _ => rfl | 11, _ => rfl | 12, _ => rfl | 13, _ => rfl | 14, _ => rfl | 15, _ => rfl
  | _ + 16, h => absurd h (by omega)
theorem enc_d (e : EvV) {i : Nat} (h : i < 16) : e.enc[3 + i]? = some (vi (e.d i)) := by
  have : e.enc = [vi e.r, vi e.n, vi e.time] ++ (vList e.d ++ e.op) := rfl
  rw [this, List.getElem?_append_right (by simp), show 3 + i - [vi e.r, vi e.n, vi e.time].length = i by simp, List.getElem?_append_left (by simp [vList]; omega)]
  exact vList_get e.d h
def fieldP (k : Int) : Prop := 3 ≤ k ∧ k ≤ 8
def valueP (k : Int) : Prop := k = 1 ∨ k = 5 ∨ k = 9
def numP (k : Int) : Prop := k = 2 ∨ k = 7
def refP (k : Int) : Prop := k = 9 ∨ k = 10
def kindP (k : Int) : Prop := 1 ≤ k ∧ k ≤ 11
def addP (k : Int) : Prop := k = 1 ∨ k = 2 ∨ k = 3 ∨ k = 5 ∨ k = 7 ∨ k = 9
def dotP (r n : Int) : Prop := 0 ≤ r ∧ r < 16 ∧ 1 ≤ n ∧ n ≤ 1048576
def hasP (d : Nat → Int) (r n : Int) : Prop := dotP r n ∧ n ≤ d r.toNat
def rightVP (d : Nat → Int) : Prop := ∀ i, i < 16 → 0 ≤ d i ∧ d i ≤ 1048576
instance (k : Int) : Decidable (fieldP k) := by unfold fieldP; infer_instance
instance (k : Int) : Decidable (valueP k) := by unfold valueP; infer_instance
instance (k : Int) : Decidable (numP k) := by unfold numP; infer_instance
instance (k : Int) : Decidable (refP k) := by unfold refP; infer_instance
instance (k : Int) : Decidable (kindP k) := by unfold kindP; infer_instance
instance (k : Int) : Decidable (addP k) := by unfold addP; infer_instance
instance (r n : Int) : Decidable (dotP r n) := by unfold dotP; infer_instance
instance (d : Nat → Int) (r n : Int) : Decidable (hasP d r n) := by unfold hasP; infer_instance
instance (d : Nat → Int) : Decidable (rightVP d) := by unfold rightVP; infer_instance

theorem replica_fn (r : Int) : Spc Try.prog 52 [.ex (vi r)] fun _ => .ex (.bool (decide (0 ≤ r ∧ r < 16))) := by
  refine Spc.intro Try.func52 rfl (Nat.le_of_ble_eq_true rfl) fun w0 => ?_
  have hI := hIb w0
  have hA := Own.below w0
  repeat' (first
    | refine Plan.move rfl rfl rfl rfl ?_
    | refine Plan.assign rfl rfl rfl rfl ?_
    | refine Plan.skip rfl rfl ?_
    | refine Plan.extract rfl rfl rfl rfl rfl ?_
    | refine Plan.pick rfl rfl rfl rfl rfl ?_
    | refine Plan.lenStr rfl rfl rfl rfl Try.underlying9 ?_
    | refine Plan.lenE rfl rfl rfl rfl (by first | exact Try.underlying3 | exact Try.underlying9 | exact Try.underlying4 | exact Try.underlying5 | exact Try.underlying27 | exact Try.underlying22 | exact Try.underlying49) ?_
    | (refine Plan.ints rfl rfl rfl rfl rfl rfl ?_; (first | refine Plan.int (i64u8 _) ?_ | refine Plan.int (i64r (by omega)) ?_ | refine Plan.int (u64r (by omega)) ?_ | refine Plan.int (u8r (by omega)) ?_ | refine Plan.int (u16r (by omega)) ?_ | refine Plan.int (quoN (by omega)) ?_ | refine Plan.int (remN _ _) ?_ | refine Plan.int (u8N _) ?_ | skip))
    | refine Plan.un rfl rfl rfl rfl rfl ?_
    | (refine Plan.convInt rfl rfl rfl rfl (by first | exact Try.underlying3 | exact Try.underlying5 | exact Try.underlying2 | exact Try.underlying35 | exact Try.underlying73 | exact Try.underlying21 | exact Try.underlying27) (by first | exact Try.underlying3 | exact Try.underlying5 | exact Try.underlying2 | exact Try.underlying35 | exact Try.underlying73 | exact Try.underlying21 | exact Try.underlying27) ?_; (first | refine Plan.int (i64u8 _) ?_ | refine Plan.int (i64r (by omega)) ?_ | refine Plan.int (u64r (by omega)) ?_ | refine Plan.int (u8r (by omega)) ?_ | refine Plan.int (u16r (by omega)) ?_ | refine Plan.int (quoN (by omega)) ?_ | refine Plan.int (remN _ _) ?_ | refine Plan.int (u8N _) ?_ | skip))
    | refine Plan.nilOk rfl rfl rfl rfl ?_
    | refine Plan.fieldC rfl rfl rfl rfl (by first | exact Try.underlying41 | exact Try.underlying39 | exact Try.underlying26) rfl (by kernel_rfl) (by first | exact (rfl : _ = 0) | exact (rfl : _ = 1) | exact (rfl : _ = 2) | exact (rfl : _ = 3) | exact (rfl : _ = 4) | exact (rfl : _ = 5) | exact (rfl : _ = 6) | exact (rfl : _ = 7) | exact (rfl : _ = 8) | exact (rfl : _ = 9) | exact (rfl : _ = 10) | exact (rfl : _ = 11) | exact (rfl : _ = 12) | exact (rfl : _ = 13) | exact (rfl : _ = 14) | exact (rfl : _ = 15) | exact (rfl : _ = 16) | exact (rfl : _ = 17) | exact (rfl : _ = 18) | exact (rfl : _ = 19) | exact (rfl : _ = 20) | exact (rfl : _ = 21) | exact (rfl : _ = 22) | exact (rfl : _ = 23) | exact (rfl : _ = 24) | exact (rfl : _ = 25)) ?_
    | refine Plan.loadC (key := 1000) (q := 0) rfl rfl rfl rfl rfl rfl (obj_reads1 rfl) (by first | exact Try.underlying3 | exact Try.underlying9 | exact Try.underlying4 | exact Try.underlying5 | exact Try.underlying27 | exact Try.underlying22 | exact Try.underlying49) (by rfl) (by decide) ?_
    | refine Plan.loadC (key := 1000) (q := 1) rfl rfl rfl rfl rfl rfl (obj_reads1 rfl) (by first | exact Try.underlying3 | exact Try.underlying9 | exact Try.underlying4 | exact Try.underlying5 | exact Try.underlying27 | exact Try.underlying22 | exact Try.underlying49) (by rfl) (by decide) ?_
    | refine Plan.loadC (key := 1000) (q := 2) rfl rfl rfl rfl rfl rfl (obj_reads1 rfl) (by first | exact Try.underlying3 | exact Try.underlying9 | exact Try.underlying4 | exact Try.underlying5 | exact Try.underlying27 | exact Try.underlying22 | exact Try.underlying49) (by rfl) (by decide) ?_
    | refine Plan.eqlPtr rfl rfl rfl rfl (by kernel_rfl) ?_
    | refine Plan.neqPtr rfl rfl rfl rfl (by kernel_rfl) ?_
    | refine J.seq (J.region mixed hI (by kernel_rfl) ?_)
    | refine J.region mixed hI (by kernel_rfl) ?_
    | refine J.seq (J.seq (J.region mixed hI (by kernel_rfl) ?_))
    | refine J.condF rfl ?_
    | refine J.condT rfl ?_
    | refine J.skip ?_    | refine Plan.strs rfl rfl rfl rfl rfl rfl ?_
    | refine Plan.boxC (key := 1000) rfl rfl rfl (by intro _ e; cases e; decide) rfl rfl hA fun _ => ?_
    | refine J.condD rfl (fun _ => ?_) (fun _ => ?_)
    | refine J.condND rfl (fun _ => ?_) (fun _ => ?_)
    | refine J.condE rfl (fun _ => ?_) (fun _ => ?_)
    | refine J.condN rfl (fun _ => ?_) (fun _ => ?_)
    | refine Plan.splitD (fun _ => ?_) (fun _ => ?_)
    | refine Plan.splitND (fun _ => ?_) (fun _ => ?_)
    | refine Plan.splitE (fun _ => ?_) (fun _ => ?_)
    | refine Plan.splitN (fun _ => ?_) (fun _ => ?_)
    | refine J.seq ?_)
  all_goals exact J.ret (Nrm.ret1 rfl (fun _ h => h) rfl fun B _ => Sub.of_eq (congrArg (fun b => Fa.ex (.bool b)) (by
    first
    | refine (decide_eq_true ?_).symm
    | refine (decide_eq_false ?_).symm
    | refine decide_eq_decide.2 ?_
    | refine beq_decide ?_
    | refine bne_decide ?_
    all_goals ((try simp only [fieldP, valueP, numP, refP, kindP, addP, dotP, hasP, rightVP] at *); omega))))
theorem dot_fn (r n : Int) : Spc Try.prog 49 [.ex (aggD r n)] fun _ => .ex (.bool (decide (dotP r n))) := by
  refine Spc.intro Try.func49 rfl (Nat.le_of_ble_eq_true rfl) fun w0 => ?_
  have hI := hIb w0
  have hA := Own.below w0
  refine J.heap0 1000 (newB w0) ?_
  repeat' (first
    | refine Plan.move rfl rfl rfl rfl ?_
    | refine Plan.assign rfl rfl rfl rfl ?_
    | refine Plan.skip rfl rfl ?_
    | refine Plan.extract rfl rfl rfl rfl rfl ?_
    | refine Plan.pick rfl rfl rfl rfl rfl ?_
    | refine Plan.lenStr rfl rfl rfl rfl Try.underlying9 ?_
    | refine Plan.lenE rfl rfl rfl rfl (by first | exact Try.underlying3 | exact Try.underlying9 | exact Try.underlying4 | exact Try.underlying5 | exact Try.underlying27 | exact Try.underlying22 | exact Try.underlying49) ?_
    | (refine Plan.ints rfl rfl rfl rfl rfl rfl ?_; (first | refine Plan.int (i64u8 _) ?_ | refine Plan.int (i64r (by omega)) ?_ | refine Plan.int (u64r (by omega)) ?_ | refine Plan.int (u8r (by omega)) ?_ | refine Plan.int (u16r (by omega)) ?_ | refine Plan.int (quoN (by omega)) ?_ | refine Plan.int (remN _ _) ?_ | refine Plan.int (u8N _) ?_ | skip))
    | refine Plan.un rfl rfl rfl rfl rfl ?_
    | (refine Plan.convInt rfl rfl rfl rfl (by first | exact Try.underlying3 | exact Try.underlying5 | exact Try.underlying2 | exact Try.underlying35 | exact Try.underlying73 | exact Try.underlying21 | exact Try.underlying27) (by first | exact Try.underlying3 | exact Try.underlying5 | exact Try.underlying2 | exact Try.underlying35 | exact Try.underlying73 | exact Try.underlying21 | exact Try.underlying27) ?_; (first | refine Plan.int (i64u8 _) ?_ | refine Plan.int (i64r (by omega)) ?_ | refine Plan.int (u64r (by omega)) ?_ | refine Plan.int (u8r (by omega)) ?_ | refine Plan.int (u16r (by omega)) ?_ | refine Plan.int (quoN (by omega)) ?_ | refine Plan.int (remN _ _) ?_ | refine Plan.int (u8N _) ?_ | skip))
    | refine Plan.nilOk rfl rfl rfl rfl ?_
    | refine Plan.fieldC rfl rfl rfl rfl (by first | exact Try.underlying41 | exact Try.underlying39 | exact Try.underlying26) rfl (by kernel_rfl) (by first | exact (rfl : _ = 0) | exact (rfl : _ = 1) | exact (rfl : _ = 2) | exact (rfl : _ = 3) | exact (rfl : _ = 4) | exact (rfl : _ = 5) | exact (rfl : _ = 6) | exact (rfl : _ = 7) | exact (rfl : _ = 8) | exact (rfl : _ = 9) | exact (rfl : _ = 10) | exact (rfl : _ = 11) | exact (rfl : _ = 12) | exact (rfl : _ = 13) | exact (rfl : _ = 14) | exact (rfl : _ = 15) | exact (rfl : _ = 16) | exact (rfl : _ = 17) | exact (rfl : _ = 18) | exact (rfl : _ = 19) | exact (rfl : _ = 20) | exact (rfl : _ = 21) | exact (rfl : _ = 22) | exact (rfl : _ = 23) | exact (rfl : _ = 24) | exact (rfl : _ = 25)) ?_
    | refine Plan.loadC (key := 1000) (q := 0) rfl rfl rfl rfl rfl rfl (obj_reads1 rfl) (by first | exact Try.underlying3 | exact Try.underlying9 | exact Try.underlying4 | exact Try.underlying5 | exact Try.underlying27 | exact Try.underlying22 | exact Try.underlying49) (by rfl) (by decide) ?_
    | refine Plan.loadC (key := 1000) (q := 1) rfl rfl rfl rfl rfl rfl (obj_reads1 rfl) (by first | exact Try.underlying3 | exact Try.underlying9 | exact Try.underlying4 | exact Try.underlying5 | exact Try.underlying27 | exact Try.underlying22 | exact Try.underlying49) (by rfl) (by decide) ?_
    | refine Plan.loadC (key := 1000) (q := 2) rfl rfl rfl rfl rfl rfl (obj_reads1 rfl) (by first | exact Try.underlying3 | exact Try.underlying9 | exact Try.underlying4 | exact Try.underlying5 | exact Try.underlying27 | exact Try.underlying22 | exact Try.underlying49) (by rfl) (by decide) ?_
    | refine Plan.eqlPtr rfl rfl rfl rfl (by kernel_rfl) ?_
    | refine Plan.neqPtr rfl rfl rfl rfl (by kernel_rfl) ?_
    | refine J.seq (J.region mixed hI (by kernel_rfl) ?_)
    | refine J.region mixed hI (by kernel_rfl) ?_
    | refine J.seq (J.seq (J.region mixed hI (by kernel_rfl) ?_))
    | refine J.condF rfl ?_
    | refine J.condT rfl ?_
    | refine J.skip ?_
    | refine Plan.call (B := w0.heap.size) rfl rfl rfl (replica_fn r) Try.func52 rfl rfl (hBb w0) (by repeat (first | exact Opnds.nil | refine Opnds.cons rfl (by first | exact Sub.refl _ | exact Sub.own | exact Sub.old (fun _ h => h) | exact Sub.oldOwn (fun _ h => h) | exact Sub.nilRow | exact Sub.exIn hbe) ?_)) ?_    | refine Plan.strs rfl rfl rfl rfl rfl rfl ?_
    | refine Plan.boxC (key := 1000) rfl rfl rfl (by intro _ e; cases e; decide) rfl rfl hA fun _ => ?_
    | refine J.condD rfl (fun _ => ?_) (fun _ => ?_)
    | refine J.condND rfl (fun _ => ?_) (fun _ => ?_)
    | refine J.condE rfl (fun _ => ?_) (fun _ => ?_)
    | refine J.condN rfl (fun _ => ?_) (fun _ => ?_)
    | refine Plan.splitD (fun _ => ?_) (fun _ => ?_)
    | refine Plan.splitND (fun _ => ?_) (fun _ => ?_)
    | refine Plan.splitE (fun _ => ?_) (fun _ => ?_)
    | refine Plan.splitN (fun _ => ?_) (fun _ => ?_)
    | refine J.seq ?_)
  all_goals exact J.ret (Nrm.ret1 rfl (fun _ h => h) rfl fun B _ => Sub.of_eq (congrArg (fun b => Fa.ex (.bool b)) (by
    first
    | refine (decide_eq_true ?_).symm
    | refine (decide_eq_false ?_).symm
    | refine decide_eq_decide.2 ?_
    | refine beq_decide ?_
    | refine bne_decide ?_
    all_goals ((try simp only [fieldP, valueP, numP, refP, kindP, addP, dotP, hasP, rightVP] at *); omega))))
theorem refDot_fn (r n : Int) : Spc Try.prog 50 [.ex (aggD r n)] fun _ => .ex (.bool (decide (dotP r n))) := by
  refine Spc.intro Try.func50 rfl (Nat.le_of_ble_eq_true rfl) fun w0 => ?_
  have hI := hIb w0
  have hA := Own.below w0
  refine J.heap0 1000 (newB w0) ?_
  repeat' (first
    | refine Plan.move rfl rfl rfl rfl ?_
    | refine Plan.assign rfl rfl rfl rfl ?_
    | refine Plan.skip rfl rfl ?_
    | refine Plan.extract rfl rfl rfl rfl rfl ?_
    | refine Plan.pick rfl rfl rfl rfl rfl ?_
    | refine Plan.lenStr rfl rfl rfl rfl Try.underlying9 ?_
    | refine Plan.lenE rfl rfl rfl rfl (by first | exact Try.underlying3 | exact Try.underlying9 | exact Try.underlying4 | exact Try.underlying5 | exact Try.underlying27 | exact Try.underlying22 | exact Try.underlying49) ?_
    | (refine Plan.ints rfl rfl rfl rfl rfl rfl ?_; (first | refine Plan.int (i64u8 _) ?_ | refine Plan.int (i64r (by omega)) ?_ | refine Plan.int (u64r (by omega)) ?_ | refine Plan.int (u8r (by omega)) ?_ | refine Plan.int (u16r (by omega)) ?_ | refine Plan.int (quoN (by omega)) ?_ | refine Plan.int (remN _ _) ?_ | refine Plan.int (u8N _) ?_ | skip))
    | refine Plan.un rfl rfl rfl rfl rfl ?_
    | (refine Plan.convInt rfl rfl rfl rfl (by first | exact Try.underlying3 | exact Try.underlying5 | exact Try.underlying2 | exact Try.underlying35 | exact Try.underlying73 | exact Try.underlying21 | exact Try.underlying27) (by first | exact Try.underlying3 | exact Try.underlying5 | exact Try.underlying2 | exact Try.underlying35 | exact Try.underlying73 | exact Try.underlying21 | exact Try.underlying27) ?_; (first | refine Plan.int (i64u8 _) ?_ | refine Plan.int (i64r (by omega)) ?_ | refine Plan.int (u64r (by omega)) ?_ | refine Plan.int (u8r (by omega)) ?_ | refine Plan.int (u16r (by omega)) ?_ | refine Plan.int (quoN (by omega)) ?_ | refine Plan.int (remN _ _) ?_ | refine Plan.int (u8N _) ?_ | skip))
    | refine Plan.nilOk rfl rfl rfl rfl ?_
    | refine Plan.fieldC rfl rfl rfl rfl (by first | exact Try.underlying41 | exact Try.underlying39 | exact Try.underlying26) rfl (by kernel_rfl) (by first | exact (rfl : _ = 0) | exact (rfl : _ = 1) | exact (rfl : _ = 2) | exact (rfl : _ = 3) | exact (rfl : _ = 4) | exact (rfl : _ = 5) | exact (rfl : _ = 6) | exact (rfl : _ = 7) | exact (rfl : _ = 8) | exact (rfl : _ = 9) | exact (rfl : _ = 10) | exact (rfl : _ = 11) | exact (rfl : _ = 12) | exact (rfl : _ = 13) | exact (rfl : _ = 14) | exact (rfl : _ = 15) | exact (rfl : _ = 16) | exact (rfl : _ = 17) | exact (rfl : _ = 18) | exact (rfl : _ = 19) | exact (rfl : _ = 20) | exact (rfl : _ = 21) | exact (rfl : _ = 22) | exact (rfl : _ = 23) | exact (rfl : _ = 24) | exact (rfl : _ = 25)) ?_
    | refine Plan.loadC (key := 1000) (q := 0) rfl rfl rfl rfl rfl rfl (obj_reads1 rfl) (by first | exact Try.underlying3 | exact Try.underlying9 | exact Try.underlying4 | exact Try.underlying5 | exact Try.underlying27 | exact Try.underlying22 | exact Try.underlying49) (by rfl) (by decide) ?_
    | refine Plan.loadC (key := 1000) (q := 1) rfl rfl rfl rfl rfl rfl (obj_reads1 rfl) (by first | exact Try.underlying3 | exact Try.underlying9 | exact Try.underlying4 | exact Try.underlying5 | exact Try.underlying27 | exact Try.underlying22 | exact Try.underlying49) (by rfl) (by decide) ?_
    | refine Plan.loadC (key := 1000) (q := 2) rfl rfl rfl rfl rfl rfl (obj_reads1 rfl) (by first | exact Try.underlying3 | exact Try.underlying9 | exact Try.underlying4 | exact Try.underlying5 | exact Try.underlying27 | exact Try.underlying22 | exact Try.underlying49) (by rfl) (by decide) ?_
    | refine Plan.eqlPtr rfl rfl rfl rfl (by kernel_rfl) ?_
    | refine Plan.neqPtr rfl rfl rfl rfl (by kernel_rfl) ?_
    | refine J.seq (J.region mixed hI (by kernel_rfl) ?_)
    | refine J.region mixed hI (by kernel_rfl) ?_
    | refine J.seq (J.seq (J.region mixed hI (by kernel_rfl) ?_))
    | refine J.condF rfl ?_
    | refine J.condT rfl ?_
    | refine J.skip ?_    | refine Plan.strs rfl rfl rfl rfl rfl rfl ?_
    | refine Plan.boxC (key := 1000) rfl rfl rfl (by intro _ e; cases e; decide) rfl rfl hA fun _ => ?_
    | refine J.condD rfl (fun _ => ?_) (fun _ => ?_)
    | refine J.condND rfl (fun _ => ?_) (fun _ => ?_)
    | refine J.condE rfl (fun _ => ?_) (fun _ => ?_)
    | refine J.condN rfl (fun _ => ?_) (fun _ => ?_)
    | refine Plan.splitD (fun _ => ?_) (fun _ => ?_)
    | refine Plan.splitND (fun _ => ?_) (fun _ => ?_)
    | refine Plan.splitE (fun _ => ?_) (fun _ => ?_)
    | refine Plan.splitN (fun _ => ?_) (fun _ => ?_)
    | refine J.seq ?_)
  all_goals exact J.ret (Nrm.ret1 rfl (fun _ h => h) rfl fun B _ => Sub.of_eq (congrArg (fun b => Fa.ex (.bool b)) (by
    first
    | refine (decide_eq_true ?_).symm
    | refine (decide_eq_false ?_).symm
    | refine decide_eq_decide.2 ?_
    | refine beq_decide ?_
    | refine bne_decide ?_
    all_goals ((try simp only [fieldP, valueP, numP, refP, kindP, addP, dotP, hasP, rightVP] at *); omega))))
end Go.Proofs.Ytfglecmimoeinaa
end
