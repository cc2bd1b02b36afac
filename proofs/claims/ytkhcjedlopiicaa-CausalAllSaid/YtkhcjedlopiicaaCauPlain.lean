/-
  Events that come too early, plain: each that is told may be seen, and is seen from then on; then nothing more is told.
-/
import Derived.Test.YtkhcjedlopiicaaCauOffer
set_option linter.unusedSimpArgs false
set_option linter.unusedVariables false
set_option maxRecDepth 20000
namespace Go.Proofs.Ytkhcjedlopiicaa
open Go.Free Go.RowKit Go.Proofs
def setAll (v : Nat → Int) (l : List EvV) : Nat → Int := l.foldl setV v
theorem setAll_snoc (v : Nat → Int) (l : List EvV) (x : EvV) : setAll v (l ++ [x]) = setV (setAll v l) x := by simp [setAll]
theorem okV_all {v : Nat → Int} (hv : okV v) : ∀ {l : List EvV}, (∀ x ∈ l, x.okV) → okV (setAll v l) := by
  intro l
  induction l generalizing v with
  | nil => intro _; exact hv
  | cons x l ih => intro h; exact ih (okV_set hv (h x List.mem_cons_self)) fun y hy => h y (List.mem_cons_of_mem _ hy)
theorem tell_each {k : Nat} : ∀ {v : Nat → Int} {B : List (Dt × EvV)}, heldB B → ∀ {j : Nat} {x : EvV}, (tellE k v B).1[j]? = some x → mayB x (setAll v ((tellE k v B).1.take j)) = true ∧ rightP x ∧ x.okV := by
  induction k with
  | zero => intro v B _ j x h; simp [tellE] at h
  | succ k ih =>
    intro v B hs j x h
    cases hn : nextE v B with
    | none =>
      have e : tellE (k + 1) v B = ([], restE v B) := by show (match nextE v B with | none => _ | some x => _) = _; rw [hn]
      rw [e] at h; simp at h
    | some y =>
      have e : tellE (k + 1) v B = (y.2 :: (tellE k (setV v y.2) (restE v B)).1, (tellE k (setV v y.2) (restE v B)).2) := by show (match nextE v B with | none => _ | some x => _) = _; rw [hn]
      rw [e] at h ⊢
      cases j with
      | zero =>
        simp only [List.getElem?_cons_zero, Option.some.injEq] at h
        subst h
        have hm : y ∈ leftE v B := List.mem_of_find?_eq_some hn
        obtain ⟨_, h2, h3⟩ := (held_left hs).2 y hm
        exact ⟨by simpa [setAll] using List.find?_some hn, h3, h2⟩
      | succ j =>
        simp only [List.getElem?_cons_succ] at h
        exact ih (held_rest hs) h
theorem told_each {v : Nat → Int} {B : List (Dt × EvV)} (hs : heldB B) {j : Nat} {x : EvV} (h : (toldE v B).1[j]? = some x) : mayB x (setAll v ((toldE v B).1.take j)) = true ∧ rightP x ∧ x.okV := tell_each hs h
theorem told_ok {v : Nat → Int} {B : List (Dt × EvV)} (hs : heldB B) : ∀ x ∈ (toldE v B).1, rightP x ∧ x.okV := fun x hx => by
  obtain ⟨j, hj⟩ := List.mem_iff_getElem?.1 hx
  exact (told_each hs hj).2
theorem tell_held {k : Nat} : ∀ {v : Nat → Int} {B : List (Dt × EvV)}, heldB B → heldB (tellE k v B).2 := by
  induction k with
  | zero => intro v B hs; exact held_rest hs
  | succ k ih =>
    intro v B hs
    cases hn : nextE v B with
    | none =>
      have e : tellE (k + 1) v B = ([], restE v B) := by show (match nextE v B with | none => _ | some x => _) = _; rw [hn]
      rw [e]; exact held_rest hs
    | some y =>
      have e : tellE (k + 1) v B = (y.2 :: (tellE k (setV v y.2) (restE v B)).1, (tellE k (setV v y.2) (restE v B)).2) := by show (match nextE v B with | none => _ | some x => _) = _; rw [hn]
      rw [e]; exact ih (held_rest hs)
theorem told_held {v : Nat → Int} {B : List (Dt × EvV)} (hs : heldB B) : heldB (toldE v B).2 := tell_held hs
theorem left_left (v : Nat → Int) (B : List (Dt × EvV)) : leftE v (leftE v B) = leftE v B := by unfold leftE keepE; rw [List.filter_filter]; simp
theorem tell_end {k : Nat} : ∀ {v : Nat → Int} {B : List (Dt × EvV)}, heldB B → B.length ≤ k → nextE (setAll v (tellE k v B).1) (tellE k v B).2 = none ∧ leftE (setAll v (tellE k v B).1) (tellE k v B).2 = (tellE k v B).2 := by
  have base : ∀ {v : Nat → Int} {B : List (Dt × EvV)}, nextE v B = none → nextE v (restE v B) = none ∧ leftE v (restE v B) = restE v B := fun {v B} hn => by
    have e : restE v B = leftE v B := by unfold restE; rw [hn]
    rw [e]
    exact ⟨by unfold nextE at hn ⊢; rw [left_left]; exact hn, left_left v B⟩
  induction k with
  | zero =>
    intro v B hs hl
    have hB : B = [] := List.eq_nil_of_length_eq_zero (by omega)
    subst hB
    exact base (v := v) (B := []) rfl
  | succ k ih =>
    intro v B hs hl
    cases hn : nextE v B with
    | none =>
      have e : tellE (k + 1) v B = ([], restE v B) := by show (match nextE v B with | none => _ | some x => _) = _; rw [hn]
      rw [e]; exact base hn
    | some y =>
      have e : tellE (k + 1) v B = (y.2 :: (tellE k (setV v y.2) (restE v B)).1, (tellE k (setV v y.2) (restE v B)).2) := by show (match nextE v B with | none => _ | some x => _) = _; rw [hn]
      have hlt := rest_lt hn hs
      rw [e]; exact ih (held_rest hs) (by omega)
theorem told_end {v : Nat → Int} {B : List (Dt × EvV)} (hs : heldB B) : nextE (setAll v (toldE v B).1) (toldE v B).2 = none ∧ leftE (setAll v (toldE v B).1) (toldE v B).2 = (toldE v B).2 := tell_end hs (Nat.le_refl _)
/-- Where nothing may be seen, nothing is told. -/
theorem told_still {v : Nat → Int} {B : List (Dt × EvV)} (hs : heldB B) (h1 : nextE v B = none) (h2 : leftE v B = B) : toldE v B = ([], B) := by
  rw [told_none hs h1]
  have e : restE v B = leftE v B := by unfold restE; rw [h1]
  rw [e, h2]
theorem come_seen {e : EvV} {v : Nat → Int} {B : List (Dt × EvV)} (h : hasP v e.r e.n) : comeE e v B = B := by unfold comeE; rw [if_neg (fun hc => hc.2.1 h)]
theorem len_come64 {e : EvV} {v : Nat → Int} {B : List (Dt × EvV)} (h : B.length ≤ 64) : (comeE e v B).length ≤ 64 := by
  unfold comeE; split
  · rename_i hc
    have := len_put_le B (dotE e) e
    omega
  · exact h
theorem may_next {x : EvV} {v : Nat → Int} (hv : okV v) (hr : rightP x) (h : mayB x v = true) : x.n = v x.r.toNat + 1 := by
  unfold mayB at h
  rw [Bool.and_eq_true] at h
  have h1 : x.n = incW (v x.r.toNat) := by simpa using h.1
  have h2 := hv x.r.toNat (by have := hr.1.1; have := hr.1.2.1; omega)
  have h3 := hr.1.2.2.1
  unfold incW at h1
  unfold in64 at h2
  by_cases hb : v x.r.toNat = 9223372036854775807
  · rw [hb] at h1
    have : IntKind.wrap .i64 (9223372036854775807 + 1) = -9223372036854775808 := by decide +kernel
    omega
  · rw [i64r (by omega)] at h1; exact h1
theorem setV_le {x : EvV} {v : Nat → Int} (hv : okV v) (hr : rightP x) (h : mayB x v = true) (i : Nat) : v i ≤ setV v x i := by
  have := may_next hv hr h
  unfold setV; split
  · rename_i hi; subst hi; omega
  · exact Int.le_refl _
/-- What was told has been seen from then on. -/
theorem all_le {l : List EvV} : ∀ {v : Nat → Int}, okV v → (∀ (j : Nat) x, l[j]? = some x → mayB x (setAll v (l.take j)) = true ∧ rightP x ∧ x.okV) → (∀ i, v i ≤ setAll v l i) ∧ ∀ x ∈ l, hasP (setAll v l) x.r x.n := by
  induction l with
  | nil => intro v _ _; exact ⟨fun i => Int.le_refl _, by simp⟩
  | cons y l ih =>
    intro v hv h
    obtain ⟨h1, h2, h3⟩ := h 0 y rfl
    have h1' : mayB y v = true := h1
    obtain ⟨g1, g2⟩ := ih (v := setV v y) (okV_set hv h3) fun j x hx => h (j + 1) x (by simpa using hx)
    refine ⟨fun i => Int.le_trans (setV_le hv h2 h1' i) (g1 i), fun x hx => ?_⟩
    rcases List.mem_cons.1 hx with rfl | hx
    · refine ⟨h2.1, ?_⟩
      have := g1 x.r.toNat
      have e : setV v x x.r.toNat = x.n := by unfold setV; rw [if_pos rfl]
      rw [e] at this; exact this
    · exact g2 x hx
theorem has_le {u w : Nat → Int} (h : ∀ i, u i ≤ w i) {r n : Int} (hh : hasP u r n) : hasP w r n := ⟨hh.1, Int.le_trans hh.2 (h _)⟩
end Go.Proofs.Ytkhcjedlopiicaa
