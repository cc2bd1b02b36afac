/-
  Bags, plain: what is in a bag behind Put, Remove and Drop.
-/
import Derived.Test.YtkhcjedlopiicaaBagPlain
set_option linter.unusedSimpArgs false
set_option linter.unusedVariables false
set_option maxRecDepth 20000
namespace Go.Proofs.Ytkhcjedlopiicaa
open Go.Free Go.RowKit Go.Proofs
section
variable {α : Type}
theorem sorted_map {l : List (Dt × α)} : sortedD l ↔ (l.map (·.1)).Pairwise dlt := by unfold sortedD; rw [List.pairwise_map]
theorem sorted_one {l : List (Dt × α)} (h : sortedD l) {d : Dt} {x y : α} (hx : (d, x) ∈ l) (hy : (d, y) ∈ l) : x = y := by
  obtain ⟨i, hi, e1⟩ := List.getElem_of_mem hx
  obtain ⟨j, hj, e2⟩ := List.getElem_of_mem hy
  have g1 : l[i]? = some (d, x) := by rw [List.getElem?_eq_getElem hi, e1]
  have g2 : l[j]? = some (d, y) := by rw [List.getElem?_eq_getElem hj, e2]
  rcases Nat.lt_trichotomy i j with h1 | h1 | h1
  · exact absurd (sorted_at h g1 g2 h1) (dlt_irr _)
  · subst h1; rw [g1] at g2; cases g2; rfl
  · exact absurd (sorted_at h g2 g1 h1) (dlt_irr _)
theorem here_mem {l : List (Dt × α)} (h : sortedD l) {d : Dt} : hereD l d = true ↔ ∃ x, (d, x) ∈ l := by
  rw [hereD_iff h]
  exact ⟨fun ⟨x, hx, e⟩ => ⟨x.2, by rw [← e]; exact hx⟩, fun ⟨x, hx⟩ => ⟨_, hx, rfl⟩⟩
theorem here_not {l : List (Dt × α)} (h : sortedD l) {d : Dt} : hereD l d = false ↔ ∀ x, (d, x) ∉ l := by
  rw [← Bool.not_eq_true, here_mem h]
  exact ⟨fun hh x hx => hh ⟨x, hx⟩, fun hh ⟨x, hx⟩ => hh x hx⟩
theorem val_mem {l : List (Dt × α)} (h : sortedD l) {d : Dt} {x z : α} (hx : (d, x) ∈ l) : valD l d z = x := by
  have hh := (here_mem h).2 ⟨x, hx⟩
  obtain ⟨y, hy, hyd⟩ := here_at hh
  unfold valD
  rw [if_pos hh, hy]
  have : (d, y.2) ∈ l := by rw [← hyd]; exact List.mem_of_getElem? hy
  exact sorted_one h this hx
theorem val_not {l : List (Dt × α)} {d : Dt} {z : α} (h : hereD l d = false) : valD l d z = z := by unfold valD; rw [h]; rfl
theorem sorted_put {l : List (Dt × α)} (h : sortedD l) (d : Dt) (x : α) : sortedD (putD l d x) := by
  unfold putD
  split
  · rename_i hh
    obtain ⟨y, hy, hyd⟩ := here_at hh
    obtain ⟨hp, hpe⟩ := List.getElem?_eq_some_iff.1 hy
    rw [sorted_map] at h ⊢
    have : (l.set (posD l d) (d, x)).map (·.1) = l.map (·.1) := by
      rw [List.map_set]
      refine List.ext_getElem? fun i => ?_
      rw [List.getElem?_set]
      split
      · rename_i hi
        subst hi
        rw [if_pos (by simpa using hp), List.getElem?_map, hy]
        simp [hyd]
      · rfl
    rw [this]; exact h
  · rename_i hh
    rw [Bool.not_eq_true] at hh
    have key : ∀ z : Dt × α, z ∈ l → ¬ dlt z.1 d → dlt d z.1 := fun z hz h1 => by
      rcases dlt_tri d z.1 with h2 | h2 | h2
      · exact h2
      · exact absurd hz (fun hm => (here_not h).1 hh z.2 (by rw [h2]; exact hm))
      · exact absurd h2 h1
    unfold insD sortedD
    refine List.pairwise_append.2 ⟨h.sublist (List.take_sublist _ _), List.pairwise_cons.2 ⟨fun y hy => ?_, h.sublist (List.drop_sublist _ _)⟩, fun y hy z hz => ?_⟩
    · obtain ⟨i, hi, rfl⟩ := List.getElem_of_mem hy
      rw [List.length_drop] at hi
      rw [List.getElem_drop]
      have hg : l[posD l d + i]? = some l[posD l d + i] := List.getElem?_eq_getElem (by omega)
      have h1 : ¬ dlt l[posD l d + i].1 d := fun hd => by have := (posD_lt h hg).2 hd; omega
      exact key _ (List.mem_of_getElem? hg) h1
    · have hyd : dlt y.1 d := by
        obtain ⟨i, hi, rfl⟩ := List.getElem_of_mem hy
        rw [List.length_take] at hi
        rw [List.getElem_take]
        exact (posD_lt h (List.getElem?_eq_getElem (by omega))).1 (by omega)
      rcases List.mem_cons.1 hz with rfl | hz
      · exact hyd
      · have hyz := List.pairwise_append.1 (show (l.take (posD l d) ++ l.drop (posD l d)).Pairwise (fun x y => dlt x.1 y.1) by rw [List.take_append_drop]; exact h)
        exact hyz.2.2 y hy z hz
theorem mem_put {l : List (Dt × α)} (h : sortedD l) (d : Dt) (x : α) (e : Dt) (y : α) : (e, y) ∈ putD l d x ↔ (e = d ∧ y = x) ∨ (e ≠ d ∧ (e, y) ∈ l) := by
  unfold putD
  split
  · rename_i hh
    obtain ⟨z, hz, hzd⟩ := here_at hh
    obtain ⟨hp, hpe⟩ := List.getElem?_eq_some_iff.1 hz
    constructor
    · intro hm
      obtain ⟨i, hi⟩ := List.mem_iff_getElem?.1 hm
      rw [List.getElem?_set] at hi
      split at hi
      · cases hi; exact .inl ⟨rfl, rfl⟩
      · rename_i hne
        refine .inr ⟨fun he => ?_, List.mem_of_getElem? hi⟩
        subst he
        rcases Nat.lt_trichotomy i (posD l e) with h1 | h1 | h1
        · have := sorted_at h hi hz h1; rw [hzd] at this; exact dlt_irr _ this
        · exact hne h1.symm
        · have := sorted_at h hz hi h1; rw [hzd] at this; exact dlt_irr _ this
    · rintro (⟨rfl, rfl⟩ | ⟨hne, hm⟩)
      · exact List.mem_iff_getElem?.2 ⟨posD l e, by rw [List.getElem?_set, if_pos rfl, if_pos hp]⟩
      · obtain ⟨i, hi⟩ := List.mem_iff_getElem?.1 hm
        refine List.mem_iff_getElem?.2 ⟨i, ?_⟩
        rw [List.getElem?_set, if_neg (fun he => hne ?_), hi]
        subst he; rw [hz] at hi; cases hi; exact hzd
  · rename_i hh
    rw [Bool.not_eq_true] at hh
    have hm : (e, y) ∈ l ↔ (e, y) ∈ l.take (posD l d) ∨ (e, y) ∈ l.drop (posD l d) := by rw [← List.mem_append, List.take_append_drop]
    unfold insD
    rw [List.mem_append, List.mem_cons]
    constructor
    · rintro (h1 | h1 | h1)
      · exact .inr ⟨fun he => (here_not h).1 hh y (he ▸ hm.2 (.inl h1)), hm.2 (.inl h1)⟩
      · cases h1; exact .inl ⟨rfl, rfl⟩
      · exact .inr ⟨fun he => (here_not h).1 hh y (he ▸ hm.2 (.inr h1)), hm.2 (.inr h1)⟩
    · rintro (⟨rfl, rfl⟩ | ⟨_, h1⟩)
      · exact .inr (.inl rfl)
      · rcases hm.1 h1 with h2 | h2
        · exact .inl h2
        · exact .inr (.inr h2)
theorem len_put (l : List (Dt × α)) (d : Dt) (x : α) : (putD l d x).length = if hereD l d then l.length else l.length + 1 := by
  unfold putD; split
  · rw [List.length_set]
  · rw [insD_length]
theorem len_put_le (l : List (Dt × α)) (d : Dt) (x : α) : (putD l d x).length ≤ l.length + 1 := by rw [len_put]; split <;> omega
theorem sorted_rem {l : List (Dt × α)} (h : sortedD l) (d : Dt) : sortedD (remD l d) := by
  unfold remD; split
  · exact h.sublist (List.eraseIdx_sublist _ _)
  · exact h
theorem mem_rem {l : List (Dt × α)} (h : sortedD l) (d e : Dt) (y : α) : (e, y) ∈ remD l d ↔ e ≠ d ∧ (e, y) ∈ l := by
  unfold remD
  split
  · rename_i hh
    obtain ⟨z, hz, hzd⟩ := here_at hh
    rw [List.mem_eraseIdx_iff_getElem?]
    constructor
    · rintro ⟨i, hne, hi⟩
      refine ⟨fun he => ?_, List.mem_of_getElem? hi⟩
      subst he
      rcases Nat.lt_trichotomy i (posD l e) with h1 | h1 | h1
      · have := sorted_at h hi hz h1; rw [hzd] at this; exact dlt_irr _ this
      · exact hne h1
      · have := sorted_at h hz hi h1; rw [hzd] at this; exact dlt_irr _ this
    · rintro ⟨hne, hm⟩
      obtain ⟨i, hi⟩ := List.mem_iff_getElem?.1 hm
      refine ⟨i, fun he => hne ?_, hi⟩
      subst he; rw [hz] at hi; cases hi; exact hzd
  · rename_i hh
    rw [Bool.not_eq_true] at hh
    exact ⟨fun hm => ⟨fun he => (here_not h).1 hh y (he ▸ hm), hm⟩, fun hm => hm.2⟩
theorem len_rem (l : List (Dt × α)) (d : Dt) : (remD l d).length = if hereD l d then l.length - 1 else l.length := by
  unfold remD; split
  · rename_i hh
    obtain ⟨z, hz, hzd⟩ := here_at hh
    rw [List.length_eraseIdx, if_pos (List.getElem?_eq_some_iff.1 hz).1]
  · rfl
/-- Bags with the same things are the same. -/
theorem sorted_ext : ∀ {a b : List (Dt × α)}, sortedD a → sortedD b → (∀ d x, (d, x) ∈ a ↔ (d, x) ∈ b) → a = b
  | [], [], _, _, _ => rfl
  | [], y :: b, _, _, h => absurd ((h y.1 y.2).2 List.mem_cons_self) (by simp)
  | x :: a, [], _, _, h => absurd ((h x.1 x.2).1 List.mem_cons_self) (by simp)
  | x :: a, y :: b, ha, hb, h => by
    have ha' := List.pairwise_cons.1 ha
    have hb' := List.pairwise_cons.1 hb
    have hxy : x = y := by
      have h1 := (h x.1 x.2).1 List.mem_cons_self
      have h2 := (h y.1 y.2).2 List.mem_cons_self
      rcases List.mem_cons.1 h1 with h1 | h1
      · exact h1
      · rcases List.mem_cons.1 h2 with h2 | h2
        · exact h2.symm
        · exact absurd (dlt_trans (hb'.1 _ h1) (ha'.1 _ h2)) (dlt_irr _)
    subst hxy
    congr 1
    refine sorted_ext ha'.2 hb'.2 fun d z => ⟨fun hm => ?_, fun hm => ?_⟩
    · rcases List.mem_cons.1 ((h d z).1 (List.mem_cons_of_mem _ hm)) with h1 | h1
      · have := ha'.1 _ hm; rw [← h1] at this; exact absurd this (dlt_irr _)
      · exact h1
    · rcases List.mem_cons.1 ((h d z).2 (List.mem_cons_of_mem _ hm)) with h1 | h1
      · have := hb'.1 _ hm; rw [← h1] at this; exact absurd this (dlt_irr _)
      · exact h1
theorem here_put {l : List (Dt × α)} (h : sortedD l) (d : Dt) (x : α) (e : Dt) : hereD (putD l d x) e = (decide (e = d) || hereD l e) := by
  rw [Bool.eq_iff_iff, here_mem (sorted_put h d x), Bool.or_eq_true, decide_eq_true_eq, here_mem h]
  constructor
  · rintro ⟨y, hy⟩
    rcases (mem_put h d x e y).1 hy with h1 | h1
    · exact .inl h1.1
    · exact .inr ⟨y, h1.2⟩
  · rintro (h1 | ⟨y, hy⟩)
    · exact ⟨x, (mem_put h d x e x).2 (.inl ⟨h1, rfl⟩)⟩
    · by_cases he : e = d
      · exact ⟨x, (mem_put h d x e x).2 (.inl ⟨he, rfl⟩)⟩
      · exact ⟨y, (mem_put h d x e y).2 (.inr ⟨he, hy⟩)⟩
theorem val_put {l : List (Dt × α)} (h : sortedD l) (d : Dt) (x : α) (e : Dt) (z : α) : valD (putD l d x) e z = if e = d then x else valD l e z := by
  split
  · rename_i he; subst he
    exact val_mem (sorted_put h e x) ((mem_put h e x e x).2 (.inl ⟨rfl, rfl⟩))
  · rename_i he
    cases hh : hereD l e with
    | false => rw [val_not hh, val_not (by rw [here_put h, hh]; simp [he])]
    | true =>
      obtain ⟨y, hy⟩ := (here_mem h).1 hh
      rw [val_mem h hy, val_mem (sorted_put h d x) ((mem_put h d x e y).2 (.inr ⟨he, hy⟩))]
theorem here_rem {l : List (Dt × α)} (h : sortedD l) (d e : Dt) : hereD (remD l d) e = (decide (e ≠ d) && hereD l e) := by
  rw [Bool.eq_iff_iff, here_mem (sorted_rem h d), Bool.and_eq_true, decide_eq_true_eq, here_mem h]
  exact ⟨fun ⟨y, hy⟩ => ⟨((mem_rem h d e y).1 hy).1, y, ((mem_rem h d e y).1 hy).2⟩, fun ⟨h1, y, hy⟩ => ⟨y, (mem_rem h d e y).2 ⟨h1, hy⟩⟩⟩
/-- A list's things, put one after the other. -/
def putAll (b l : List (Dt × α)) : List (Dt × α) := l.foldl (fun b x => putD b x.1 x.2) b
theorem putAll_snoc (b l : List (Dt × α)) (x : Dt × α) : putAll b (l ++ [x]) = putD (putAll b l) x.1 x.2 := by simp [putAll]
theorem sorted_putAll {b : List (Dt × α)} (hb : sortedD b) : ∀ l : List (Dt × α), sortedD (putAll b l) := by
  intro l
  induction l generalizing b with
  | nil => exact hb
  | cons x l ih => exact ih (sorted_put hb _ _)
theorem len_putAll (b : List (Dt × α)) (l : List (Dt × α)) : (putAll b l).length ≤ b.length + l.length := by
  induction l generalizing b with
  | nil => exact Nat.le_refl _
  | cons x l ih =>
    have h1 := ih (putD b x.1 x.2)
    have h2 := len_put_le b x.1 x.2
    show (putAll (putD b x.1 x.2) l).length ≤ _
    rw [List.length_cons]; omega
theorem sorted_nil : sortedD ([] : List (Dt × α)) := List.Pairwise.nil
end
end Go.Proofs.Ytkhcjedlopiicaa
