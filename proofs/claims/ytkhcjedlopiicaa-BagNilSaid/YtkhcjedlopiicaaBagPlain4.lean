/-
  Bags, plain: what was put last; put from the last one on.
-/
import Derived.Test.YtkhcjedlopiicaaBagPlain2
set_option linter.unusedSimpArgs false
set_option linter.unusedVariables false
set_option maxRecDepth 20000
namespace Go.Proofs.Ytkhcjedlopiicaa
open Go.Free Go.RowKit Go.Proofs
section
variable {α : Type}
theorem here_putAll {b : List (Dt × α)} (hb : sortedD b) (m : List (Dt × α)) (d : Dt) : hereD (putAll b m) d = true ↔ hereD b d = true ∨ ∃ x ∈ m, x.1 = d := by
  induction m generalizing b with
  | nil => simp [putAll]
  | cons y m ih =>
    show hereD (putAll (putD b y.1 y.2) m) d = true ↔ _
    rw [ih (sorted_put hb y.1 y.2), here_put hb, Bool.or_eq_true, decide_eq_true_eq]
    constructor
    · rintro ((h | h) | ⟨x, hx, he⟩)
      · exact .inr ⟨y, List.mem_cons_self, h.symm⟩
      · exact .inl h
      · exact .inr ⟨x, List.mem_cons_of_mem _ hx, he⟩
    · rintro (h | ⟨x, hx, he⟩)
      · exact .inl (.inr h)
      · rcases List.mem_cons.1 hx with rfl | hx
        · exact .inl (.inl he.symm)
        · exact .inr ⟨x, hx, he⟩
theorem last_putAll {b : List (Dt × α)} (hb : sortedD b) (m : List (Dt × α)) {d : Dt} {x : α} (h : (d, x) ∈ putAll b m) : ((d, x) ∈ b ∧ ∀ y ∈ m, y.1 ≠ d) ∨ ∃ k : Nat, m[k]? = some (d, x) ∧ ∀ (j : Nat) y, k < j → m[j]? = some y → y.1 ≠ d := by
  induction m generalizing b with
  | nil => exact .inl ⟨h, by simp⟩
  | cons y m ih =>
    rcases ih (sorted_put hb y.1 y.2) h with ⟨h1, h2⟩ | ⟨k, h1, h2⟩
    · rcases (mem_put hb y.1 y.2 d x).1 h1 with ⟨rfl, rfl⟩ | ⟨h3, h4⟩
      · refine .inr ⟨0, rfl, fun j z hj hz => ?_⟩
        obtain ⟨j, rfl⟩ : ∃ i, j = i + 1 := ⟨j - 1, by omega⟩
        exact h2 z (List.mem_of_getElem? (by simpa using hz))
      · exact .inl ⟨h4, fun z hz => by
          rcases List.mem_cons.1 hz with rfl | hz
          · exact Ne.symm h3
          · exact h2 z hz⟩
    · refine .inr ⟨k + 1, by simpa using h1, fun j z hj hz => ?_⟩
      obtain ⟨j, rfl⟩ : ∃ i, j = i + 1 := ⟨j - 1, by omega⟩
      exact h2 j z (by omega) (by simpa using hz)
theorem mem_putAll' {b l : List (Dt × α)} (hb : sortedD b) {e : Dt} {y : α} (h : (e, y) ∈ putAll b l) : (e, y) ∈ b ∨ (e, y) ∈ l := by
  induction l generalizing b with
  | nil => exact .inl h
  | cons x l ih =>
    rcases ih (sorted_put hb x.1 x.2) h with h1 | h1
    · rcases (mem_put hb x.1 x.2 e y).1 h1 with ⟨rfl, rfl⟩ | h2
      · exact .inr List.mem_cons_self
      · exact .inl h2.2
    · exact .inr (List.mem_cons_of_mem _ h1)
theorem putAll_rev {L : List (Dt × α)} (h : sortedD L) : putAll [] L.reverse = L := by
  refine sorted_ext (sorted_putAll sorted_nil _) h fun d x => ⟨fun hm => ?_, fun hm => ?_⟩
  · rcases mem_putAll' sorted_nil hm with h1 | h1
    · cases h1
    · exact List.mem_reverse.1 h1
  · obtain ⟨y, hy⟩ := (here_mem (sorted_putAll sorted_nil L.reverse)).1 ((here_putAll sorted_nil L.reverse d).2 (.inr ⟨(d, x), List.mem_reverse.2 hm, rfl⟩))
    have : (d, y) ∈ L := by
      rcases mem_putAll' sorted_nil hy with h1 | h1
      · cases h1
      · exact List.mem_reverse.1 h1
    rw [sorted_one h hm this]; exact hy
theorem flat_at {enc : Dt × α → List Value} {sz : Nat} (h : ∀ x, (enc x).length = sz) (L : List (Dt × α)) {i : Nat} (hi : i < L.length) (R : List Value) : (L.flatMap enc ++ R).drop (i * sz) = enc L[i] ++ ((L.drop (i + 1)).flatMap enc ++ R) := by
  rw [flat_split L i, List.append_assoc, List.drop_left' (by rw [flat_len h, List.length_take, Nat.min_eq_left (by omega)]), ← List.getElem_cons_drop (h := hi), List.flatMap_cons, List.append_assoc]
end
end Go.Proofs.Ytkhcjedlopiicaa
