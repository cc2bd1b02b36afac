/-
  Bags: first places, plain.
-/
import Derived.Test.YtkhcjedlopiicaaBagBase
set_option linter.unusedSimpArgs false
set_option linter.unusedVariables false
set_option maxRecDepth 20000
namespace Go.Free
open Go.RowKit
theorem Nrm.ret0n {P : Program} {n : Nat} {I : World → Prop} {E : Env} {fn : Func} {R : Nat → Fa} {w0 : World} {e : Exit} (hr : fn.results = #[]) (hI : ∀ w, I w → Below w0.heap.size w0 w)
    (hs : ∀ B, R B = Fa.any) (hx : e = .normal ∨ e = .ret) : Nrm n I (FnPost P fn R w0 e) E := fun a w h1 h2 _ => by
  have hres : (results fn a.tmps).run P w = .ok (.tuple #[]) w := by simp [results, hr]
  have : FnPost P fn R w0 .ret a w := ⟨h2.defers, _, hres, hI w h1, fun B _ => by rw [hs]; exact any_den _ _⟩
  rcases hx with rfl | rfl <;> exact this
end Go.Free
namespace Go.Proofs.Ytkhcjedlopiicaa
open Go.Free Go.RowKit Go.Proofs
/-- The first one's number, or -1. -/
def idxD {α : Type} (p : α → Bool) (l : List α) : Int := match l.findIdx? p with | some k => (k : Int) | none => -1
theorem idx_found {α : Type} {p : α → Bool} {l : List α} {k : Nat} {x : α} (h : ∀ j y, l[j]? = some y → j < k → p y = false) (hx : l[k]? = some x) (hp : p x = true) : idxD p l = k := by
  obtain ⟨hk, rfl⟩ := List.getElem?_eq_some_iff.1 hx
  have : l.findIdx? p = some k := List.findIdx?_eq_some_iff_getElem.2 ⟨hk, hp, fun j hj => by rw [h j _ (List.getElem?_eq_getElem (by omega)) hj]; decide⟩
  unfold idxD; rw [this]
theorem idx_none {α : Type} {p : α → Bool} {l : List α} (h : ∀ (j : Nat) y, l[j]? = some y → p y = false) : idxD p l = -1 := by
  have : l.findIdx? p = none := List.findIdx?_eq_none_iff.2 fun x hx => by
    obtain ⟨j, hj, rfl⟩ := List.getElem_of_mem hx
    exact h j _ (List.getElem?_eq_getElem hj)
  unfold idxD; rw [this]
theorem idx_no {α : Type} {p : α → Bool} {l : List α} (h : idxD p l = -1) : ∀ x ∈ l, p x = false := by
  unfold idxD at h
  cases hf : l.findIdx? p with
  | none => exact List.findIdx?_eq_none_iff.1 hf
  | some k => rw [hf] at h; simp only at h; omega
theorem idx_some {α : Type} {p : α → Bool} {l : List α} (h : ¬ idxD p l = -1) : ∃ (k : Nat) (hk : k < l.length), idxD p l = k ∧ p l[k] = true ∧ ∀ j y, l[j]? = some y → j < k → p y = false := by
  unfold idxD at h ⊢
  cases hf : l.findIdx? p with
  | none => rw [hf] at h; exact absurd rfl h
  | some k =>
    obtain ⟨hk, h1, h2⟩ := List.findIdx?_eq_some_iff_getElem.1 hf
    exact ⟨k, hk, rfl, h1, fun j y hj hjk => by
      have := h2 j hjk
      obtain ⟨hj1, rfl⟩ := List.getElem?_eq_some_iff.1 hj
      simpa using this⟩
end Go.Proofs.Ytkhcjedlopiicaa
