/-
  Bags, plain: drops by two vectors; what was put last.
-/
import Derived.Test.YtkhcjedlopiicaaBagDrop3I
import Derived.Test.YtkhcjedlopiicaaBagPlain2
set_option linter.unusedSimpArgs false
set_option linter.unusedVariables false
set_option maxRecDepth 20000
namespace Go.Proofs.Ytkhcjedlopiicaa
open Go.Free Go.RowKit Go.Proofs
def joinV (v w : Nat → Int) : Nat → Int := fun i => max (v i) (w i)
theorem has_join (v w : Nat → Int) (r n : Int) : hasP (joinV v w) r n ↔ hasP v r n ∨ hasP w r n := by
  unfold hasP joinV
  constructor
  · rintro ⟨h1, h2⟩
    rcases Int.le_total (v r.toNat) (w r.toNat) with h | h
    · rw [Int.max_eq_right h] at h2; exact .inr ⟨h1, h2⟩
    · rw [Int.max_eq_left h] at h2; exact .inl ⟨h1, h2⟩
  · rintro (⟨h1, h2⟩ | ⟨h1, h2⟩)
    · exact ⟨h1, by omega⟩
    · exact ⟨h1, by omega⟩
theorem goes_join (v w : Nat → Int) (x : Dt × Int) : goesI (joinV v w) (fun _ => true) x = (goesI v (fun _ => true) x || goesI w (fun _ => true) x) := by
  unfold goesI
  rw [Bool.and_true, Bool.and_true, Bool.and_true, Bool.eq_iff_iff, Bool.or_eq_true, decide_eq_true_eq, decide_eq_true_eq, decide_eq_true_eq, has_join]
theorem keep_join (v w : Nat → Int) (l : List (Dt × Int)) : keepI (joinV v w) (fun _ => true) l = keepI w (fun _ => true) (keepI v (fun _ => true) l) := by
  unfold keepI
  rw [List.filter_filter]
  refine List.filter_congr fun x _ => ?_
  rw [goes_join]
  cases goesI v (fun _ => true) x <;> cases goesI w (fun _ => true) x <;> rfl
theorem keep_keep (v : Nat → Int) (p : Int → Bool) (l : List (Dt × Int)) : keepI v p (keepI v p l) = keepI v p l := by
  unfold keepI; rw [List.filter_filter]; simp
theorem sorted_keep {v : Nat → Int} {p : Int → Bool} {l : List (Dt × Int)} (h : sortedD l) : sortedD (keepI v p l) := h.filter _
end Go.Proofs.Ytkhcjedlopiicaa
