/-
  Bits turned in whatever order, and turned twice.
-/
import Derived.Test.YtdfdhhepbkejpaaDiskCrash
namespace Go.Proofs.Ytdfdhhepbkejpaa
open Go.Free Go.RowKit Go.Proofs

theorem flip_comm (l : List UInt8) (a b : Nat) : flipAt (flipAt l a) b = flipAt (flipAt l b) a := by
  unfold flipAt
  apply List.ext_getElem?
  intro i
  simp only [List.getElem?_set, List.length_set, List.getD_eq_getElem?_getD]
  by_cases hab : a / 8 = b / 8
  · rw [hab]
    by_cases hi : b / 8 = i
    · subst hi
      simp only [if_true]
      by_cases hl : b / 8 < l.length
      · simp [hl, UInt8.xor_assoc, UInt8.xor_comm (bitAt a) (bitAt b)]
      · simp [hl]
    · simp [hi]
  · by_cases hi : b / 8 = i
    · subst hi
      have h1 : ¬ a / 8 = b / 8 := hab
      have h2 : ¬ b / 8 = a / 8 := fun h => hab h.symm
      simp [h1, h2]
    · by_cases hj : a / 8 = i
      · subst hj
        have h2 : ¬ b / 8 = a / 8 := fun h => hab h.symm
        simp [h2]
      · simp [hi, hj]
def turnIf (l : List UInt8) (p m i : Nat) : List UInt8 := if m / 2 ^ (15 - i) % 2 = 1 then flipAt l (p + i) else l
theorem turn_comm (l : List UInt8) (p m i q n j : Nat) : turnIf (turnIf l p m i) q n j = turnIf (turnIf l q n j) p m i := by
  unfold turnIf; split <;> split <;> first | rfl | exact flip_comm _ _ _
theorem flips_succ (l : List UInt8) (p m i : Nat) : flips l p m (i + 1) = turnIf (flips l p m i) p m i := rfl
theorem flips_turn (l : List UInt8) (p m j : Nat) : ∀ i, flips (turnIf l p m j) p m i = turnIf (flips l p m i) p m j
  | 0 => rfl
  | i + 1 => by rw [flips_succ, flips_succ, flips_turn l p m j i, turn_comm]
/-- The highest place first. -/
def flipsR (l : List UInt8) (p m : Nat) : Nat → List UInt8
  | 0 => l
  | j + 1 => turnIf (flipsR l p m j) p m (15 - j)
theorem flipsR_eq (l : List UInt8) (p m : Nat) : flipsR l p m 16 = flips l p m 16 := by
  have key : ∀ j, j ≤ 16 → flips (flipsR l p m j) p m (16 - j) = flips l p m 16 := by
    intro j
    induction j with
    | zero => intro _; rfl
    | succ j ih =>
      intro hj
      rw [← ih (by omega), show 16 - j = (16 - (j + 1)) + 1 by omega, flips_succ]
      simp only [flipsR]
      rw [flips_turn, show 16 - (j + 1) = 15 - j by omega]
  exact key 16 (Nat.le_refl _)
theorem flipsR_length (l : List UInt8) (p m : Nat) : ∀ i, (flipsR l p m i).length = l.length
  | 0 => rfl
  | i + 1 => by simp only [flipsR, turnIf]; split <;> simp [flip_length, flipsR_length l p m i]

theorem flip_twice (l : List UInt8) (a : Nat) : flipAt (flipAt l a) a = l := by
  unfold flipAt
  by_cases h : a / 8 < l.length
  · rw [List.set_set]
    have e : (l.set (a / 8) (l.getD (a / 8) 0 ^^^ bitAt a)).getD (a / 8) 0 = l.getD (a / 8) 0 ^^^ bitAt a := by simp [List.getD_eq_getElem?_getD, h]
    rw [e, UInt8.xor_assoc, UInt8.xor_self, UInt8.xor_zero, List.getD_eq_getElem?_getD, List.getElem?_eq_getElem h]
    simp
  · rw [List.set_eq_of_length_le (by simp; omega), List.set_eq_of_length_le (by omega)]
theorem turn_twice (l : List UInt8) (p m i : Nat) : turnIf (turnIf l p m i) p m i = l := by
  unfold turnIf; split
  · exact flip_twice _ _
  · rfl
theorem flips_twice (l : List UInt8) (p m : Nat) : ∀ i, flips (flips l p m i) p m i = l
  | 0 => rfl
  | i + 1 => by
    rw [flips_succ, flips_succ, flips_turn, turn_twice, flips_twice l p m i]
theorem flips_none (l : List UInt8) (p : Nat) : ∀ i, flips l p 0 i = l
  | 0 => rfl
  | i + 1 => by
    have := flips_none l p i
    simp [flips, this]
end Go.Proofs.Ytdfdhhepbkejpaa
