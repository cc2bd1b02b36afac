/-
  Bits within 16 side by side that are turned turn the check: the plain law.
-/
import Derived.Test.YtdfdhhepbkejpaaCrcXor
import Derived.Test.YtdfdhhepbkejpaaCrcRef
import Derived.Test.YtdfdhhepbkejpaaCrcRef2
namespace Go.Proofs.Ytdfdhhepbkejpaa
open Go.Free Go.RowKit Go.Proofs

theorem step_zero {n : BitVec 16} (h : crcStep n = 0#16) : n = 0#16 := by
  have hn := n.isLt
  rcases Nat.lt_or_ge (n.toNat * 2) 65536 with h1 | h1
  · have e := step_lo n (by omega)
    rw [h] at e
    apply BitVec.eq_of_toNat_eq
    have : (0#16).toNat = 0 := rfl
    omega
  · have e := step_hi n (by omega)
    rw [h] at e
    have h0 : (0#16).toNat = 0 := rfl
    rw [h0] at e
    have e2 : n.toNat * 2 - 65536 = 4129 := by
      have h3 : (n.toNat * 2 - 65536) ^^^ 4129 ^^^ 4129 = 0 ^^^ 4129 := by rw [← e]
      rw [Nat.xor_assoc, Nat.xor_self, Nat.xor_zero, Nat.zero_xor] at h3
      exact h3
    omega
theorem steps_zero : ∀ (k : Nat) {n : BitVec 16}, crcSteps k n = 0#16 → n = 0#16
  | 0, _, h => h
  | k + 1, _, h => steps_zero k (step_zero h)
theorem steps_add (j k : Nat) (n : BitVec 16) : crcSteps (j + k) n = crcSteps j (crcSteps k n) := by
  induction j with
  | zero => rw [Nat.zero_add]; rfl
  | succ j ih => rw [show j + 1 + k = (j + k) + 1 by omega]; simp only [crcSteps, ih]
theorem steps_of_zero (k : Nat) : crcSteps k 0#16 = 0#16 := by
  induction k with
  | zero => rfl
  | succ k ih => simp only [crcSteps, ih]; rfl
theorem steps_shift : ∀ (j : Nat) (x : BitVec 16), x.toNat * 2 ^ j < 65536 → (crcSteps j x).toNat = x.toNat * 2 ^ j
  | 0, x, _ => by simp [crcSteps]
  | j + 1, x, h => by
    rw [Nat.pow_succ, ← Nat.mul_assoc] at h
    have ih := steps_shift j x (by omega)
    simp only [crcSteps]
    rw [step_lo _ (by rw [ih]; omega), ih, Nat.pow_succ, Nat.mul_assoc]
theorem from_append (m : BitVec 16) (a b : List UInt8) : crcFrom m (a ++ b) = crcFrom (crcFrom m a) b := by simp [crcFrom]
theorem from_zeros (n : BitVec 16) : ∀ q, crcFrom n (List.replicate q 0) = crcSteps (8 * q) n
  | 0 => rfl
  | q + 1 => by
    rw [List.replicate_succ', from_append, from_zeros n q]
    show crcByte (crcSteps (8 * q) n) 0 = _
    have h0 : lift16 0 <<< 8 = 0#16 := by decide
    simp only [crcByte, h0, BitVec.xor_zero]
    rw [← steps_add]; congr 1; omega
/-- The bit at a place, in its byte. -/
def bitAt (pos : Nat) : UInt8 := UInt8.ofNat (2 ^ (7 - pos % 8))
def flipAt (l : List UInt8) (pos : Nat) : List UInt8 := l.set (pos / 8) (l.getD (pos / 8) 0 ^^^ bitAt pos)
theorem flip_length (l : List UInt8) (pos : Nat) : (flipAt l pos).length = l.length := by simp [flipAt]
theorem one_steps (j : Nat) (h : j < 16) : (crcSteps j 1#16).toNat = 2 ^ j := by
  have h1 : (1#16).toNat = 1 := rfl
  have h2 : 2 ^ j ≤ 2 ^ 15 := Nat.pow_le_pow_right (by decide) (by omega)
  rw [steps_shift j _ (by rw [h1]; omega), h1, Nat.one_mul]
theorem bit_byte (pos : Nat) : lift16 (bitAt pos) <<< 8 = crcSteps (15 - pos % 8) 1#16 := by
  apply BitVec.eq_of_toNat_eq
  rw [one_steps _ (by omega)]
  have h : 2 ^ (7 - pos % 8) ≤ 2 ^ 7 := Nat.pow_le_pow_right (by decide) (by omega)
  have hb : (bitAt pos).toNat = 2 ^ (7 - pos % 8) := by unfold bitAt; rw [UInt8.toNat_ofNat']; exact Nat.mod_eq_of_lt (by omega)
  simp only [lift16, BitVec.toNat_shiftLeft, BitVec.toNat_setWidth, UInt8.toNat_toBitVec, hb, Nat.shiftLeft_eq]
  rw [show 15 - pos % 8 = (7 - pos % 8) + 8 by omega, Nat.pow_add]
  omega
theorem set_split {l : List UInt8} {j : Nat} (h : j < l.length) (c : UInt8) : l.set j c = l.take j ++ c :: l.drop (j + 1) := List.set_eq_take_append_cons_drop .. |>.trans (by simp [h])
/-- What one turned bit does to the check. -/
theorem from_flip (m : BitVec 16) (l : List UInt8) (pos : Nat) (h : pos < 8 * l.length) : crcFrom m (flipAt l pos) = crcFrom m l ^^^ crcSteps (8 * l.length + 15 - pos) 1#16 := by
  have hj : pos / 8 < l.length := by omega
  obtain ⟨j, hjd⟩ : ∃ j, j = pos / 8 := ⟨_, rfl⟩
  rw [← hjd] at hj
  have hl : l = l.take j ++ l.getD j 0 :: l.drop (j + 1) := by
    have := List.take_append_drop j l
    rw [List.drop_eq_getElem_cons hj] at this
    simp [List.getD_eq_getElem?_getD, List.getElem?_eq_getElem hj]
  obtain ⟨r, hr⟩ : ∃ r, r = l.drop (j + 1) := ⟨_, rfl⟩
  have hrl : r.length = l.length - (j + 1) := by rw [hr, List.length_drop]
  have e1 : crcFrom m (flipAt l pos) = crcFrom (crcByte (crcFrom m (l.take j)) (l.getD j 0 ^^^ bitAt pos)) r := by
    unfold flipAt; rw [← hjd, set_split hj, from_append, ← hr]; rfl
  have e2 : crcFrom m l = crcFrom (crcByte (crcFrom m (l.take j)) (l.getD j 0)) r := by
    conv => lhs; rw [hl]
    rw [from_append, ← hr]; rfl
  have e3 : crcByte (crcFrom m (l.take j)) (l.getD j 0 ^^^ bitAt pos) = crcByte (crcFrom m (l.take j)) (l.getD j 0) ^^^ crcSteps (23 - pos % 8) 1#16 := by
    have := byte_xor (crcFrom m (l.take j)) 0#16 (l.getD j 0) (bitAt pos)
    rw [BitVec.xor_zero] at this
    rw [this]
    congr 1
    simp only [crcByte, BitVec.zero_xor, bit_byte]
    rw [← steps_add]; congr 1; omega
  have e4 := from_xor r (List.replicate r.length 0) (crcByte (crcFrom m (l.take j)) (l.getD j 0)) (crcSteps (23 - pos % 8) 1#16) (by simp)
  rw [zip_zero, from_zeros, ← steps_add] at e4
  rw [e1, e2, e3, e4]
  congr 2
  omega
/-- The highest i bits of a number. -/
def topBits (t : BitVec 16) : Nat → BitVec 16
  | 0 => 0#16
  | i + 1 => if t.getLsbD (15 - i) then topBits t i ^^^ crcSteps (15 - i) 1#16 else topBits t i
theorem steps_one (j : Nat) (h : j < 16) : crcSteps j 1#16 = BitVec.twoPow 16 j := by
  apply BitVec.eq_of_toNat_eq
  rw [one_steps j h, BitVec.toNat_twoPow]
  have h2 : 2 ^ j ≤ 2 ^ 15 := Nat.pow_le_pow_right (by decide) (by omega)
  exact (Nat.mod_eq_of_lt (by omega)).symm
theorem top_bit (t : BitVec 16) : ∀ i, i ≤ 16 → ∀ b, (topBits t i).getLsbD b = (decide (16 - i ≤ b) && t.getLsbD b)
  | 0, _, b => by
    simp only [topBits, BitVec.getLsbD_zero, Nat.sub_zero]
    by_cases hb : 16 ≤ b
    · rw [BitVec.getLsbD_of_ge _ _ hb]; simp
    · simp [hb]
  | i + 1, hi, b => by
    have ih := top_bit t i (by omega) b
    unfold topBits
    by_cases ht : t.getLsbD (15 - i) = true
    · rw [if_pos ht, BitVec.getLsbD_xor, ih, steps_one _ (by omega), BitVec.getLsbD_twoPow]
      by_cases hb : b = 15 - i
      · subst hb
        have h1 : ¬ (16 - i ≤ 15 - i) := by omega
        have h3 : 15 - i < 16 := by omega
        simp [h1, h3, ht]
      · have h1 : (16 - (i + 1) ≤ b) ↔ (16 - i ≤ b) := by omega
        have h2 : ¬ (15 - i = b) := fun h => hb h.symm
        have hd : decide (16 - (i + 1) ≤ b) = decide (16 - i ≤ b) := decide_eq_decide.2 h1
        rw [hd]
        simp [h2]
    · rw [if_neg ht, ih]
      by_cases hb : b = 15 - i
      · subst hb
        have hf : t.getLsbD (15 - i) = false := by simpa using ht
        simp [hf]
      · have h1 : (16 - (i + 1) ≤ b) ↔ (16 - i ≤ b) := by omega
        have hd : decide (16 - (i + 1) ≤ b) = decide (16 - i ≤ b) := decide_eq_decide.2 h1
        rw [hd]
theorem top_all (t : BitVec 16) : topBits t 16 = t := by
  apply BitVec.eq_of_getLsbD_eq
  intro b _
  rw [top_bit t 16 (Nat.le_refl _)]
  simp
/-- Sealed bytes are opened just where the check of them all is nought. -/
theorem join_xor (a b : UInt8) : join16 a b = (lift16 a <<< 8) ^^^ lift16 b := by
  unfold join16
  apply BitVec.eq_of_getElem_eq; intro i hi
  simp only [lift16, BitVec.getElem_or, BitVec.getElem_xor, BitVec.getElem_shiftLeft, BitVec.getElem_setWidth]
  by_cases h : i < 8
  · simp [h]
  · have : b.toBitVec.getLsbD i = false := BitVec.getLsbD_of_ge _ _ (by omega)
    simp [h, this]
theorem lift_steps (b : UInt8) : lift16 b <<< 8 = crcSteps 8 (lift16 b) := by
  have hb := b.toNat_lt
  have e : (lift16 b).toNat = b.toNat := by
    simp only [lift16, BitVec.toNat_setWidth, UInt8.toNat_toBitVec]; omega
  apply BitVec.eq_of_toNat_eq
  rw [steps_shift 8 _ (by rw [e]; omega), BitVec.toNat_shiftLeft, Nat.shiftLeft_eq, e]
  omega
theorem two_bytes (m : BitVec 16) (a b : UInt8) : crcByte (crcByte m a) b = crcSteps 16 (m ^^^ join16 a b) := by
  simp only [crcByte]
  rw [lift_steps b, ← steps_xor, ← steps_add, join_xor, BitVec.xor_assoc]
theorem fits_zero (l : List UInt8) (h : 2 ≤ l.length) : (crcOpen l).isSome = true ↔ crcOf l = 0#16 := by
  obtain ⟨a, ha⟩ : ∃ a, a = l.getD (l.length - 2) 0 := ⟨_, rfl⟩
  obtain ⟨b, hb⟩ : ∃ b, b = l.getD (l.length - 1) 0 := ⟨_, rfl⟩
  have hsplit : l = l.take (l.length - 2) ++ [a, b] := by
    have h1 : l.drop (l.length - 2) = [a, b] := by
      rw [ha, hb, List.drop_eq_getElem_cons (by omega), List.drop_eq_getElem_cons (by omega), List.drop_of_length_le (by omega)]
      simp only [List.getD_eq_getElem?_getD]
      rw [List.getElem?_eq_getElem (by omega), List.getElem?_eq_getElem (by omega)]
      simp only [Option.getD_some, List.cons.injEq, and_true, true_and]
      congr 1; omega
    have := List.take_append_drop (l.length - 2) l
    rw [h1] at this; exact this.symm
  have hc : crcOf l = crcSteps 16 (crcOf (l.take (l.length - 2)) ^^^ join16 a b) := by
    rw [← two_bytes]
    conv => lhs; rw [hsplit]
    unfold crcOf
    rw [from_append]; rfl
  unfold crcOpen
  rw [← ha, ← hb, hc]
  constructor
  · intro hs
    split at hs
    · rename_i g
      rw [g.2, BitVec.xor_self, steps_of_zero]
    · cases hs
  · intro hz
    have hx := steps_zero 16 hz
    have he : crcOf (l.take (l.length - 2)) = join16 a b := by
      have h2 : crcOf (l.take (l.length - 2)) ^^^ join16 a b ^^^ join16 a b = 0#16 ^^^ join16 a b := by rw [hx]
      rw [BitVec.xor_assoc, BitVec.xor_self, BitVec.xor_zero, BitVec.zero_xor] at h2
      exact h2
    rw [if_pos ⟨h, he⟩]; rfl
end Go.Proofs.Ytdfdhhepbkejpaa
