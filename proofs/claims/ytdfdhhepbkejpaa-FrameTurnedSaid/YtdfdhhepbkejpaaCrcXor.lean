/-
  The check is linear: the plain law.
-/
import Derived.Test.YtdfdhhepbkejpaaCrcPlain
namespace Go.Proofs.Ytdfdhhepbkejpaa
open Go.Free Go.RowKit Go.Proofs

/-! ### The plain law -/
theorem shr15 (n : BitVec 16) : n >>> 15 = 0#16 ∨ n >>> 15 = 1#16 := by
  have := n.isLt
  have h : (n >>> 15).toNat = n.toNat / 2 ^ 15 := by rw [BitVec.toNat_ushiftRight, Nat.shiftRight_eq_div_pow]
  rcases Nat.lt_or_ge n.toNat (2 ^ 15) with h1 | h1
  · exact .inl (BitVec.eq_of_toNat_eq (by rw [h]; simp; omega))
  · exact .inr (BitVec.eq_of_toNat_eq (by rw [h]; simp; omega))
theorem xlc (a b c : BitVec 16) : a ^^^ (b ^^^ c) = b ^^^ (a ^^^ c) := by rw [← BitVec.xor_assoc, BitVec.xor_comm a b, BitVec.xor_assoc]
theorem step_xor (a b : BitVec 16) : crcStep (a ^^^ b) = crcStep a ^^^ crcStep b := by
  have h : (a ^^^ b) >>> 15 = (a >>> 15) ^^^ (b >>> 15) := by
    apply BitVec.eq_of_getElem_eq; intro i hi; simp
  have h2 : (a ^^^ b) <<< 1 = (a <<< 1) ^^^ (b <<< 1) := by
    apply BitVec.eq_of_getElem_eq; intro i hi; simp
    by_cases hh : i = 0 <;> simp [hh]
  have h3 : 0x1021#16 * ((a >>> 15) ^^^ (b >>> 15)) = (0x1021#16 * (a >>> 15)) ^^^ (0x1021#16 * (b >>> 15)) := by
    rcases shr15 a with h1 | h1 <;> rcases shr15 b with h2 | h2 <;> rw [h1, h2] <;> rfl
  simp only [crcStep, h, h2, h3]
  simp only [BitVec.xor_assoc]
  rw [xlc (b <<< 1)]
theorem steps_xor (k : Nat) (a b : BitVec 16) : crcSteps k (a ^^^ b) = crcSteps k a ^^^ crcSteps k b := by
  induction k with
  | zero => rfl
  | succ k ih => simp only [crcSteps, ih, step_xor]
theorem lift_xor (c d : UInt8) : lift16 (c ^^^ d) <<< 8 = (lift16 c <<< 8) ^^^ (lift16 d <<< 8) := by
  apply BitVec.eq_of_getElem_eq; intro i hi
  simp [lift16]
  by_cases hh : i < 8 <;> simp [hh]
theorem byte_xor (m n : BitVec 16) (c d : UInt8) : crcByte (m ^^^ n) (c ^^^ d) = crcByte m c ^^^ crcByte n d := by
  simp only [crcByte, lift_xor, ← steps_xor]
  congr 1
  simp only [BitVec.xor_assoc]
  rw [xlc n]
theorem from_xor : ∀ (a b : List UInt8) (m n : BitVec 16), a.length = b.length → crcFrom (m ^^^ n) (List.zipWith (· ^^^ ·) a b) = crcFrom m a ^^^ crcFrom n b
  | [], [], m, n, _ => rfl
  | [], _ :: _, _, _, h => by simp at h
  | _ :: _, [], _, _, h => by simp at h
  | x :: a, y :: b, m, n, h => by
    simp only [List.zipWith_cons_cons, crcFrom, List.foldl_cons, byte_xor]
    exact from_xor a b _ _ (by simpa using h)
theorem zip_zero : ∀ (a : List UInt8), List.zipWith (· ^^^ ·) a (List.replicate a.length (0 : UInt8)) = a
  | [] => rfl
  | x :: a => by simp [List.replicate_succ, zip_zero a]
theorem crc_linear (a b : List UInt8) (h : a.length = b.length) : crcOf (List.zipWith (· ^^^ ·) a b) = crcOf a ^^^ crcOf b ^^^ crcOf (List.replicate a.length 0) := by
  have hl : (List.zipWith (· ^^^ ·) a b).length = a.length := by simp [h]
  have h1 := from_xor (List.zipWith (· ^^^ ·) a b) (List.replicate a.length 0) (0xffff#16 ^^^ 0xffff#16) 0xffff#16 (by simp [h])
  rw [from_xor a b _ _ h] at h1
  rw [← hl, zip_zero, hl] at h1
  exact h1

theorem u8_xor (a b : UInt8) : IntKind.u8.wrap ((BitVec.ofInt IntKind.u8.bits (a.toNat : Int) ^^^ BitVec.ofInt IntKind.u8.bits (b.toNat : Int)).toNat : Int) = (a ^^^ b).toNat := by
  have ha := a.toNat_lt
  have hb := b.toNat_lt
  have h : (BitVec.ofInt IntKind.u8.bits (a.toNat : Int) ^^^ BitVec.ofInt IntKind.u8.bits (b.toNat : Int)).toNat = a.toNat ^^^ b.toNat := by
    show (BitVec.ofInt 8 (a.toNat : Int) ^^^ BitVec.ofInt 8 (b.toNat : Int)).toNat = _
    rw [BitVec.toNat_xor, ofInt_u8 _ ha, ofInt_u8 _ hb]
  rw [h, UInt8.toNat_xor]
  have : a.toNat ^^^ b.toNat < 2 ^ 8 := Nat.xor_lt_two_pow ha hb
  rw [IntKind.wrap_u8]; omega
end Go.Proofs.Ytdfdhhepbkejpaa
