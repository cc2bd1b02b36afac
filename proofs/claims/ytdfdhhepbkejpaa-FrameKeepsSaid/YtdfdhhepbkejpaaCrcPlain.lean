/-
  The check of sixteen bits on bit vectors, and the numbers as the model has them.
-/
import Derived.Test.YtdfdhhepbkejpaaFreeSeat
set_option linter.unusedSimpArgs false
set_option linter.unusedVariables false
namespace Go.Proofs.Ytdfdhhepbkejpaa
open Go.Free Go.RowKit Go.Proofs

/-! ### The check, on bit vectors -/
def crcStep (n : BitVec 16) : BitVec 16 := (n <<< 1) ^^^ (0x1021#16 * (n >>> 15))
def crcSteps : Nat → BitVec 16 → BitVec 16
  | 0, n => n
  | k + 1, n => crcStep (crcSteps k n)
def lift16 (c : UInt8) : BitVec 16 := c.toBitVec.setWidth 16
def crcByte (n : BitVec 16) (c : UInt8) : BitVec 16 := crcSteps 8 (n ^^^ (lift16 c <<< 8))
def crcFrom (n : BitVec 16) (l : List UInt8) : BitVec 16 := l.foldl crcByte n
def crcOf (l : List UInt8) : BitVec 16 := crcFrom 0xffff#16 l
theorem crcOf_take_succ (l : List UInt8) (j : Nat) (h : j < l.length) : crcOf (l.take (j + 1)) = crcByte (crcOf (l.take j)) (l.getD j 0) := by
  rw [List.take_succ_eq_append_getElem h]
  simp only [crcOf, crcFrom, List.foldl_append, List.foldl_cons, List.foldl_nil, List.getD_eq_getElem?_getD, List.getElem?_eq_getElem h, Option.getD_some]
def hi8 (n : BitVec 16) : UInt8 := ⟨(n >>> 8).setWidth 8⟩
def lo8 (n : BitVec 16) : UInt8 := ⟨n.setWidth 8⟩
def crcSeal (l : List UInt8) : List UInt8 := l ++ [hi8 (crcOf l), lo8 (crcOf l)]
def join16 (a b : UInt8) : BitVec 16 := (lift16 a <<< 8) ||| lift16 b
def crcOpen (l : List UInt8) : Option (List UInt8) :=
  if 2 ≤ l.length ∧ crcOf (l.take (l.length - 2)) = join16 (l.getD (l.length - 2) 0) (l.getD (l.length - 1) 0) then some (l.take (l.length - 2)) else none

/-! ### Numbers of sixteen bits as the model has them -/
theorem w16 (x : BitVec 16) : IntKind.u16.wrap (x.toNat : Int) = x.toNat := by have := x.isLt; rw [IntKind.wrap_u16]; omega
theorem b16 (x : BitVec 16) : BitVec.ofInt IntKind.u16.bits (x.toNat : Int) = x := by
  show BitVec.ofInt 16 (x.toNat : Int) = x
  rw [BitVec.ofInt_natCast, BitVec.ofNat_toNat, BitVec.setWidth_eq]
theorem u16_lift (c : UInt8) : IntKind.u16.wrap (c.toNat : Int) = (lift16 c).toNat := by
  have := c.toNat_lt
  rw [IntKind.wrap_u16]
  simp only [lift16, BitVec.toNat_setWidth, UInt8.toNat_toBitVec]
  omega
theorem u16_shl (x : BitVec 16) (k : Nat) : IntKind.u16.wrap ((x.toNat : Int) * 2 ^ k) = (x <<< k).toNat := by
  rw [IntKind.wrap_u16, BitVec.toNat_shiftLeft, Nat.shiftLeft_eq]
  rw [Int.natCast_emod, Int.natCast_mul, Int.natCast_pow]
  rfl
theorem u16_shr (x : BitVec 16) (k : Nat) : (x.toNat : Int).fdiv (2 ^ k) = (x >>> k).toNat := by
  rw [BitVec.toNat_ushiftRight, Nat.shiftRight_eq_div_pow, Int.fdiv_eq_ediv_of_nonneg _ (by exact Int.le_of_lt (Int.pow_pos (by decide)))]
  simp
theorem u16_xor (a b : BitVec 16) : IntKind.u16.wrap ((BitVec.ofInt IntKind.u16.bits (a.toNat : Int) ^^^ BitVec.ofInt IntKind.u16.bits (b.toNat : Int)).toNat : Int) = (a ^^^ b).toNat := by
  rw [b16, b16]; exact w16 (a ^^^ b)
theorem u16_or (a b : BitVec 16) : IntKind.u16.wrap ((BitVec.ofInt IntKind.u16.bits (a.toNat : Int) ||| BitVec.ofInt IntKind.u16.bits (b.toNat : Int)).toNat : Int) = (a ||| b).toNat := by
  rw [b16, b16]; exact w16 (a ||| b)
theorem u16_poly (a : BitVec 16) : IntKind.u16.wrap (4129 * (a.toNat : Int)) = (0x1021#16 * a).toNat := by
  rw [IntKind.wrap_u16, BitVec.toNat_mul]
  simp
theorem u8_of (x : BitVec 16) : IntKind.u8.wrap (x.toNat : Int) = (⟨x.setWidth 8⟩ : UInt8).toNat := by
  rw [IntKind.wrap_u8]
  show _ = ((x.setWidth 8).toNat : Int)
  rw [BitVec.toNat_setWidth]
  omega
theorem u16_in (n : BitVec 16) (c : UInt8) : IntKind.u16.wrap ((BitVec.ofInt IntKind.u16.bits (n.toNat : Int) ^^^ BitVec.ofInt IntKind.u16.bits (IntKind.u16.wrap (IntKind.u16.wrap (c.toNat : Int) * 2 ^ min (Int.toNat 8) IntKind.u16.bits))).toNat : Int) = (n ^^^ (lift16 c <<< 8)).toNat := by
  rw [u16_lift]
  have h := u16_shl (lift16 c) 8
  rw [show (IntKind.u16.wrap (((lift16 c).toNat : Int) * 2 ^ min (Int.toNat 8) IntKind.u16.bits)) = ((lift16 c <<< 8).toNat : Int) from h]
  exact u16_xor n (lift16 c <<< 8)
theorem u16_round (n : BitVec 16) : IntKind.u16.wrap ((BitVec.ofInt IntKind.u16.bits (IntKind.u16.wrap ((n.toNat : Int) * 2 ^ min (Int.toNat 1) IntKind.u16.bits)) ^^^ BitVec.ofInt IntKind.u16.bits (IntKind.u16.wrap (4129 * (n.toNat : Int).fdiv (2 ^ min (Int.toNat 15) IntKind.u16.bits)))).toNat : Int) = (crcStep n).toNat := by
  rw [show (IntKind.u16.wrap ((n.toNat : Int) * 2 ^ min (Int.toNat 1) IntKind.u16.bits)) = ((n <<< 1).toNat : Int) from u16_shl n 1,
    show (n.toNat : Int).fdiv (2 ^ min (Int.toNat 15) IntKind.u16.bits) = ((n >>> 15).toNat : Int) from u16_shr n 15, u16_poly]
  exact u16_xor _ _
theorem beq16 (a b : BitVec 16) : ((a.toNat : Int) == (b.toNat : Int)) = (a == b) := by
  rw [Bool.eq_iff_iff]
  simp only [beq_iff_eq]
  constructor
  · intro h; exact BitVec.eq_of_toNat_eq (by omega)
  · intro h; rw [h]
theorem bne16 (a b : BitVec 16) : ((a.toNat : Int) != (b.toNat : Int)) = (a != b) := by
  simp only [bne, beq16]
end Go.Proofs.Ytdfdhhepbkejpaa
