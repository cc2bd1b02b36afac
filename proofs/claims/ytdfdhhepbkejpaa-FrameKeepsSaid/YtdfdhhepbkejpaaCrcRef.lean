/-
  The reference check equals the plain one, for every text of at most 2^63 - 2 bytes.
-/
import Derived.Test.YtdfdhhepbkejpaaCrcFns2
set_option linter.unusedSimpArgs false
set_option linter.unusedVariables false
namespace Go.Proofs.Ytdfdhhepbkejpaa
open Go.Free Go.RowKit Go.Proofs

theorem xor_i64 (a b : Nat) (ha : a < 65536) (hb : b < 65536) : IntKind.i64.wrap ((BitVec.ofInt IntKind.i64.bits (a : Int) ^^^ BitVec.ofInt IntKind.i64.bits (b : Int)).toNat : Int) = ((a ^^^ b : Nat) : Int) := by
  have h : (BitVec.ofInt IntKind.i64.bits (a : Int) ^^^ BitVec.ofInt IntKind.i64.bits (b : Int)).toNat = a ^^^ b := by
    show (BitVec.ofInt 64 (a : Int) ^^^ BitVec.ofInt 64 (b : Int)).toNat = a ^^^ b
    rw [BitVec.toNat_xor, ofInt_u64 a (by omega), ofInt_u64 b (by omega)]
  have hlt : a ^^^ b < 2 ^ 16 := Nat.xor_lt_two_pow ha hb
  rw [h, i64r (by omega)]
theorem ref_in (n : BitVec 16) (c : UInt8) : IntKind.i64.wrap ((BitVec.ofInt IntKind.i64.bits (n.toNat : Int) ^^^ BitVec.ofInt IntKind.i64.bits (IntKind.i64.wrap (IntKind.i64.wrap (c.toNat : Int) * 256))).toNat : Int) = (n ^^^ (lift16 c <<< 8)).toNat := by
  have hc := c.toNat_lt
  have hl : (lift16 c <<< 8).toNat = c.toNat * 256 := by
    simp only [lift16, BitVec.toNat_shiftLeft, BitVec.toNat_setWidth, UInt8.toNat_toBitVec, Nat.shiftLeft_eq]
    omega
  rw [i64r (x := (c.toNat : Int)) (by omega), i64r (x := (c.toNat : Int) * (256 : Int)) (by omega)]
  rw [show (c.toNat : Int) * (256 : Int) = ((lift16 c <<< 8).toNat : Int) by rw [hl]; omega]
  rw [xor_i64 _ _ n.isLt (lift16 c <<< 8).isLt, BitVec.toNat_xor]
theorem step_lo (n : BitVec 16) (h : n.toNat * 2 ≤ 65535) : (crcStep n).toNat = n.toNat * 2 := by
  have h1 : n >>> 15 = 0#16 := by
    apply BitVec.eq_of_toNat_eq
    rw [BitVec.toNat_ushiftRight, Nat.shiftRight_eq_div_pow]
    simp; omega
  simp only [crcStep, h1]
  rw [BitVec.toNat_xor, BitVec.toNat_mul, BitVec.toNat_shiftLeft, Nat.shiftLeft_eq]
  simp
  omega
theorem step_hi (n : BitVec 16) (h : 65535 < n.toNat * 2) : (crcStep n).toNat = (n.toNat * 2 - 65536) ^^^ 4129 := by
  have hn := n.isLt
  have h1 : n >>> 15 = 1#16 := by
    apply BitVec.eq_of_toNat_eq
    rw [BitVec.toNat_ushiftRight, Nat.shiftRight_eq_div_pow]
    simp; omega
  simp only [crcStep, h1]
  rw [BitVec.toNat_xor, BitVec.toNat_mul, BitVec.toNat_shiftLeft, Nat.shiftLeft_eq]
  have e : n.toNat * 2 ^ 1 % 2 ^ 16 = n.toNat * 2 - 65536 := by omega
  rw [e]
  rfl

def rcEnv (l : List UInt8) (j : Nat) : Env := [(0, .ex (str l)), (3, .ex (.int .i64 (crcOf (l.take j)).toNat)), (4, .ex (.int .i64 j))]
def rcEnv2 (l : List UInt8) (j : Nat) (m : BitVec 16) (q : Nat) : Env :=
  [(0, .ex (str l)), (3, .ex (.int .i64 (crcSteps q m).toNat)), (4, .ex (.int .i64 j)), (5, .ex (.int .i64 q))]

theorem ref_Of (l : List UInt8) (hl : l.length ≤ 9223372036854775806) : Spc Try.prog 51 [.ex (str l)] fun _ => .ex (.int .i64 (crcOf l).toNat) := by
  refine Spc.intro Try.func51 rfl (Nat.le_of_ble_eq_true rfl) fun w0 => ?_
  have hI := hIb w0
  refine J.seq (J.region mixed hI (by kernel_rfl) ?_)
  repeat (refine Plan.assign rfl rfl rfl rfl ?_)
  refine J.seq (J.region mixed hI (by kernel_rfl) ?_)
  repeat (refine Plan.assign rfl rfl rfl rfl ?_)
  refine J.seq (J.seq (J.region mixed hI (by kernel_rfl) ?_))
  repeat (refine Plan.assign rfl rfl rfl rfl ?_)
  refine J.block (J.loop (rcEnv l) (fun j => j ≤ l.length) (fun j => l.length - j) 0 (Nat.zero_le _) ?_ ?_)
  · exact Weak.cons rfl (Sub.refl _) (Weak.cons rfl (Sub.refl _) (Weak.cons rfl (Sub.refl _) Weak.nil))
  intro j hj
  refine J.seq (J.seq (J.region mixed hI (by kernel_rfl) ?_))
  repeat (first | refine Plan.move rfl rfl rfl rfl ?_ | refine Plan.ints rfl rfl rfl rfl rfl rfl ?_ | refine Plan.lenStr rfl rfl rfl rfl Try.underlying9 ?_)
  refine J.cond rfl (fun hc => ?_) (fun hc => ?_)
  · have hlt : j < l.length := by simpa using hc
    refine J.skip ?_
    refine J.seq (J.block ?_)
    refine J.seq (J.region mixed hI (by kernel_rfl) ?_)
    repeat (refine Plan.move rfl rfl rfl rfl ?_)
    refine Plan.index rfl rfl rfl rfl rfl Try.underlying9 (by omega) (by omega) ?_
    refine Plan.convInt rfl rfl rfl rfl Try.underlying5 Try.underlying3 ?_
    repeat (first | refine Plan.assign rfl rfl rfl rfl ?_ | refine Plan.ints rfl rfl rfl rfl rfl rfl ?_)
    refine Plan.int (ref_in _ _) ?_
    refine J.seq (J.region mixed hI (by kernel_rfl) ?_)
    repeat (refine Plan.assign rfl rfl rfl rfl ?_)
    refine J.block (J.loop (rcEnv2 l j (crcOf (l.take j) ^^^ (lift16 (l.getD j 0) <<< 8))) (fun q => q ≤ 8) (fun q => 8 - q) 0 (Nat.zero_le _) ?_ ?_)
    · exact Weak.cons rfl (Sub.refl _) (Weak.cons rfl (Sub.refl _) (Weak.cons rfl (Sub.refl _) (Weak.cons rfl (Sub.refl _) Weak.nil)))
    intro q hq
    refine J.seq (J.seq (J.region mixed hI (by kernel_rfl) ?_))
    repeat (first | refine Plan.move rfl rfl rfl rfl ?_ | refine Plan.ints rfl rfl rfl rfl rfl rfl ?_)
    refine J.cond rfl (fun hc2 => ?_) (fun hc2 => ?_)
    · have hlt2 : q < 8 := by have : (q : Int) < 8 := by simpa using hc2
                              omega
      refine J.skip ?_
      obtain ⟨m, hm⟩ : ∃ m, m = crcSteps q (crcOf (l.take j) ^^^ (lift16 (l.getD j 0) <<< 8)) := ⟨_, rfl⟩
      have hmlt := m.isLt
      refine J.weak [(0, .ex (str l)), (3, .ex (.int .i64 m.toNat)), (4, .ex (.int .i64 j)), (5, .ex (.int .i64 q))] ?_ ?_
      · exact Weak.cons rfl (Sub.refl _) (Weak.cons rfl (Sub.of_eq (by rw [hm])) (Weak.cons rfl (Sub.refl _) (Weak.cons rfl (Sub.refl _) Weak.nil)))
      refine J.seq (J.block ?_)
      have fin : Nrm Try.f51.ntmps (fun w => Below w0.heap.size w0 w) (fun a w => ∃ s', s' ≤ 8 ∧ 8 - s' < 8 - q ∧ Below w0.heap.size w0 w ∧ Sh Try.f51.ntmps a ∧ Sat (rcEnv2 l j (crcOf (l.take j) ^^^ (lift16 (l.getD j 0) <<< 8)) s') a w) (rcEnv2 l j (crcOf (l.take j) ^^^ (lift16 (l.getD j 0) <<< 8)) (q + 1)) :=
        fun a w h1 h2 h3 => ⟨q + 1, by omega, by omega, h1, h2, h3⟩
      refine J.seq (J.region mixed hI (by kernel_rfl) ?_)
      refine Plan.move rfl rfl rfl rfl ?_
      refine Plan.ints rfl rfl rfl rfl rfl rfl ?_
      refine Plan.int (y := ((m.toNat * 2 : Nat) : Int)) (by rw [i64r (by omega)]; omega) ?_
      repeat (refine Plan.assign rfl rfl rfl rfl ?_)
      refine J.seq (J.region mixed hI (by kernel_rfl) ?_)
      repeat (first | refine Plan.move rfl rfl rfl rfl ?_ | refine Plan.ints rfl rfl rfl rfl rfl rfl ?_)
      refine J.cond rfl (fun hc3 => ?_) (fun hc3 => ?_)
      · have h3 : 65535 < m.toNat * 2 := by have : (65535 : Int) < ((m.toNat * 2 : Nat) : Int) := by simpa using hc3
                                            omega
        refine (J.region mixed hI (by kernel_rfl) ?_)
        refine Plan.move rfl rfl rfl rfl ?_
        refine Plan.ints rfl rfl rfl rfl rfl rfl ?_
        refine Plan.int (y := ((m.toNat * 2 - 65536 : Nat) : Int)) (by rw [i64r (by omega)]; omega) ?_
        refine Plan.ints rfl rfl rfl rfl rfl rfl ?_
        refine Plan.int (xor_i64 _ 4129 (by omega) (by omega)) ?_
        repeat (refine Plan.assign rfl rfl rfl rfl ?_)
        refine (J.region mixed hI (by kernel_rfl) ?_)
        repeat (first | refine Plan.move rfl rfl rfl rfl ?_ | refine Plan.assign rfl rfl rfl rfl ?_ | refine Plan.ints rfl rfl rfl rfl rfl rfl ?_)
        refine Nrm.weak (rcEnv2 l j (crcOf (l.take j) ^^^ (lift16 (l.getD j 0) <<< 8)) (q + 1)) ?_ fin
        refine Weak.cons rfl (Sub.refl _) (Weak.cons rfl (Sub.of_eq ?_) (Weak.cons rfl (Sub.refl _) (Weak.cons rfl (Sub.of_eq (by rw [i64r (by omega)]; rfl)) Weak.nil)))
        rw [← step_hi m h3, hm]; rfl
      · have h3 : m.toNat * 2 ≤ 65535 := by have : ¬ (65535 : Int) < ((m.toNat * 2 : Nat) : Int) := by simpa using hc3
                                            omega
        refine J.skip ?_
        refine (J.region mixed hI (by kernel_rfl) ?_)
        repeat (first | refine Plan.move rfl rfl rfl rfl ?_ | refine Plan.assign rfl rfl rfl rfl ?_ | refine Plan.ints rfl rfl rfl rfl rfl rfl ?_)
        refine Nrm.weak (rcEnv2 l j (crcOf (l.take j) ^^^ (lift16 (l.getD j 0) <<< 8)) (q + 1)) ?_ fin
        refine Weak.cons rfl (Sub.refl _) (Weak.cons rfl (Sub.of_eq ?_) (Weak.cons rfl (Sub.refl _) (Weak.cons rfl (Sub.of_eq (by rw [i64r (by omega)]; rfl)) Weak.nil)))
        rw [← step_lo m h3, hm]; rfl
    · have hq8 : q = 8 := by have : ¬ (q : Int) < 8 := by simpa using hc2
                             omega
      subst hq8
      refine J.exit ?_
      refine (J.region mixed hI (by kernel_rfl) ?_)
      repeat (first | refine Plan.move rfl rfl rfl rfl ?_ | refine Plan.assign rfl rfl rfl rfl ?_ | refine Plan.ints rfl rfl rfl rfl rfl rfl ?_)
      refine Nrm.weak (rcEnv l (j + 1)) ?_ ?_
      · refine Weak.cons rfl (Sub.refl _) (Weak.cons rfl (Sub.of_eq ?_) (Weak.cons rfl (Sub.of_eq (by rw [i64r (by omega)]; rfl)) Weak.nil))
        rw [crcOf_take_succ l j hlt]; rfl
      · exact fun a w h1 h2 h3 => ⟨j + 1, hlt, by omega, h1, h2, h3⟩
  · have hge : j = l.length := by have : ¬ (j : Int) < l.length := by simpa using hc
                                  omega
    subst hge
    refine J.exit ?_
    refine J.seq (J.region mixed hI (by kernel_rfl) ?_)
    repeat (first | refine Plan.move rfl rfl rfl rfl ?_ | refine Plan.assign rfl rfl rfl rfl ?_)
    refine J.ret (Nrm.ret1 rfl (fun _ h => h) rfl fun B _ => Sub.of_eq ?_)
    rw [List.take_length]
end Go.Proofs.Ytdfdhhepbkejpaa
