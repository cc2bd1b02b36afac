/-
  crc.Of returns the check, for every slice of bytes of at most 2^63 - 2 bytes.
-/
import Derived.Test.YtdfdhhepbkejpaaCrcPlain
set_option linter.unusedSimpArgs false
set_option linter.unusedVariables false
namespace Go.Proofs.Ytdfdhhepbkejpaa
open Go.Free Go.RowKit Go.Proofs

def crcEnv (w0 : World) (l : List UInt8) (j : Nat) : Env := [(3, .ex (.int .u16 (crcOf (l.take j)).toNat)), (6, .old w0 (bytesF l)), (7, .ex (.int .i64 l.length)), (8, .ex (.int .i64 j))]
def crcEnv2 (w0 : World) (l : List UInt8) (j : Nat) (m : BitVec 16) (q : Nat) : Env :=
  [(3, .ex (.int .u16 (crcSteps q m).toNat)), (6, .old w0 (bytesF l)), (7, .ex (.int .i64 l.length)), (8, .ex (.int .i64 j)), (17, .ex (.int .i64 q))]

theorem crc_Of (l : List UInt8) (hl : l.length ≤ 9223372036854775806) : Spc Try.prog 49 [bytesF l] fun _ => .ex (.int .u16 (crcOf l).toNat) := by
  refine Spc.intro Try.func49 rfl (Nat.le_of_ble_eq_true rfl) fun w0 => ?_
  have hI := hIb w0
  refine J.seq (J.region mixed hI (by kernel_rfl) ?_)
  repeat (refine Plan.assign rfl rfl rfl rfl ?_)
  refine J.seq (J.region mixed hI (by kernel_rfl) ?_)
  repeat (refine Plan.assign rfl rfl rfl rfl ?_)
  refine J.seq (J.seq (J.region mixed hI (by kernel_rfl) ?_))
  repeat (refine Plan.move rfl rfl rfl rfl ?_)
  refine Plan.lenRow rfl rfl rfl rfl (Sub.old fun _ h => h) Try.underlying27 (m := l.length) (by simp [bs]) (by decide) ?_
  repeat (refine Plan.move rfl rfl rfl rfl ?_)
  refine J.block (J.loop (crcEnv w0 l) (fun j => j ≤ l.length) (fun j => l.length - j) 0 (Nat.zero_le _) ?_ ?_)
  · exact Weak.cons rfl (Sub.refl _) (Weak.cons rfl (Sub.refl _) (Weak.cons rfl (Sub.refl _) (Weak.cons rfl (Sub.refl _) Weak.nil)))
  intro j hj
  refine J.seq (J.region mixed hI (by kernel_rfl) ?_)
  repeat (refine Plan.ints rfl rfl rfl rfl rfl rfl ?_)
  refine J.seq (J.cond rfl (fun hc => ?_) (fun hc => ?_))
  · have hlt : j < l.length := by simpa using hc
    refine J.skip ?_
    refine J.seq (J.block ?_)
    refine J.seq (J.region mixed hI (by kernel_rfl) ?_)
    refine Plan.indexAddr (fun b : UInt8 => [.int .u8 b.toNat]) 1 l 0 rfl rfl rfl rfl (Sub.trans (Sub.old fun _ h => h) (Sub.rowEq (bs_flat l) (Sub.refl _))) rfl eltB (fun _ => rfl) (by omega) (by omega) ?_
    refine Plan.load rfl rfl rfl rfl (Sub.refl _) Try.underlying5 rfl ?_
    repeat (refine Plan.assign rfl rfl rfl rfl ?_)
    refine J.seq (J.region mixed hI (by kernel_rfl) ?_)
    repeat (refine Plan.move rfl rfl rfl rfl ?_)
    refine Plan.convInt rfl rfl rfl rfl Try.underlying5 Try.underlying33 ?_
    repeat (first | refine Plan.assign rfl rfl rfl rfl ?_ | refine Plan.ints rfl rfl rfl rfl rfl rfl ?_ | refine Plan.shift rfl rfl rfl rfl rfl rfl ?_)
    refine Plan.int (u16_in _ _) ?_
    refine J.seq (J.region mixed hI (by kernel_rfl) ?_)
    repeat (refine Plan.move rfl rfl rfl rfl ?_)
    refine J.block (J.loop (crcEnv2 w0 l j (crcOf (l.take j) ^^^ (lift16 (l.getD j 0) <<< 8))) (fun q => q ≤ 8) (fun q => 8 - q) 0 (Nat.zero_le _) ?_ ?_)
    · exact Weak.cons rfl (Sub.refl _) (Weak.cons rfl (Sub.refl _) (Weak.cons rfl (Sub.refl _) (Weak.cons rfl (Sub.refl _) (Weak.cons rfl (Sub.refl _) Weak.nil))))
    intro q hq
    refine J.seq (J.region mixed hI (by kernel_rfl) ?_)
    repeat (refine Plan.ints rfl rfl rfl rfl rfl rfl ?_)
    refine J.seq (J.cond rfl (fun hc2 => ?_) (fun hc2 => ?_))
    · have hlt2 : q < 8 := by have : (q : Int) < 8 := by simpa using hc2
                              omega
      refine J.skip ?_
      refine J.seq (J.block (J.region mixed hI (by kernel_rfl) ?_))
      repeat (first | refine Plan.move rfl rfl rfl rfl ?_ | refine Plan.assign rfl rfl rfl rfl ?_ | refine Plan.ints rfl rfl rfl rfl rfl rfl ?_ | refine Plan.shift rfl rfl rfl rfl rfl rfl ?_)
      refine Plan.int (u16_round _) ?_
      refine (J.region mixed hI (by kernel_rfl) ?_)
      repeat (first | refine Plan.move rfl rfl rfl rfl ?_ | refine Plan.ints rfl rfl rfl rfl rfl rfl ?_)
      refine Nrm.weak (crcEnv2 w0 l j (crcOf (l.take j) ^^^ (lift16 (l.getD j 0) <<< 8)) (q + 1)) ?_ ?_
      · exact Weak.cons rfl (Sub.refl _) (Weak.cons rfl (Sub.refl _) (Weak.cons rfl (Sub.refl _) (Weak.cons rfl (Sub.refl _) (Weak.cons rfl (Sub.of_eq (by rw [i64r (by omega)]; rfl)) Weak.nil))))
      · exact fun a w h1 h2 h3 => ⟨q + 1, hlt2, by omega, h1, h2, h3⟩
    · have hq8 : q = 8 := by have : ¬ (q : Int) < 8 := by simpa using hc2
                             omega
      subst hq8
      refine J.exit ?_
      refine (J.region mixed hI (by kernel_rfl) ?_)
      repeat (first | refine Plan.move rfl rfl rfl rfl ?_ | refine Plan.ints rfl rfl rfl rfl rfl rfl ?_)
      refine Nrm.weak (crcEnv w0 l (j + 1)) ?_ ?_
      · refine Weak.cons rfl (Sub.of_eq ?_) (Weak.cons rfl (Sub.refl _) (Weak.cons rfl (Sub.refl _) (Weak.cons rfl (Sub.of_eq (by rw [i64r (by omega)]; rfl)) Weak.nil)))
        rw [crcOf_take_succ l j hlt]; rfl
      · exact fun a w h1 h2 h3 => ⟨j + 1, hlt, by omega, h1, h2, h3⟩
  · have hge : j = l.length := by have : ¬ (j : Int) < l.length := by simpa using hc
                                  omega
    subst hge
    refine J.exit ?_
    refine J.seq (J.region mixed hI (by kernel_rfl) ?_)
    repeat (first | refine Plan.move rfl rfl rfl rfl ?_ | refine Plan.assign rfl rfl rfl rfl ?_)
    refine J.ret (Nrm.ret1 rfl (fun _ h => h) rfl fun B _ => Sub.of_eq ?_)
    rw [List.take_length]
end Go.Proofs.Ytdfdhhepbkejpaa
