/-
  The reference that opens; what was sealed is opened.
-/
import Derived.Test.YtdfdhhepbkejpaaCrcLaws
set_option linter.unusedSimpArgs false
set_option linter.unusedVariables false
namespace Go.Proofs.Ytdfdhhepbkejpaa
open Go.Free Go.RowKit Go.Proofs

theorem strEq (a b : List UInt8) : (a == b) = decide (a = b) := by
  by_cases h : a = b <;> simp [h]

theorem ref_Open (l : List UInt8) (hl : l.length ≤ 9223372036854775000) : Spc Try.prog 47 [.ex (str l)] fun _ => .tup [.ex (str ((crcOpen l).getD [])), .ex (.bool (crcOpen l).isSome)] := by
  rw [seal_open]
  refine Spc.intro Try.func47 rfl (Nat.le_of_ble_eq_true rfl) fun w0 => ?_
  have hI := hIb w0
  refine J.seq (J.region mixed hI (by kernel_rfl) ?_)
  repeat (refine Plan.assign rfl rfl rfl rfl ?_)
  refine J.seq (J.seq (J.region mixed hI (by kernel_rfl) ?_))
  refine Plan.move rfl rfl rfl rfl ?_
  refine Plan.lenStr rfl rfl rfl rfl Try.underlying9 ?_
  refine Plan.ints rfl rfl rfl rfl rfl rfl ?_
  rcases Nat.lt_or_ge l.length 2 with hlt | hge
  · refine Plan.boolv (y := true) (by simp; omega) ?_
    repeat (first | refine Plan.move rfl rfl rfl rfl ?_ | refine Plan.skip rfl rfl ?_ | refine Plan.pick rfl rfl rfl rfl rfl ?_)
    refine J.cond rfl (fun _ => ?_) (fun h => by cases h)
    rw [if_neg (by omega)]
    refine J.seq (J.region mixed hI (by kernel_rfl) ?_)
    repeat (refine Plan.assign rfl rfl rfl rfl ?_)
    refine J.ret (Nrm.ret2 rfl (fun _ h => h) fun B hB => ⟨_, rfl, Ress.cons rfl (Sub.refl _) (Ress.cons rfl (Sub.refl _) Ress.nil)⟩)
  · refine Plan.boolv (y := false) (by simp; omega) ?_
    refine Plan.move rfl rfl rfl rfl ?_
    refine Plan.move rfl rfl rfl rfl ?_
    refine Plan.move rfl rfl rfl rfl ?_
    refine Plan.lenStr rfl rfl rfl rfl Try.underlying9 ?_
    refine Plan.ints rfl rfl rfl rfl rfl rfl ?_
    refine Plan.int (y := ((l.length - 2 : Nat) : Int)) (by rw [i64r (by omega)]; omega) ?_
    refine Plan.sliceStr (a0 := 0) (b0 := l.length - 2) rfl rfl rfl rfl Try.underlying9 (.inl ⟨rfl, rfl⟩) (.inr ⟨_, _, rfl, rfl⟩) (Nat.zero_le _) (by omega) ?_
    refine Plan.call (B := 0) (R := fun _ => .ex (str (crcSeal (l.take (l.length - 2))))) rfl rfl rfl (ref_Seal (l.take (l.length - 2)) (by rw [List.length_take]; omega)) Try.func50 rfl rfl (fun _ _ => Nat.zero_le _) (Opnds.cons rfl (Sub.of_eq (by simp)) Opnds.nil) ?_
    refine Plan.move rfl rfl rfl rfl ?_
    refine Plan.strs rfl rfl rfl rfl rfl rfl ?_
    refine Plan.boolv (by rw [strEq]) ?_
    repeat (refine Plan.pick rfl rfl rfl rfl rfl ?_)
    refine J.cond rfl (fun hc => ?_) (fun hc => ?_)
    · have hno : ¬ crcSeal (l.take (l.length - 2)) = l := by simpa using hc
      rw [if_neg (fun h => hno h.2)]
      refine J.seq (J.region mixed hI (by kernel_rfl) ?_)
      repeat (refine Plan.assign rfl rfl rfl rfl ?_)
      refine J.ret (Nrm.ret2 rfl (fun _ h => h) fun B hB => ⟨_, rfl, Ress.cons rfl (Sub.refl _) (Ress.cons rfl (Sub.refl _) Ress.nil)⟩)
    · have hyes : crcSeal (l.take (l.length - 2)) = l := by simpa using hc
      rw [if_pos ⟨hge, hyes⟩]
      refine J.skip ?_
      refine J.seq (J.region mixed hI (by kernel_rfl) ?_)
      repeat (first | refine Plan.move rfl rfl rfl rfl ?_ | refine Plan.ints rfl rfl rfl rfl rfl rfl ?_ | refine Plan.lenStr rfl rfl rfl rfl Try.underlying9 ?_)
      refine Plan.int (y := ((l.length - 2 : Nat) : Int)) (by rw [i64r (by omega)]; omega) ?_
      refine Plan.sliceStr (a0 := 0) (b0 := l.length - 2) rfl rfl rfl rfl Try.underlying9 (.inl ⟨rfl, rfl⟩) (.inr ⟨_, _, rfl, rfl⟩) (Nat.zero_le _) (by omega) ?_
      repeat (refine Plan.assign rfl rfl rfl rfl ?_)
      refine J.ret (Nrm.ret2 rfl (fun _ h => h) fun B hB => ⟨_, rfl, Ress.cons rfl (Sub.of_eq (by simp)) (Ress.cons rfl (Sub.refl _) Ress.nil)⟩)

theorem crc_Back_open (l : List UInt8) : crcOpen (crcSeal l) = some l := by
  have hlen : (crcSeal l).length = l.length + 2 := by simp [crcSeal]
  have ht : (crcSeal l).take ((crcSeal l).length - 2) = l := by rw [hlen]; simp [crcSeal]
  rw [seal_open, ht, if_pos ⟨by omega, rfl⟩]

end Go.Proofs.Ytdfdhhepbkejpaa
