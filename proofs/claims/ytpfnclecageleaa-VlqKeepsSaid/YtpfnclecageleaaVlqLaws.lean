/-
  The laws VlqTakes, VlqTexts, VlqOne and VlqOrders return true for all arguments.
-/
import Derived.Test.YtpfnclecageleaaVlqText
namespace Go.Proofs.Ytpfnclecageleaa
open Go.Free Go.RowKit Go.Proofs

theorem lawTakes (b : List UInt8) (p : Int) (hb : b.length ≤ 9223372036854775807) (hp : -9223372036854775808 ≤ p ∧ p ≤ 9223372036854775807) : Spc Try.prog 13 [.ex (str b), .ex (.int .i64 p)] fun _ => .ex (.bool true) := by
  refine Spc.intro Try.func13 rfl (Nat.le_of_ble_eq_true rfl) fun w0 => ?_
  have hI := hIb w0
  obtain ⟨hb1, hb2, hb3, hb4, hb5⟩ := vTake_bd b p
  refine J.seq (J.region mixed hI (by kernel_rfl) ?_)
  repeat (first
    | refine Plan.move rfl rfl rfl rfl ?_
    | refine Plan.assign rfl rfl rfl rfl ?_
    | refine Plan.skip rfl rfl ?_
    | refine Plan.pick rfl rfl rfl rfl rfl ?_
    | refine Plan.ints rfl rfl rfl rfl rfl rfl ?_
    | refine Plan.shift rfl rfl rfl rfl rfl rfl ?_
    | refine Plan.un rfl rfl rfl rfl rfl ?_
    | refine Plan.extract rfl rfl rfl rfl rfl ?_
    | refine Plan.lenStr rfl rfl rfl rfl Try.underlying9 ?_)
  refine J.seq (J.seq (J.region mixed hI (by kernel_rfl) ?_))
  refine Plan.call (B := 0) (R := fun _ => .ex (.bool true)) rfl rfl rfl awakeV_fn Try.func18 rfl rfl (fun _ _ => Nat.zero_le _) Opnds.nil ?_
  repeat (first
    | refine Plan.move rfl rfl rfl rfl ?_
    | refine Plan.assign rfl rfl rfl rfl ?_
    | refine Plan.skip rfl rfl ?_
    | refine Plan.pick rfl rfl rfl rfl rfl ?_
    | refine Plan.ints rfl rfl rfl rfl rfl rfl ?_
    | refine Plan.shift rfl rfl rfl rfl rfl rfl ?_
    | refine Plan.un rfl rfl rfl rfl rfl ?_
    | refine Plan.extract rfl rfl rfl rfl rfl ?_
    | refine Plan.lenStr rfl rfl rfl rfl Try.underlying9 ?_)
  refine J.cond rfl (fun h => by cases h) (fun _ => ?_)
  refine J.skip ?_
  refine J.seq (J.region mixed hI (by kernel_rfl) ?_)
  repeat (first
    | refine Plan.move rfl rfl rfl rfl ?_
    | refine Plan.assign rfl rfl rfl rfl ?_
    | refine Plan.skip rfl rfl ?_
    | refine Plan.pick rfl rfl rfl rfl rfl ?_
    | refine Plan.ints rfl rfl rfl rfl rfl rfl ?_
    | refine Plan.shift rfl rfl rfl rfl rfl rfl ?_
    | refine Plan.un rfl rfl rfl rfl rfl ?_
    | refine Plan.extract rfl rfl rfl rfl rfl ?_
    | refine Plan.lenStr rfl rfl rfl rfl Try.underlying9 ?_)
  refine Plan.convSB rfl rfl rfl rfl Try.underlying9 Try.underlying23 Try.underlying5 hb ?_
  repeat (first
    | refine Plan.move rfl rfl rfl rfl ?_
    | refine Plan.assign rfl rfl rfl rfl ?_
    | refine Plan.skip rfl rfl ?_
    | refine Plan.pick rfl rfl rfl rfl rfl ?_
    | refine Plan.ints rfl rfl rfl rfl rfl rfl ?_
    | refine Plan.shift rfl rfl rfl rfl rfl rfl ?_
    | refine Plan.un rfl rfl rfl rfl rfl ?_
    | refine Plan.extract rfl rfl rfl rfl rfl ?_
    | refine Plan.lenStr rfl rfl rfl rfl Try.underlying9 ?_)
  refine Plan.call (B := 0) (R := fun _ => takeRes b p) rfl rfl rfl (vlq_Take b p hp hb) Try.func30 rfl rfl (fun _ _ => Nat.zero_le _) (Opnds.cons rfl (Sub.refl _) (Opnds.cons rfl (Sub.refl _) Opnds.nil)) ?_
  repeat (first
    | refine Plan.move rfl rfl rfl rfl ?_
    | refine Plan.assign rfl rfl rfl rfl ?_
    | refine Plan.skip rfl rfl ?_
    | refine Plan.pick rfl rfl rfl rfl rfl ?_
    | refine Plan.ints rfl rfl rfl rfl rfl rfl ?_
    | refine Plan.shift rfl rfl rfl rfl rfl rfl ?_
    | refine Plan.un rfl rfl rfl rfl rfl ?_
    | refine Plan.extract rfl rfl rfl rfl rfl ?_
    | refine Plan.lenStr rfl rfl rfl rfl Try.underlying9 ?_)
  refine J.seq (J.region mixed hI (by kernel_rfl) ?_)
  repeat (first
    | refine Plan.move rfl rfl rfl rfl ?_
    | refine Plan.assign rfl rfl rfl rfl ?_
    | refine Plan.skip rfl rfl ?_
    | refine Plan.pick rfl rfl rfl rfl rfl ?_
    | refine Plan.ints rfl rfl rfl rfl rfl rfl ?_
    | refine Plan.shift rfl rfl rfl rfl rfl rfl ?_
    | refine Plan.un rfl rfl rfl rfl rfl ?_
    | refine Plan.extract rfl rfl rfl rfl rfl ?_
    | refine Plan.lenStr rfl rfl rfl rfl Try.underlying9 ?_)
  refine Plan.call (B := 0) (R := fun _ => takeResI b p) rfl rfl rfl (ref_Take b p hp hb) Try.func31 rfl rfl (fun _ _ => Nat.zero_le _) (Opnds.cons rfl (Sub.refl _) (Opnds.cons rfl (Sub.refl _) Opnds.nil)) ?_
  repeat (first
    | refine Plan.move rfl rfl rfl rfl ?_
    | refine Plan.assign rfl rfl rfl rfl ?_
    | refine Plan.skip rfl rfl ?_
    | refine Plan.pick rfl rfl rfl rfl rfl ?_
    | refine Plan.ints rfl rfl rfl rfl rfl rfl ?_
    | refine Plan.shift rfl rfl rfl rfl rfl rfl ?_
    | refine Plan.un rfl rfl rfl rfl rfl ?_
    | refine Plan.extract rfl rfl rfl rfl rfl ?_
    | refine Plan.lenStr rfl rfl rfl rfl Try.underlying9 ?_)
  refine J.seq (J.region mixed hI (by kernel_rfl) ?_)
  repeat (first
    | refine Plan.move rfl rfl rfl rfl ?_
    | refine Plan.assign rfl rfl rfl rfl ?_
    | refine Plan.skip rfl rfl ?_
    | refine Plan.pick rfl rfl rfl rfl rfl ?_
    | refine Plan.ints rfl rfl rfl rfl rfl rfl ?_
    | refine Plan.shift rfl rfl rfl rfl rfl rfl ?_
    | refine Plan.un rfl rfl rfl rfl rfl ?_
    | refine Plan.extract rfl rfl rfl rfl rfl ?_
    | refine Plan.lenStr rfl rfl rfl rfl Try.underlying9 ?_)
  refine Plan.convSB rfl rfl rfl rfl Try.underlying9 Try.underlying23 Try.underlying5 hb ?_
  repeat (first
    | refine Plan.move rfl rfl rfl rfl ?_
    | refine Plan.assign rfl rfl rfl rfl ?_
    | refine Plan.skip rfl rfl ?_
    | refine Plan.pick rfl rfl rfl rfl rfl ?_
    | refine Plan.ints rfl rfl rfl rfl rfl rfl ?_
    | refine Plan.shift rfl rfl rfl rfl rfl rfl ?_
    | refine Plan.un rfl rfl rfl rfl rfl ?_
    | refine Plan.extract rfl rfl rfl rfl rfl ?_
    | refine Plan.lenStr rfl rfl rfl rfl Try.underlying9 ?_)
  refine Plan.call (B := 0) (R := fun _ => .tup [.ex (.int .i64 (zag (vTake b p).1)), .ex (.int .i64 (vTake b p).2.1), .ex (.int .i64 (vTake b p).2.2)]) rfl rfl rfl (vlq_TakeInt b p hp hb) Try.func32 rfl rfl (fun _ _ => Nat.zero_le _) (Opnds.cons rfl (Sub.refl _) (Opnds.cons rfl (Sub.refl _) Opnds.nil)) ?_
  repeat (first
    | refine Plan.move rfl rfl rfl rfl ?_
    | refine Plan.assign rfl rfl rfl rfl ?_
    | refine Plan.skip rfl rfl ?_
    | refine Plan.pick rfl rfl rfl rfl rfl ?_
    | refine Plan.ints rfl rfl rfl rfl rfl rfl ?_
    | refine Plan.shift rfl rfl rfl rfl rfl rfl ?_
    | refine Plan.un rfl rfl rfl rfl rfl ?_
    | refine Plan.extract rfl rfl rfl rfl rfl ?_
    | refine Plan.lenStr rfl rfl rfl rfl Try.underlying9 ?_)
  refine J.seq (J.region mixed hI (by kernel_rfl) ?_)
  repeat (first
    | refine Plan.move rfl rfl rfl rfl ?_
    | refine Plan.assign rfl rfl rfl rfl ?_
    | refine Plan.skip rfl rfl ?_
    | refine Plan.pick rfl rfl rfl rfl rfl ?_
    | refine Plan.ints rfl rfl rfl rfl rfl rfl ?_
    | refine Plan.shift rfl rfl rfl rfl rfl rfl ?_
    | refine Plan.un rfl rfl rfl rfl rfl ?_
    | refine Plan.extract rfl rfl rfl rfl rfl ?_
    | refine Plan.lenStr rfl rfl rfl rfl Try.underlying9 ?_)
  refine J.seqMid (fun _ : Unit => [(5, .ex (.int .u64 (vTake b p).1)), (6, .ex (.int .i64 (vTake b p).2.1)), (7, .ex (.int .i64 (vTake b p).2.2)), (8, .ex (.int .u64 (vTake b p).1)), (9, .ex (.int .i64 (vTake b p).2.1)), (10, .ex (.int .i64 (vTake b p).2.2)),
      (11, .ex (.int .i64 (zag (vTake b p).1))), (12, .ex (.int .i64 (vTake b p).2.1)), (13, .ex (.int .i64 (vTake b p).2.2)), (14, .ex (.int .i64 (zag (vTake b p).1)))]) (fun _ => True) ?_ ?_
  · refine J.seq (J.region mixed hI (by kernel_rfl) ?_)
    repeat (first
    | refine Plan.move rfl rfl rfl rfl ?_
    | refine Plan.assign rfl rfl rfl rfl ?_
    | refine Plan.skip rfl rfl ?_
    | refine Plan.pick rfl rfl rfl rfl rfl ?_
    | refine Plan.ints rfl rfl rfl rfl rfl rfl ?_
    | refine Plan.shift rfl rfl rfl rfl rfl rfl ?_
    | refine Plan.un rfl rfl rfl rfl rfl ?_
    | refine Plan.extract rfl rfl rfl rfl rfl ?_
    | refine Plan.lenStr rfl rfl rfl rfl Try.underlying9 ?_)
    refine J.cond rfl (fun h => ?_) (fun h => ?_)
    · refine (J.region mixed hI (by kernel_rfl) ?_)
      repeat (first
    | refine Plan.move rfl rfl rfl rfl ?_
    | refine Plan.assign rfl rfl rfl rfl ?_
    | refine Plan.skip rfl rfl ?_
    | refine Plan.pick rfl rfl rfl rfl rfl ?_
    | refine Plan.ints rfl rfl rfl rfl rfl rfl ?_
    | refine Plan.shift rfl rfl rfl rfl rfl rfl ?_
    | refine Plan.un rfl rfl rfl rfl rfl ?_
    | refine Plan.extract rfl rfl rfl rfl rfl ?_
    | refine Plan.lenStr rfl rfl rfl rfl Try.underlying9 ?_)
      refine Plan.call (B := 0) (R := fun _ => .ex (.int .i64 (zag (vTake b p).1))) rfl rfl rfl (ref_Signed (vTake b p).1 hb1) Try.func33 rfl rfl (fun _ _ => Nat.zero_le _) (Opnds.cons rfl (Sub.refl _) Opnds.nil) ?_
      repeat (first
    | refine Plan.move rfl rfl rfl rfl ?_
    | refine Plan.assign rfl rfl rfl rfl ?_
    | refine Plan.skip rfl rfl ?_
    | refine Plan.pick rfl rfl rfl rfl rfl ?_
    | refine Plan.ints rfl rfl rfl rfl rfl rfl ?_
    | refine Plan.shift rfl rfl rfl rfl rfl rfl ?_
    | refine Plan.un rfl rfl rfl rfl rfl ?_
    | refine Plan.extract rfl rfl rfl rfl rfl ?_
    | refine Plan.lenStr rfl rfl rfl rfl Try.underlying9 ?_)
      exact Nrm.mid () trivial (Weak.cons rfl (Sub.refl _) (Weak.cons rfl (Sub.refl _) (Weak.cons rfl (Sub.refl _) (Weak.cons rfl (Sub.refl _) (Weak.cons rfl (Sub.refl _) (Weak.cons rfl (Sub.refl _) (Weak.cons rfl (Sub.refl _) (Weak.cons rfl (Sub.refl _) (Weak.cons rfl (Sub.refl _) (Weak.cons rfl (Sub.refl _) Weak.nil))))))))))
    · have he : (vTake b p).2.2 ≠ 0 := by intro e; rw [e] at h; simp at h
      refine J.skip ?_
      exact Nrm.mid () trivial (Weak.cons rfl (Sub.refl _) (Weak.cons rfl (Sub.refl _) (Weak.cons rfl (Sub.refl _) (Weak.cons rfl (Sub.refl _) (Weak.cons rfl (Sub.refl _) (Weak.cons rfl (Sub.refl _) (Weak.cons rfl (Sub.refl _) (Weak.cons rfl (Sub.refl _) (Weak.cons rfl (Sub.refl _) (Weak.cons rfl (Sub.of_eq (by rw [(hb5 he).1]; rfl)) Weak.nil))))))))))
  intro _ _
  refine J.seq (J.region mixed hI (by kernel_rfl) ?_)
  refine Plan.move rfl rfl rfl rfl ?_
  refine Plan.move rfl rfl rfl rfl ?_
  refine Plan.ints rfl rfl rfl rfl rfl rfl ?_
  refine Plan.boolv (y := true) (by simp) ?_
  repeat (first
    | refine Plan.move rfl rfl rfl rfl ?_
    | refine Plan.assign rfl rfl rfl rfl ?_
    | refine Plan.skip rfl rfl ?_
    | refine Plan.pick rfl rfl rfl rfl rfl ?_
    | refine Plan.ints rfl rfl rfl rfl rfl rfl ?_
    | refine Plan.shift rfl rfl rfl rfl rfl rfl ?_
    | refine Plan.un rfl rfl rfl rfl rfl ?_
    | refine Plan.extract rfl rfl rfl rfl rfl ?_
    | refine Plan.lenStr rfl rfl rfl rfl Try.underlying9 ?_)
  refine Plan.boolv (y := true) (by simp) ?_
  repeat (first
    | refine Plan.move rfl rfl rfl rfl ?_
    | refine Plan.assign rfl rfl rfl rfl ?_
    | refine Plan.skip rfl rfl ?_
    | refine Plan.pick rfl rfl rfl rfl rfl ?_
    | refine Plan.ints rfl rfl rfl rfl rfl rfl ?_
    | refine Plan.shift rfl rfl rfl rfl rfl rfl ?_
    | refine Plan.un rfl rfl rfl rfl rfl ?_
    | refine Plan.extract rfl rfl rfl rfl rfl ?_
    | refine Plan.lenStr rfl rfl rfl rfl Try.underlying9 ?_)
  refine Plan.boolv (y := true) (by simp) ?_
  repeat (first
    | refine Plan.move rfl rfl rfl rfl ?_
    | refine Plan.assign rfl rfl rfl rfl ?_
    | refine Plan.skip rfl rfl ?_
    | refine Plan.pick rfl rfl rfl rfl rfl ?_
    | refine Plan.ints rfl rfl rfl rfl rfl rfl ?_
    | refine Plan.shift rfl rfl rfl rfl rfl rfl ?_
    | refine Plan.un rfl rfl rfl rfl rfl ?_
    | refine Plan.extract rfl rfl rfl rfl rfl ?_
    | refine Plan.lenStr rfl rfl rfl rfl Try.underlying9 ?_)
  refine Plan.boolv (y := true) (by simp) ?_
  repeat (first
    | refine Plan.move rfl rfl rfl rfl ?_
    | refine Plan.assign rfl rfl rfl rfl ?_
    | refine Plan.skip rfl rfl ?_
    | refine Plan.pick rfl rfl rfl rfl rfl ?_
    | refine Plan.ints rfl rfl rfl rfl rfl rfl ?_
    | refine Plan.shift rfl rfl rfl rfl rfl rfl ?_
    | refine Plan.un rfl rfl rfl rfl rfl ?_
    | refine Plan.extract rfl rfl rfl rfl rfl ?_
    | refine Plan.lenStr rfl rfl rfl rfl Try.underlying9 ?_)
  refine Plan.boolv (y := true) (by simp) ?_
  repeat (first
    | refine Plan.move rfl rfl rfl rfl ?_
    | refine Plan.assign rfl rfl rfl rfl ?_
    | refine Plan.skip rfl rfl ?_
    | refine Plan.pick rfl rfl rfl rfl rfl ?_
    | refine Plan.ints rfl rfl rfl rfl rfl rfl ?_
    | refine Plan.shift rfl rfl rfl rfl rfl rfl ?_
    | refine Plan.un rfl rfl rfl rfl rfl ?_
    | refine Plan.extract rfl rfl rfl rfl rfl ?_
    | refine Plan.lenStr rfl rfl rfl rfl Try.underlying9 ?_)
  refine Plan.boolv (y := true) (by simp) ?_
  repeat (first
    | refine Plan.move rfl rfl rfl rfl ?_
    | refine Plan.assign rfl rfl rfl rfl ?_
    | refine Plan.skip rfl rfl ?_
    | refine Plan.pick rfl rfl rfl rfl rfl ?_
    | refine Plan.ints rfl rfl rfl rfl rfl rfl ?_
    | refine Plan.shift rfl rfl rfl rfl rfl rfl ?_
    | refine Plan.un rfl rfl rfl rfl rfl ?_
    | refine Plan.extract rfl rfl rfl rfl rfl ?_
    | refine Plan.lenStr rfl rfl rfl rfl Try.underlying9 ?_)
  exact J.ret (Nrm.ret1 rfl (fun _ h => h) rfl fun B _ => Sub.refl _)

theorem lawTexts (b : List UInt8) (p most : Int) (hb : b.length ≤ 9223372036854775807) (hp : -9223372036854775808 ≤ p ∧ p ≤ 9223372036854775807) (hm : -9223372036854775808 ≤ most ∧ most ≤ 9223372036854775807) : Spc Try.prog 15 [.ex (str b), .ex (.int .i64 p), .ex (.int .i64 most)] fun _ => .ex (.bool true) := by
  refine Spc.intro Try.func15 rfl (Nat.le_of_ble_eq_true rfl) fun w0 => ?_
  have hI := hIb w0
  refine J.seq (J.region mixed hI (by kernel_rfl) ?_)
  repeat (first
    | refine Plan.move rfl rfl rfl rfl ?_
    | refine Plan.assign rfl rfl rfl rfl ?_
    | refine Plan.skip rfl rfl ?_
    | refine Plan.pick rfl rfl rfl rfl rfl ?_
    | refine Plan.ints rfl rfl rfl rfl rfl rfl ?_
    | refine Plan.shift rfl rfl rfl rfl rfl rfl ?_
    | refine Plan.un rfl rfl rfl rfl rfl ?_
    | refine Plan.extract rfl rfl rfl rfl rfl ?_
    | refine Plan.lenStr rfl rfl rfl rfl Try.underlying9 ?_)
  refine J.seq (J.seq (J.region mixed hI (by kernel_rfl) ?_))
  refine Plan.call (B := 0) (R := fun _ => .ex (.bool true)) rfl rfl rfl awakeV_fn Try.func18 rfl rfl (fun _ _ => Nat.zero_le _) Opnds.nil ?_
  repeat (first
    | refine Plan.move rfl rfl rfl rfl ?_
    | refine Plan.assign rfl rfl rfl rfl ?_
    | refine Plan.skip rfl rfl ?_
    | refine Plan.pick rfl rfl rfl rfl rfl ?_
    | refine Plan.ints rfl rfl rfl rfl rfl rfl ?_
    | refine Plan.shift rfl rfl rfl rfl rfl rfl ?_
    | refine Plan.un rfl rfl rfl rfl rfl ?_
    | refine Plan.extract rfl rfl rfl rfl rfl ?_
    | refine Plan.lenStr rfl rfl rfl rfl Try.underlying9 ?_)
  refine J.cond rfl (fun h => by cases h) (fun _ => ?_)
  refine J.skip ?_
  refine J.seq (J.region mixed hI (by kernel_rfl) ?_)
  repeat (first
    | refine Plan.move rfl rfl rfl rfl ?_
    | refine Plan.assign rfl rfl rfl rfl ?_
    | refine Plan.skip rfl rfl ?_
    | refine Plan.pick rfl rfl rfl rfl rfl ?_
    | refine Plan.ints rfl rfl rfl rfl rfl rfl ?_
    | refine Plan.shift rfl rfl rfl rfl rfl rfl ?_
    | refine Plan.un rfl rfl rfl rfl rfl ?_
    | refine Plan.extract rfl rfl rfl rfl rfl ?_
    | refine Plan.lenStr rfl rfl rfl rfl Try.underlying9 ?_)
  refine Plan.convSB rfl rfl rfl rfl Try.underlying9 Try.underlying23 Try.underlying5 hb ?_
  repeat (first
    | refine Plan.move rfl rfl rfl rfl ?_
    | refine Plan.assign rfl rfl rfl rfl ?_
    | refine Plan.skip rfl rfl ?_
    | refine Plan.pick rfl rfl rfl rfl rfl ?_
    | refine Plan.ints rfl rfl rfl rfl rfl rfl ?_
    | refine Plan.shift rfl rfl rfl rfl rfl rfl ?_
    | refine Plan.un rfl rfl rfl rfl rfl ?_
    | refine Plan.extract rfl rfl rfl rfl rfl ?_
    | refine Plan.lenStr rfl rfl rfl rfl Try.underlying9 ?_)
  refine Plan.call (B := 0) (R := fun _ => textRes b p most) rfl rfl rfl (vlq_TakeText b p most hp hm hb) Try.func34 rfl rfl (fun _ _ => Nat.zero_le _) (Opnds.cons rfl (Sub.refl _) (Opnds.cons rfl (Sub.refl _) (Opnds.cons rfl (Sub.refl _) Opnds.nil))) ?_
  repeat (first
    | refine Plan.move rfl rfl rfl rfl ?_
    | refine Plan.assign rfl rfl rfl rfl ?_
    | refine Plan.skip rfl rfl ?_
    | refine Plan.pick rfl rfl rfl rfl rfl ?_
    | refine Plan.ints rfl rfl rfl rfl rfl rfl ?_
    | refine Plan.shift rfl rfl rfl rfl rfl rfl ?_
    | refine Plan.un rfl rfl rfl rfl rfl ?_
    | refine Plan.extract rfl rfl rfl rfl rfl ?_
    | refine Plan.lenStr rfl rfl rfl rfl Try.underlying9 ?_)
  refine J.seq (J.region mixed hI (by kernel_rfl) ?_)
  repeat (first
    | refine Plan.move rfl rfl rfl rfl ?_
    | refine Plan.assign rfl rfl rfl rfl ?_
    | refine Plan.skip rfl rfl ?_
    | refine Plan.pick rfl rfl rfl rfl rfl ?_
    | refine Plan.ints rfl rfl rfl rfl rfl rfl ?_
    | refine Plan.shift rfl rfl rfl rfl rfl rfl ?_
    | refine Plan.un rfl rfl rfl rfl rfl ?_
    | refine Plan.extract rfl rfl rfl rfl rfl ?_
    | refine Plan.lenStr rfl rfl rfl rfl Try.underlying9 ?_)
  refine Plan.call (B := 0) (R := fun _ => textRes b p most) rfl rfl rfl (ref_TakeText b p most hp hm hb) Try.func35 rfl rfl (fun _ _ => Nat.zero_le _) (Opnds.cons rfl (Sub.refl _) (Opnds.cons rfl (Sub.refl _) (Opnds.cons rfl (Sub.refl _) Opnds.nil))) ?_
  repeat (first
    | refine Plan.move rfl rfl rfl rfl ?_
    | refine Plan.assign rfl rfl rfl rfl ?_
    | refine Plan.skip rfl rfl ?_
    | refine Plan.pick rfl rfl rfl rfl rfl ?_
    | refine Plan.ints rfl rfl rfl rfl rfl rfl ?_
    | refine Plan.shift rfl rfl rfl rfl rfl rfl ?_
    | refine Plan.un rfl rfl rfl rfl rfl ?_
    | refine Plan.extract rfl rfl rfl rfl rfl ?_
    | refine Plan.lenStr rfl rfl rfl rfl Try.underlying9 ?_)
  refine J.seq (J.region mixed hI (by kernel_rfl) ?_)
  refine Plan.move rfl rfl rfl rfl ?_
  refine Plan.move rfl rfl rfl rfl ?_
  refine Plan.strs rfl rfl rfl rfl rfl rfl ?_
  refine Plan.boolv (y := true) (by simp) ?_
  repeat (first
    | refine Plan.move rfl rfl rfl rfl ?_
    | refine Plan.assign rfl rfl rfl rfl ?_
    | refine Plan.skip rfl rfl ?_
    | refine Plan.pick rfl rfl rfl rfl rfl ?_
    | refine Plan.ints rfl rfl rfl rfl rfl rfl ?_
    | refine Plan.shift rfl rfl rfl rfl rfl rfl ?_
    | refine Plan.un rfl rfl rfl rfl rfl ?_
    | refine Plan.extract rfl rfl rfl rfl rfl ?_
    | refine Plan.lenStr rfl rfl rfl rfl Try.underlying9 ?_)
  refine Plan.boolv (y := true) (by simp) ?_
  repeat (first
    | refine Plan.move rfl rfl rfl rfl ?_
    | refine Plan.assign rfl rfl rfl rfl ?_
    | refine Plan.skip rfl rfl ?_
    | refine Plan.pick rfl rfl rfl rfl rfl ?_
    | refine Plan.ints rfl rfl rfl rfl rfl rfl ?_
    | refine Plan.shift rfl rfl rfl rfl rfl rfl ?_
    | refine Plan.un rfl rfl rfl rfl rfl ?_
    | refine Plan.extract rfl rfl rfl rfl rfl ?_
    | refine Plan.lenStr rfl rfl rfl rfl Try.underlying9 ?_)
  refine Plan.boolv (y := true) (by simp) ?_
  repeat (first
    | refine Plan.move rfl rfl rfl rfl ?_
    | refine Plan.assign rfl rfl rfl rfl ?_
    | refine Plan.skip rfl rfl ?_
    | refine Plan.pick rfl rfl rfl rfl rfl ?_
    | refine Plan.ints rfl rfl rfl rfl rfl rfl ?_
    | refine Plan.shift rfl rfl rfl rfl rfl rfl ?_
    | refine Plan.un rfl rfl rfl rfl rfl ?_
    | refine Plan.extract rfl rfl rfl rfl rfl ?_
    | refine Plan.lenStr rfl rfl rfl rfl Try.underlying9 ?_)
  exact J.ret (Nrm.ret1 rfl (fun _ h => h) rfl fun B _ => Sub.refl _)

theorem vTake_one (b : List UInt8) (p : Int) (h : (vTake b p).2.2 = 0) : num (vTake b p).1 = (b.take (vTake b p).2.1).drop p.toNat := by
  unfold vTake at h ⊢
  split at h
  · simp at h
  · rename_i g
    rw [if_neg g]
    split at h
    · rename_i g2
      rw [if_pos g2]
      have h1 := takeL_one (b.drop p.toNat) 0 0 (by rw [numHi_zero]; rfl) (by decide) g2
      rw [numHi_zero, List.nil_append, Nat.sub_zero] at h1
      show num (takeL 0 0 (b.drop p.toNat)).1 = _
      rw [← h1, List.drop_take, Nat.add_sub_cancel_left]
    · rename_i g2
      exact absurd h g2

theorem lawOne (b : List UInt8) (p : Int) (hb : b.length ≤ 9223372036854775807) (hp : -9223372036854775808 ≤ p ∧ p ≤ 9223372036854775807) : Spc Try.prog 11 [.ex (str b), .ex (.int .i64 p)] fun _ => .ex (.bool true) := by
  refine Spc.intro Try.func11 rfl (Nat.le_of_ble_eq_true rfl) fun w0 => ?_
  have hI := hIb w0
  obtain ⟨hb1, hb2, hb3, hb4, hb5⟩ := vTake_bd b p
  refine J.seq (J.region mixed hI (by kernel_rfl) ?_)
  repeat (first
    | refine Plan.move rfl rfl rfl rfl ?_
    | refine Plan.assign rfl rfl rfl rfl ?_
    | refine Plan.skip rfl rfl ?_
    | refine Plan.pick rfl rfl rfl rfl rfl ?_
    | refine Plan.ints rfl rfl rfl rfl rfl rfl ?_
    | refine Plan.shift rfl rfl rfl rfl rfl rfl ?_
    | refine Plan.un rfl rfl rfl rfl rfl ?_
    | refine Plan.extract rfl rfl rfl rfl rfl ?_
    | refine Plan.lenStr rfl rfl rfl rfl Try.underlying9 ?_)
  refine J.seq (J.seq (J.region mixed hI (by kernel_rfl) ?_))
  refine Plan.call (B := 0) (R := fun _ => .ex (.bool true)) rfl rfl rfl awakeV_fn Try.func18 rfl rfl (fun _ _ => Nat.zero_le _) Opnds.nil ?_
  repeat (first
    | refine Plan.move rfl rfl rfl rfl ?_
    | refine Plan.assign rfl rfl rfl rfl ?_
    | refine Plan.skip rfl rfl ?_
    | refine Plan.pick rfl rfl rfl rfl rfl ?_
    | refine Plan.ints rfl rfl rfl rfl rfl rfl ?_
    | refine Plan.shift rfl rfl rfl rfl rfl rfl ?_
    | refine Plan.un rfl rfl rfl rfl rfl ?_
    | refine Plan.extract rfl rfl rfl rfl rfl ?_
    | refine Plan.lenStr rfl rfl rfl rfl Try.underlying9 ?_)
  refine J.cond rfl (fun h => by cases h) (fun _ => ?_)
  refine J.skip ?_
  refine J.seq (J.region mixed hI (by kernel_rfl) ?_)
  repeat (first
    | refine Plan.move rfl rfl rfl rfl ?_
    | refine Plan.assign rfl rfl rfl rfl ?_
    | refine Plan.skip rfl rfl ?_
    | refine Plan.pick rfl rfl rfl rfl rfl ?_
    | refine Plan.ints rfl rfl rfl rfl rfl rfl ?_
    | refine Plan.shift rfl rfl rfl rfl rfl rfl ?_
    | refine Plan.un rfl rfl rfl rfl rfl ?_
    | refine Plan.extract rfl rfl rfl rfl rfl ?_
    | refine Plan.lenStr rfl rfl rfl rfl Try.underlying9 ?_)
  refine Plan.convSB rfl rfl rfl rfl Try.underlying9 Try.underlying23 Try.underlying5 hb ?_
  repeat (first
    | refine Plan.move rfl rfl rfl rfl ?_
    | refine Plan.assign rfl rfl rfl rfl ?_
    | refine Plan.skip rfl rfl ?_
    | refine Plan.pick rfl rfl rfl rfl rfl ?_
    | refine Plan.ints rfl rfl rfl rfl rfl rfl ?_
    | refine Plan.shift rfl rfl rfl rfl rfl rfl ?_
    | refine Plan.un rfl rfl rfl rfl rfl ?_
    | refine Plan.extract rfl rfl rfl rfl rfl ?_
    | refine Plan.lenStr rfl rfl rfl rfl Try.underlying9 ?_)
  refine Plan.call (B := 0) (R := fun _ => takeRes b p) rfl rfl rfl (vlq_Take b p hp hb) Try.func30 rfl rfl (fun _ _ => Nat.zero_le _) (Opnds.cons rfl (Sub.refl _) (Opnds.cons rfl (Sub.refl _) Opnds.nil)) ?_
  repeat (first
    | refine Plan.move rfl rfl rfl rfl ?_
    | refine Plan.assign rfl rfl rfl rfl ?_
    | refine Plan.skip rfl rfl ?_
    | refine Plan.pick rfl rfl rfl rfl rfl ?_
    | refine Plan.ints rfl rfl rfl rfl rfl rfl ?_
    | refine Plan.shift rfl rfl rfl rfl rfl rfl ?_
    | refine Plan.un rfl rfl rfl rfl rfl ?_
    | refine Plan.extract rfl rfl rfl rfl rfl ?_
    | refine Plan.lenStr rfl rfl rfl rfl Try.underlying9 ?_)
  refine J.seq (J.seq (J.region mixed hI (by kernel_rfl) ?_))
  repeat (first
    | refine Plan.move rfl rfl rfl rfl ?_
    | refine Plan.assign rfl rfl rfl rfl ?_
    | refine Plan.skip rfl rfl ?_
    | refine Plan.pick rfl rfl rfl rfl rfl ?_
    | refine Plan.ints rfl rfl rfl rfl rfl rfl ?_
    | refine Plan.shift rfl rfl rfl rfl rfl rfl ?_
    | refine Plan.un rfl rfl rfl rfl rfl ?_
    | refine Plan.extract rfl rfl rfl rfl rfl ?_
    | refine Plan.lenStr rfl rfl rfl rfl Try.underlying9 ?_)
  refine J.cond rfl (fun h => ?_) (fun h => ?_)
  · have he : (vTake b p).2.2 ≠ 0 := by intro e; rw [e] at h; simp at h
    obtain ⟨e1, e2⟩ := hb5 he
    refine J.seq (J.region mixed hI (by kernel_rfl) ?_)
    refine Plan.move rfl rfl rfl rfl ?_
    refine Plan.ints rfl rfl rfl rfl rfl rfl ?_
    refine Plan.boolv (y := true) (by simp [e1]) ?_
    repeat (first
    | refine Plan.move rfl rfl rfl rfl ?_
    | refine Plan.assign rfl rfl rfl rfl ?_
    | refine Plan.skip rfl rfl ?_
    | refine Plan.pick rfl rfl rfl rfl rfl ?_
    | refine Plan.ints rfl rfl rfl rfl rfl rfl ?_
    | refine Plan.shift rfl rfl rfl rfl rfl rfl ?_
    | refine Plan.un rfl rfl rfl rfl rfl ?_
    | refine Plan.extract rfl rfl rfl rfl rfl ?_
    | refine Plan.lenStr rfl rfl rfl rfl Try.underlying9 ?_)
    refine Plan.boolv (y := true) (by simp [e2]) ?_
    repeat (first
    | refine Plan.move rfl rfl rfl rfl ?_
    | refine Plan.assign rfl rfl rfl rfl ?_
    | refine Plan.skip rfl rfl ?_
    | refine Plan.pick rfl rfl rfl rfl rfl ?_
    | refine Plan.ints rfl rfl rfl rfl rfl rfl ?_
    | refine Plan.shift rfl rfl rfl rfl rfl rfl ?_
    | refine Plan.un rfl rfl rfl rfl rfl ?_
    | refine Plan.extract rfl rfl rfl rfl rfl ?_
    | refine Plan.lenStr rfl rfl rfl rfl Try.underlying9 ?_)
    exact J.ret (Nrm.ret1 rfl (fun _ h => h) rfl fun B _ => Sub.refl _)
  have he : (vTake b p).2.2 = 0 := by
    by_cases hz : (vTake b p).2.2 = 0
    · exact hz
    · exact absurd h (by simp; omega)
  obtain ⟨e1, e2⟩ := hb4 he
  refine J.skip ?_
  refine J.seq (J.region mixed hI (by kernel_rfl) ?_)
  refine Plan.move rfl rfl rfl rfl ?_
  refine Plan.move rfl rfl rfl rfl ?_
  refine Plan.ints rfl rfl rfl rfl rfl rfl ?_
  refine Plan.boolv (y := true) (by simp; omega) ?_
  repeat (first
    | refine Plan.move rfl rfl rfl rfl ?_
    | refine Plan.assign rfl rfl rfl rfl ?_
    | refine Plan.skip rfl rfl ?_
    | refine Plan.pick rfl rfl rfl rfl rfl ?_
    | refine Plan.ints rfl rfl rfl rfl rfl rfl ?_
    | refine Plan.shift rfl rfl rfl rfl rfl rfl ?_
    | refine Plan.un rfl rfl rfl rfl rfl ?_
    | refine Plan.extract rfl rfl rfl rfl rfl ?_
    | refine Plan.lenStr rfl rfl rfl rfl Try.underlying9 ?_)
  refine Plan.boolv (y := true) (by simp; omega) ?_
  repeat (first
    | refine Plan.move rfl rfl rfl rfl ?_
    | refine Plan.assign rfl rfl rfl rfl ?_
    | refine Plan.skip rfl rfl ?_
    | refine Plan.pick rfl rfl rfl rfl rfl ?_
    | refine Plan.ints rfl rfl rfl rfl rfl rfl ?_
    | refine Plan.shift rfl rfl rfl rfl rfl rfl ?_
    | refine Plan.un rfl rfl rfl rfl rfl ?_
    | refine Plan.extract rfl rfl rfl rfl rfl ?_
    | refine Plan.lenStr rfl rfl rfl rfl Try.underlying9 ?_)
  refine Plan.call (B := 0) (R := fun B => ownB B ([] ++ num (vTake b p).1)) rfl rfl rfl (vlq_Put [] (vTake b p).1 hb1 (by decide)) Try.func19 rfl rfl (fun _ _ => Nat.zero_le _) (Opnds.cons rfl Sub.nilRow (Opnds.cons rfl (Sub.refl _) Opnds.nil)) ?_
  refine Plan.convBS (p := num (vTake b p).1) rfl rfl rfl rfl Sub.own Try.underlying23 Try.underlying9 Try.underlying5 ?_
  refine Plan.move rfl rfl rfl rfl ?_
  refine Plan.move rfl rfl rfl rfl ?_
  refine Plan.int (y := ((p.toNat : Nat) : Int)) (by omega) ?_
  refine Plan.move rfl rfl rfl rfl ?_
  refine Plan.sliceStr (a0 := p.toNat) (b0 := (vTake b p).2.1) rfl rfl rfl rfl Try.underlying9 (.inr ⟨_, _, rfl, rfl⟩) (.inr ⟨_, _, rfl, rfl⟩) (by omega) hb2 ?_
  refine Plan.strs rfl rfl rfl rfl rfl rfl ?_
  refine Plan.boolv (y := true) (by rw [vTake_one b p he]; simp) ?_
  repeat (first
    | refine Plan.move rfl rfl rfl rfl ?_
    | refine Plan.assign rfl rfl rfl rfl ?_
    | refine Plan.skip rfl rfl ?_
    | refine Plan.pick rfl rfl rfl rfl rfl ?_
    | refine Plan.ints rfl rfl rfl rfl rfl rfl ?_
    | refine Plan.shift rfl rfl rfl rfl rfl rfl ?_
    | refine Plan.un rfl rfl rfl rfl rfl ?_
    | refine Plan.extract rfl rfl rfl rfl rfl ?_
    | refine Plan.lenStr rfl rfl rfl rfl Try.underlying9 ?_)
  exact J.ret (Nrm.ret1 rfl (fun _ h => h) rfl fun B _ => Sub.refl _)

/-! ### The order -/
def digT (u : Nat) : Nat → List UInt8
  | 0 => []
  | 1 => [lastD u]
  | j + 2 => digit (u / 128 ^ (j + 1)) :: digT u (j + 1)
theorem emitT (u : Nat) : ∀ K, emit u K K ++ [lastD u] = digT u (K + 1)
  | 0 => rfl
  | K + 1 => by
    show _ = digit (u / 128 ^ (K + 1)) :: digT u (K + 1)
    rw [← emitT u K]
    unfold emit
    rw [List.range_succ_eq_map, List.map_cons, List.map_map]
    simp only [List.cons_append, Nat.sub_zero, List.cons.injEq, true_and]
    congr 1
    refine List.map_congr_left fun i hi => ?_
    simp only [Function.comp]
    congr 3; omega
theorem num_digT (u : Nat) : num u = digT u (ahead u + 1) := by rw [num_emit, emitT]
theorem less_cons (a b : UInt8) (x y : List UInt8) : Op.bytesLess (a :: x) (b :: y) = (decide (a < b) || (a == b && Op.bytesLess x y)) := by
  rw [Op.bytesLess]
theorem digT_less (u v : Nat) : ∀ j, u / 128 ^ (j + 1) = v / 128 ^ (j + 1) → Op.bytesLess (digT u (j + 1)) (digT v (j + 1)) = decide (u < v)
  | 0, h => by
    simp only [Nat.zero_add, Nat.pow_one] at h
    have h1 := lastD_nat u
    have h2 := lastD_nat v
    show Op.bytesLess [lastD u] [lastD v] = _
    rw [less_cons]
    have hn : Op.bytesLess [] [] = false := by rw [Op.bytesLess]
    rw [hn, Bool.and_false, Bool.or_false]
    congr 1
    rw [UInt8.lt_iff_toNat_lt, h1, h2]
    apply propext; omega
  | j + 1, h => by
    have h1 := digit_nat (u / 128 ^ (j + 1))
    have h2 := digit_nat (v / 128 ^ (j + 1))
    have hp : 0 < 128 ^ (j + 1) := Nat.pow_pos (by decide)
    have hq : u / 128 ^ (j + 1) / 128 = v / 128 ^ (j + 1) / 128 := by
      rw [Nat.div_div_eq_div_mul, Nat.div_div_eq_div_mul, ← Nat.pow_succ]; exact h
    show Op.bytesLess (digit (u / 128 ^ (j + 1)) :: digT u (j + 1)) (digit (v / 128 ^ (j + 1)) :: digT v (j + 1)) = _
    rw [less_cons]
    rcases Nat.lt_trichotomy (u / 128 ^ (j + 1)) (v / 128 ^ (j + 1)) with hlt | heq | hgt
    · have e1 : digit (u / 128 ^ (j + 1)) < digit (v / 128 ^ (j + 1)) := by rw [UInt8.lt_iff_toNat_lt, h1, h2]; omega
      have e2 : u < v := by
        rcases Nat.lt_or_ge u v with hh | hh
        · exact hh
        · have := Nat.div_le_div_right (c := 128 ^ (j + 1)) hh; omega
      simp [e1, e2]
    · rw [heq]
      have ih := digT_less u v j heq
      have e1 : ¬ digit (v / 128 ^ (j + 1)) < digit (v / 128 ^ (j + 1)) := by rw [UInt8.lt_iff_toNat_lt]; omega
      simp [ih]
    · have e1 : ¬ digit (u / 128 ^ (j + 1)) < digit (v / 128 ^ (j + 1)) := by rw [UInt8.lt_iff_toNat_lt, h1, h2]; omega
      have e3 : ¬ digit (u / 128 ^ (j + 1)) = digit (v / 128 ^ (j + 1)) := by
        intro e; rw [e] at h1; omega
      have e2 : ¬ u < v := by
        intro hh
        have := Nat.div_le_div_right (c := 128 ^ (j + 1)) (Nat.le_of_lt hh); omega
      simp [e1, e2, e3]
theorem num_less {u v : Nat} (h : ahead u = ahead v) : Op.bytesLess (num u) (num v) = decide (u < v) := by
  rw [num_digT, num_digT, h]
  refine digT_less u v (ahead v) ?_
  rw [Nat.div_eq_of_lt (ahead_lt v), Nat.div_eq_of_lt (by rw [← h]; exact ahead_lt u)]
theorem num_inj {u v : Nat} (hu : u < 2 ^ 64) (hv : v < 2 ^ 64) (h : num u = num v) : u = v := by
  have h1 := takeL_num u hu []
  rw [h, takeL_num v hv []] at h1
  exact (congrArg (·.1) h1).symm
theorem ahead_mono {u v : Nat} (h : u ≤ v) : ahead u ≤ ahead v := by
  rcases Nat.lt_or_ge (ahead v) (ahead u) with hh | hh
  · have h1 := ahead_le (u := u) (by omega)
    have h2 := ahead_lt v
    have : 128 ^ (ahead v + 1) ≤ 128 ^ ahead u := Nat.pow_le_pow_right (by decide) hh
    omega
  · exact hh
theorem ahead_strict {u v : Nat} (h : ahead u ≠ ahead v) : decide (((num u).length : Int) < (num v).length) = decide ((u : Int) < v) := by
  rw [num_length, num_length]
  congr 1
  apply propext
  rcases Nat.lt_or_ge u v with hh | hh
  · have := ahead_mono (Nat.le_of_lt hh); omega
  · have := ahead_mono hh; omega

theorem lawOrders (a b : Int) (ha : 0 ≤ a ∧ a ≤ 18446744073709551615) (hb : 0 ≤ b ∧ b ≤ 18446744073709551615) : Spc Try.prog 4 [.ex (.int .u64 a), .ex (.int .u64 b)] fun _ => .ex (.bool true) := by
  obtain ⟨u, rfl⟩ : ∃ u : Nat, a = u := ⟨a.toNat, by omega⟩
  obtain ⟨v, rfl⟩ : ∃ v : Nat, b = v := ⟨b.toNat, by omega⟩
  have hu : u < 2 ^ 64 := by omega
  have hv : v < 2 ^ 64 := by omega
  refine Spc.intro Try.func4 rfl (Nat.le_of_ble_eq_true rfl) fun w0 => ?_
  have hI := hIb w0
  refine J.seq (J.region mixed hI (by kernel_rfl) ?_)
  repeat (first
    | refine Plan.move rfl rfl rfl rfl ?_
    | refine Plan.assign rfl rfl rfl rfl ?_
    | refine Plan.skip rfl rfl ?_
    | refine Plan.pick rfl rfl rfl rfl rfl ?_
    | refine Plan.ints rfl rfl rfl rfl rfl rfl ?_
    | refine Plan.shift rfl rfl rfl rfl rfl rfl ?_
    | refine Plan.un rfl rfl rfl rfl rfl ?_
    | refine Plan.extract rfl rfl rfl rfl rfl ?_
    | refine Plan.lenStr rfl rfl rfl rfl Try.underlying9 ?_)
  refine J.seq (J.seq (J.region mixed hI (by kernel_rfl) ?_))
  refine Plan.call (B := 0) (R := fun _ => .ex (.bool true)) rfl rfl rfl awakeV_fn Try.func18 rfl rfl (fun _ _ => Nat.zero_le _) Opnds.nil ?_
  repeat (first
    | refine Plan.move rfl rfl rfl rfl ?_
    | refine Plan.assign rfl rfl rfl rfl ?_
    | refine Plan.skip rfl rfl ?_
    | refine Plan.pick rfl rfl rfl rfl rfl ?_
    | refine Plan.ints rfl rfl rfl rfl rfl rfl ?_
    | refine Plan.shift rfl rfl rfl rfl rfl rfl ?_
    | refine Plan.un rfl rfl rfl rfl rfl ?_
    | refine Plan.extract rfl rfl rfl rfl rfl ?_
    | refine Plan.lenStr rfl rfl rfl rfl Try.underlying9 ?_)
  refine J.cond rfl (fun h => by cases h) (fun _ => ?_)
  refine J.skip ?_
  refine J.seq (J.region mixed hI (by kernel_rfl) ?_)
  repeat (first
    | refine Plan.move rfl rfl rfl rfl ?_
    | refine Plan.assign rfl rfl rfl rfl ?_
    | refine Plan.skip rfl rfl ?_
    | refine Plan.pick rfl rfl rfl rfl rfl ?_
    | refine Plan.ints rfl rfl rfl rfl rfl rfl ?_
    | refine Plan.shift rfl rfl rfl rfl rfl rfl ?_
    | refine Plan.un rfl rfl rfl rfl rfl ?_
    | refine Plan.extract rfl rfl rfl rfl rfl ?_
    | refine Plan.lenStr rfl rfl rfl rfl Try.underlying9 ?_)
  refine Plan.call (B := 0) (R := fun B => ownB B ([] ++ num u)) rfl rfl rfl (vlq_Put [] u hu (by decide)) Try.func19 rfl rfl (fun _ _ => Nat.zero_le _) (Opnds.cons rfl Sub.nilRow (Opnds.cons rfl (Sub.refl _) Opnds.nil)) ?_
  refine Plan.convBS (p := num u) rfl rfl rfl rfl Sub.own Try.underlying23 Try.underlying9 Try.underlying5 ?_
  repeat (first
    | refine Plan.move rfl rfl rfl rfl ?_
    | refine Plan.assign rfl rfl rfl rfl ?_
    | refine Plan.skip rfl rfl ?_
    | refine Plan.pick rfl rfl rfl rfl rfl ?_
    | refine Plan.ints rfl rfl rfl rfl rfl rfl ?_
    | refine Plan.shift rfl rfl rfl rfl rfl rfl ?_
    | refine Plan.un rfl rfl rfl rfl rfl ?_
    | refine Plan.extract rfl rfl rfl rfl rfl ?_
    | refine Plan.lenStr rfl rfl rfl rfl Try.underlying9 ?_)
  refine Plan.call (B := 0) (R := fun B => ownB B ([] ++ num v)) rfl rfl rfl (vlq_Put [] v hv (by decide)) Try.func19 rfl rfl (fun _ _ => Nat.zero_le _) (Opnds.cons rfl Sub.nilRow (Opnds.cons rfl (Sub.refl _) Opnds.nil)) ?_
  refine Plan.convBS (p := num v) rfl rfl rfl rfl Sub.own Try.underlying23 Try.underlying9 Try.underlying5 ?_
  repeat (first
    | refine Plan.move rfl rfl rfl rfl ?_
    | refine Plan.assign rfl rfl rfl rfl ?_
    | refine Plan.skip rfl rfl ?_
    | refine Plan.pick rfl rfl rfl rfl rfl ?_
    | refine Plan.ints rfl rfl rfl rfl rfl rfl ?_
    | refine Plan.shift rfl rfl rfl rfl rfl rfl ?_
    | refine Plan.un rfl rfl rfl rfl rfl ?_
    | refine Plan.extract rfl rfl rfl rfl rfl ?_
    | refine Plan.lenStr rfl rfl rfl rfl Try.underlying9 ?_)
  refine J.seq (J.seq (J.region mixed hI (by kernel_rfl) ?_))
  repeat (first
    | refine Plan.move rfl rfl rfl rfl ?_
    | refine Plan.assign rfl rfl rfl rfl ?_
    | refine Plan.skip rfl rfl ?_
    | refine Plan.pick rfl rfl rfl rfl rfl ?_
    | refine Plan.ints rfl rfl rfl rfl rfl rfl ?_
    | refine Plan.shift rfl rfl rfl rfl rfl rfl ?_
    | refine Plan.un rfl rfl rfl rfl rfl ?_
    | refine Plan.extract rfl rfl rfl rfl rfl ?_
    | refine Plan.lenStr rfl rfl rfl rfl Try.underlying9 ?_)
  refine J.cond rfl (fun hc => ?_) (fun hc => ?_)
  · have hne : ahead u ≠ ahead v := by
      intro e
      rw [num_length, num_length, e] at hc; simp at hc
    refine J.seq (J.region mixed hI (by kernel_rfl) ?_)
    repeat (first
    | refine Plan.move rfl rfl rfl rfl ?_
    | refine Plan.assign rfl rfl rfl rfl ?_
    | refine Plan.skip rfl rfl ?_
    | refine Plan.pick rfl rfl rfl rfl rfl ?_
    | refine Plan.ints rfl rfl rfl rfl rfl rfl ?_
    | refine Plan.shift rfl rfl rfl rfl rfl rfl ?_
    | refine Plan.un rfl rfl rfl rfl rfl ?_
    | refine Plan.extract rfl rfl rfl rfl rfl ?_
    | refine Plan.lenStr rfl rfl rfl rfl Try.underlying9 ?_)
    refine Plan.bools rfl rfl rfl rfl rfl Try.underlying4 (.inl ⟨rfl, rfl⟩) ?_
    refine Plan.boolv (y := true) (by rw [ahead_strict hne]; simp) ?_
    repeat (first
    | refine Plan.move rfl rfl rfl rfl ?_
    | refine Plan.assign rfl rfl rfl rfl ?_
    | refine Plan.skip rfl rfl ?_
    | refine Plan.pick rfl rfl rfl rfl rfl ?_
    | refine Plan.ints rfl rfl rfl rfl rfl rfl ?_
    | refine Plan.shift rfl rfl rfl rfl rfl rfl ?_
    | refine Plan.un rfl rfl rfl rfl rfl ?_
    | refine Plan.extract rfl rfl rfl rfl rfl ?_
    | refine Plan.lenStr rfl rfl rfl rfl Try.underlying9 ?_)
    exact J.ret (Nrm.ret1 rfl (fun _ h => h) rfl fun B _ => Sub.refl _)
  · have heq : ahead u = ahead v := by
      by_cases e : ahead u = ahead v
      · exact e
      · refine absurd hc ?_
        rw [num_length, num_length]
        simp; omega
    refine J.skip ?_
    refine J.seq (J.region mixed hI (by kernel_rfl) ?_)
    refine Plan.move rfl rfl rfl rfl ?_
    refine Plan.move rfl rfl rfl rfl ?_
    refine Plan.strs rfl rfl rfl rfl rfl rfl ?_
    refine Plan.boolv (num_less heq) ?_
    repeat (first
    | refine Plan.move rfl rfl rfl rfl ?_
    | refine Plan.assign rfl rfl rfl rfl ?_
    | refine Plan.skip rfl rfl ?_
    | refine Plan.pick rfl rfl rfl rfl rfl ?_
    | refine Plan.ints rfl rfl rfl rfl rfl rfl ?_
    | refine Plan.shift rfl rfl rfl rfl rfl rfl ?_
    | refine Plan.un rfl rfl rfl rfl rfl ?_
    | refine Plan.extract rfl rfl rfl rfl rfl ?_
    | refine Plan.lenStr rfl rfl rfl rfl Try.underlying9 ?_)
    refine Plan.bools rfl rfl rfl rfl rfl Try.underlying4 (.inl ⟨rfl, rfl⟩) ?_
    refine Plan.boolv (y := true) (by simp) ?_
    repeat (first
    | refine Plan.move rfl rfl rfl rfl ?_
    | refine Plan.assign rfl rfl rfl rfl ?_
    | refine Plan.skip rfl rfl ?_
    | refine Plan.pick rfl rfl rfl rfl rfl ?_
    | refine Plan.ints rfl rfl rfl rfl rfl rfl ?_
    | refine Plan.shift rfl rfl rfl rfl rfl rfl ?_
    | refine Plan.un rfl rfl rfl rfl rfl ?_
    | refine Plan.extract rfl rfl rfl rfl rfl ?_
    | refine Plan.lenStr rfl rfl rfl rfl Try.underlying9 ?_)
    refine Plan.strs rfl rfl rfl rfl rfl rfl ?_
    refine Plan.boolv (y := decide (u = v)) (by
      by_cases e : u = v
      · simp [e]
      · have : ¬ num u = num v := fun h => e (num_inj hu hv h)
        simp [e, this]) ?_
    repeat (first
    | refine Plan.move rfl rfl rfl rfl ?_
    | refine Plan.assign rfl rfl rfl rfl ?_
    | refine Plan.skip rfl rfl ?_
    | refine Plan.pick rfl rfl rfl rfl rfl ?_
    | refine Plan.ints rfl rfl rfl rfl rfl rfl ?_
    | refine Plan.shift rfl rfl rfl rfl rfl rfl ?_
    | refine Plan.un rfl rfl rfl rfl rfl ?_
    | refine Plan.extract rfl rfl rfl rfl rfl ?_
    | refine Plan.lenStr rfl rfl rfl rfl Try.underlying9 ?_)
    refine Plan.bools rfl rfl rfl rfl rfl Try.underlying4 (.inl ⟨rfl, rfl⟩) ?_
    refine Plan.boolv (y := true) (by
      by_cases e : u = v
      · simp [e]
      · have : ¬ (u : Int) = v := by omega
        simp [e, this]) ?_
    repeat (first
    | refine Plan.move rfl rfl rfl rfl ?_
    | refine Plan.assign rfl rfl rfl rfl ?_
    | refine Plan.skip rfl rfl ?_
    | refine Plan.pick rfl rfl rfl rfl rfl ?_
    | refine Plan.ints rfl rfl rfl rfl rfl rfl ?_
    | refine Plan.shift rfl rfl rfl rfl rfl rfl ?_
    | refine Plan.un rfl rfl rfl rfl rfl ?_
    | refine Plan.extract rfl rfl rfl rfl rfl ?_
    | refine Plan.lenStr rfl rfl rfl rfl Try.underlying9 ?_)
    exact J.ret (Nrm.ret1 rfl (fun _ h => h) rfl fun B _ => Sub.refl _)
end Go.Proofs.Ytpfnclecageleaa
