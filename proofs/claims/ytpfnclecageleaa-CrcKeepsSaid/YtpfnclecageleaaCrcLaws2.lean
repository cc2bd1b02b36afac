/-
  The laws CrcBack and CrcChecks return true for every text.
-/
import Derived.Test.YtpfnclecageleaaCrcRef2
namespace Go.Proofs.Ytpfnclecageleaa
open Go.Free Go.RowKit Go.Proofs

theorem awake_fn : Spc Try.prog 16 [] fun _ => .ex (.bool true) := by
  refine Spc.intro Try.func16 rfl (Nat.le_of_ble_eq_true rfl) fun w0 => ?_
  have hI := hIb w0
  refine J.seq (J.region mixed hI (by kernel_rfl) ?_)
  repeat (first
    | refine Plan.move rfl rfl rfl rfl ?_
    | refine Plan.assign rfl rfl rfl rfl ?_
    | refine Plan.skip rfl rfl ?_
    | refine Plan.pick rfl rfl rfl rfl rfl ?_
    | refine Plan.ints rfl rfl rfl rfl rfl rfl ?_
    | refine Plan.shift rfl rfl rfl rfl rfl rfl ?_
    | refine Plan.un rfl rfl rfl rfl rfl ?_
    | refine Plan.extract rfl rfl rfl rfl rfl ?_
    | refine Plan.lenStr rfl rfl rfl rfl Try.underlying9 ?_)
  refine J.seq (J.region mixed hI (by kernel_rfl) ?_)
  refine Plan.lit (B := w0.heap.size) rfl rfl rfl eltB rfl (hBb w0) rfl (by simp [Value.cells]) (by decide) ?_
  refine Plan.convSame (l := [49, 50, 51, 52, 53, 54, 55, 56, 57]) rfl rfl rfl (by intro d hd; cases hd; decide) rfl (Sub.refl _) Try.underlying23 Try.underlying5 (by simp) (hGb w0) ?_
  refine Plan.call (B := w0.heap.size) rfl rfl rfl (crc_Of [49, 50, 51, 52, 53, 54, 55, 56, 57] (by decide)) Try.func17 rfl rfl (hBb w0) (Opnds.cons rfl (Sub.refl _) Opnds.nil) ?_
  repeat (first
    | refine Plan.move rfl rfl rfl rfl ?_
    | refine Plan.assign rfl rfl rfl rfl ?_
    | refine Plan.skip rfl rfl ?_
    | refine Plan.pick rfl rfl rfl rfl rfl ?_
    | refine Plan.ints rfl rfl rfl rfl rfl rfl ?_
    | refine Plan.shift rfl rfl rfl rfl rfl rfl ?_
    | refine Plan.un rfl rfl rfl rfl rfl ?_
    | refine Plan.extract rfl rfl rfl rfl rfl ?_
    | refine Plan.lenStr rfl rfl rfl rfl Try.underlying9 ?_)
  refine J.ret (Nrm.ret1 rfl (fun _ h => h) rfl fun B _ => Sub.of_eq ?_)
  kernel_rfl

theorem lawBack (b : List UInt8) (hb : b.length ≤ 9223372036854775807) : Spc Try.prog 8 [.ex (str b)] fun _ => .ex (.bool true) := by
  refine Spc.intro Try.func8 rfl (Nat.le_of_ble_eq_true rfl) fun w0 => ?_
  have hI := hIb w0
  refine J.seq (J.region mixed hI (by kernel_rfl) ?_)
  repeat (first
    | refine Plan.move rfl rfl rfl rfl ?_
    | refine Plan.assign rfl rfl rfl rfl ?_
    | refine Plan.skip rfl rfl ?_
    | refine Plan.pick rfl rfl rfl rfl rfl ?_
    | refine Plan.ints rfl rfl rfl rfl rfl rfl ?_
    | refine Plan.shift rfl rfl rfl rfl rfl rfl ?_
    | refine Plan.un rfl rfl rfl rfl rfl ?_
    | refine Plan.extract rfl rfl rfl rfl rfl ?_
    | refine Plan.lenStr rfl rfl rfl rfl Try.underlying9 ?_)
  refine J.seq (J.seq (J.region mixed hI (by kernel_rfl) ?_))
  refine Plan.call (B := 0) (R := fun _ => .ex (.bool true)) rfl rfl rfl awake_fn Try.func16 rfl rfl (fun _ _ => Nat.zero_le _) Opnds.nil ?_
  repeat (first
    | refine Plan.move rfl rfl rfl rfl ?_
    | refine Plan.assign rfl rfl rfl rfl ?_
    | refine Plan.skip rfl rfl ?_
    | refine Plan.pick rfl rfl rfl rfl rfl ?_
    | refine Plan.ints rfl rfl rfl rfl rfl rfl ?_
    | refine Plan.shift rfl rfl rfl rfl rfl rfl ?_
    | refine Plan.un rfl rfl rfl rfl rfl ?_
    | refine Plan.extract rfl rfl rfl rfl rfl ?_
    | refine Plan.lenStr rfl rfl rfl rfl Try.underlying9 ?_)
  refine J.cond rfl (fun hc => ?_) (fun hc => ?_)
  · refine J.seq (J.region mixed hI (by kernel_rfl) ?_)
    refine Plan.call (B := 0) (R := fun _ => .ex (.bool true)) rfl rfl rfl awake_fn Try.func16 rfl rfl (fun _ _ => Nat.zero_le _) Opnds.nil ?_
    repeat (first
    | refine Plan.move rfl rfl rfl rfl ?_
    | refine Plan.assign rfl rfl rfl rfl ?_
    | refine Plan.skip rfl rfl ?_
    | refine Plan.pick rfl rfl rfl rfl rfl ?_
    | refine Plan.ints rfl rfl rfl rfl rfl rfl ?_
    | refine Plan.shift rfl rfl rfl rfl rfl rfl ?_
    | refine Plan.un rfl rfl rfl rfl rfl ?_
    | refine Plan.extract rfl rfl rfl rfl rfl ?_
    | refine Plan.lenStr rfl rfl rfl rfl Try.underlying9 ?_)
    exact J.ret (Nrm.ret1 rfl (fun _ h => h) rfl fun B _ => Sub.refl _)
  have hle : b.length ≤ 5000 := by have : ¬ (5000 : Int) < b.length := by simpa using hc
                                   omega
  refine J.skip ?_
  refine J.seq (J.region mixed hI (by kernel_rfl) ?_)
  repeat (first
    | refine Plan.move rfl rfl rfl rfl ?_
    | refine Plan.assign rfl rfl rfl rfl ?_
    | refine Plan.skip rfl rfl ?_
    | refine Plan.pick rfl rfl rfl rfl rfl ?_
    | refine Plan.ints rfl rfl rfl rfl rfl rfl ?_
    | refine Plan.shift rfl rfl rfl rfl rfl rfl ?_
    | refine Plan.un rfl rfl rfl rfl rfl ?_
    | refine Plan.extract rfl rfl rfl rfl rfl ?_
    | refine Plan.lenStr rfl rfl rfl rfl Try.underlying9 ?_)
  refine Plan.convSB rfl rfl rfl rfl Try.underlying9 Try.underlying23 Try.underlying5 (by omega) ?_
  refine Plan.call (B := w0.heap.size) rfl rfl rfl (crc_Seal b (by omega)) Try.func28 rfl rfl (hBb w0) (Opnds.cons rfl (Sub.refl _) Opnds.nil) ?_
  refine Plan.call (B := w0.heap.size) rfl rfl rfl (crc_Open (crcSeal b) (by simp [crcSeal]; omega)) Try.func25 rfl rfl (hBb w0) (Opnds.cons rfl Sub.own Opnds.nil) ?_
  repeat (first
    | refine Plan.move rfl rfl rfl rfl ?_
    | refine Plan.assign rfl rfl rfl rfl ?_
    | refine Plan.skip rfl rfl ?_
    | refine Plan.pick rfl rfl rfl rfl rfl ?_
    | refine Plan.ints rfl rfl rfl rfl rfl rfl ?_
    | refine Plan.shift rfl rfl rfl rfl rfl rfl ?_
    | refine Plan.un rfl rfl rfl rfl rfl ?_
    | refine Plan.extract rfl rfl rfl rfl rfl ?_
    | refine Plan.lenStr rfl rfl rfl rfl Try.underlying9 ?_)
  refine J.seq (J.region mixed hI (by kernel_rfl) ?_)
  simp only [crc_Back_open, Option.getD_some, Option.isSome_some]
  repeat (first
    | refine Plan.move rfl rfl rfl rfl ?_
    | refine Plan.assign rfl rfl rfl rfl ?_
    | refine Plan.skip rfl rfl ?_
    | refine Plan.pick rfl rfl rfl rfl rfl ?_
    | refine Plan.ints rfl rfl rfl rfl rfl rfl ?_
    | refine Plan.shift rfl rfl rfl rfl rfl rfl ?_
    | refine Plan.un rfl rfl rfl rfl rfl ?_
    | refine Plan.extract rfl rfl rfl rfl rfl ?_
    | refine Plan.lenStr rfl rfl rfl rfl Try.underlying9 ?_)
  refine Plan.convBS (p := b) rfl rfl rfl rfl Sub.own Try.underlying23 Try.underlying9 Try.underlying5 ?_
  repeat (first
    | refine Plan.move rfl rfl rfl rfl ?_
    | refine Plan.assign rfl rfl rfl rfl ?_
    | refine Plan.skip rfl rfl ?_
    | refine Plan.pick rfl rfl rfl rfl rfl ?_
    | refine Plan.ints rfl rfl rfl rfl rfl rfl ?_
    | refine Plan.shift rfl rfl rfl rfl rfl rfl ?_
    | refine Plan.un rfl rfl rfl rfl rfl ?_
    | refine Plan.extract rfl rfl rfl rfl rfl ?_
    | refine Plan.lenStr rfl rfl rfl rfl Try.underlying9 ?_)
  refine Plan.strs rfl rfl rfl rfl rfl rfl ?_
  refine Plan.boolv (y := true) (by simp) ?_
  repeat (first
    | refine Plan.move rfl rfl rfl rfl ?_
    | refine Plan.assign rfl rfl rfl rfl ?_
    | refine Plan.skip rfl rfl ?_
    | refine Plan.pick rfl rfl rfl rfl rfl ?_
    | refine Plan.ints rfl rfl rfl rfl rfl rfl ?_
    | refine Plan.shift rfl rfl rfl rfl rfl rfl ?_
    | refine Plan.un rfl rfl rfl rfl rfl ?_
    | refine Plan.extract rfl rfl rfl rfl rfl ?_
    | refine Plan.lenStr rfl rfl rfl rfl Try.underlying9 ?_)
  exact J.ret (Nrm.ret1 rfl (fun _ h => h) rfl fun B _ => Sub.refl _)

theorem lawChecks (b : List UInt8) (hb : b.length ≤ 9223372036854775807) : Spc Try.prog 7 [.ex (str b)] fun _ => .ex (.bool true) := by
  refine Spc.intro Try.func7 rfl (Nat.le_of_ble_eq_true rfl) fun w0 => ?_
  have hI := hIb w0
  have hcr := (crcOf b).isLt
  refine J.seq (J.region mixed hI (by kernel_rfl) ?_)
  repeat (first
    | refine Plan.move rfl rfl rfl rfl ?_
    | refine Plan.assign rfl rfl rfl rfl ?_
    | refine Plan.skip rfl rfl ?_
    | refine Plan.pick rfl rfl rfl rfl rfl ?_
    | refine Plan.ints rfl rfl rfl rfl rfl rfl ?_
    | refine Plan.shift rfl rfl rfl rfl rfl rfl ?_
    | refine Plan.un rfl rfl rfl rfl rfl ?_
    | refine Plan.extract rfl rfl rfl rfl rfl ?_
    | refine Plan.lenStr rfl rfl rfl rfl Try.underlying9 ?_)
  refine J.seq (J.seq (J.region mixed hI (by kernel_rfl) ?_))
  refine Plan.call (B := 0) (R := fun _ => .ex (.bool true)) rfl rfl rfl awake_fn Try.func16 rfl rfl (fun _ _ => Nat.zero_le _) Opnds.nil ?_
  repeat (first
    | refine Plan.move rfl rfl rfl rfl ?_
    | refine Plan.assign rfl rfl rfl rfl ?_
    | refine Plan.skip rfl rfl ?_
    | refine Plan.pick rfl rfl rfl rfl rfl ?_
    | refine Plan.ints rfl rfl rfl rfl rfl rfl ?_
    | refine Plan.shift rfl rfl rfl rfl rfl rfl ?_
    | refine Plan.un rfl rfl rfl rfl rfl ?_
    | refine Plan.extract rfl rfl rfl rfl rfl ?_
    | refine Plan.lenStr rfl rfl rfl rfl Try.underlying9 ?_)
  refine J.cond rfl (fun hc => ?_) (fun hc => ?_)
  · refine J.seq (J.region mixed hI (by kernel_rfl) ?_)
    refine Plan.call (B := 0) (R := fun _ => .ex (.bool true)) rfl rfl rfl awake_fn Try.func16 rfl rfl (fun _ _ => Nat.zero_le _) Opnds.nil ?_
    repeat (first
    | refine Plan.move rfl rfl rfl rfl ?_
    | refine Plan.assign rfl rfl rfl rfl ?_
    | refine Plan.skip rfl rfl ?_
    | refine Plan.pick rfl rfl rfl rfl rfl ?_
    | refine Plan.ints rfl rfl rfl rfl rfl rfl ?_
    | refine Plan.shift rfl rfl rfl rfl rfl rfl ?_
    | refine Plan.un rfl rfl rfl rfl rfl ?_
    | refine Plan.extract rfl rfl rfl rfl rfl ?_
    | refine Plan.lenStr rfl rfl rfl rfl Try.underlying9 ?_)
    exact J.ret (Nrm.ret1 rfl (fun _ h => h) rfl fun B _ => Sub.refl _)
  have hle : b.length ≤ 5000 := by have : ¬ (5000 : Int) < b.length := by simpa using hc
                                   omega
  refine J.skip ?_
  refine J.seq (J.region mixed hI (by kernel_rfl) ?_)
  repeat (first
    | refine Plan.move rfl rfl rfl rfl ?_
    | refine Plan.assign rfl rfl rfl rfl ?_
    | refine Plan.skip rfl rfl ?_
    | refine Plan.pick rfl rfl rfl rfl rfl ?_
    | refine Plan.ints rfl rfl rfl rfl rfl rfl ?_
    | refine Plan.shift rfl rfl rfl rfl rfl rfl ?_
    | refine Plan.un rfl rfl rfl rfl rfl ?_
    | refine Plan.extract rfl rfl rfl rfl rfl ?_
    | refine Plan.lenStr rfl rfl rfl rfl Try.underlying9 ?_)
  refine Plan.convSB rfl rfl rfl rfl Try.underlying9 Try.underlying23 Try.underlying5 (by omega) ?_
  refine Plan.call (B := w0.heap.size) rfl rfl rfl (crc_Open b (by omega)) Try.func25 rfl rfl (hBb w0) (Opnds.cons rfl (Sub.refl _) Opnds.nil) ?_
  repeat (first
    | refine Plan.move rfl rfl rfl rfl ?_
    | refine Plan.assign rfl rfl rfl rfl ?_
    | refine Plan.skip rfl rfl ?_
    | refine Plan.pick rfl rfl rfl rfl rfl ?_
    | refine Plan.ints rfl rfl rfl rfl rfl rfl ?_
    | refine Plan.shift rfl rfl rfl rfl rfl rfl ?_
    | refine Plan.un rfl rfl rfl rfl rfl ?_
    | refine Plan.extract rfl rfl rfl rfl rfl ?_
    | refine Plan.lenStr rfl rfl rfl rfl Try.underlying9 ?_)
  refine J.seq (J.region mixed hI (by kernel_rfl) ?_)
  repeat (first
    | refine Plan.move rfl rfl rfl rfl ?_
    | refine Plan.assign rfl rfl rfl rfl ?_
    | refine Plan.skip rfl rfl ?_
    | refine Plan.pick rfl rfl rfl rfl rfl ?_
    | refine Plan.ints rfl rfl rfl rfl rfl rfl ?_
    | refine Plan.shift rfl rfl rfl rfl rfl rfl ?_
    | refine Plan.un rfl rfl rfl rfl rfl ?_
    | refine Plan.extract rfl rfl rfl rfl rfl ?_
    | refine Plan.lenStr rfl rfl rfl rfl Try.underlying9 ?_)
  refine Plan.call (B := 0) (R := fun _ => .tup [.ex (str ((crcOpen b).getD [])), .ex (.bool (crcOpen b).isSome)]) rfl rfl rfl (ref_Open b (by omega)) Try.func26 rfl rfl (fun _ _ => Nat.zero_le _) (Opnds.cons rfl (Sub.refl _) Opnds.nil) ?_
  repeat (first
    | refine Plan.move rfl rfl rfl rfl ?_
    | refine Plan.assign rfl rfl rfl rfl ?_
    | refine Plan.skip rfl rfl ?_
    | refine Plan.pick rfl rfl rfl rfl rfl ?_
    | refine Plan.ints rfl rfl rfl rfl rfl rfl ?_
    | refine Plan.shift rfl rfl rfl rfl rfl rfl ?_
    | refine Plan.un rfl rfl rfl rfl rfl ?_
    | refine Plan.extract rfl rfl rfl rfl rfl ?_
    | refine Plan.lenStr rfl rfl rfl rfl Try.underlying9 ?_)
  refine J.seq (J.region mixed hI (by kernel_rfl) ?_)
  repeat (first
    | refine Plan.move rfl rfl rfl rfl ?_
    | refine Plan.assign rfl rfl rfl rfl ?_
    | refine Plan.skip rfl rfl ?_
    | refine Plan.pick rfl rfl rfl rfl rfl ?_
    | refine Plan.ints rfl rfl rfl rfl rfl rfl ?_
    | refine Plan.shift rfl rfl rfl rfl rfl rfl ?_
    | refine Plan.un rfl rfl rfl rfl rfl ?_
    | refine Plan.extract rfl rfl rfl rfl rfl ?_
    | refine Plan.lenStr rfl rfl rfl rfl Try.underlying9 ?_)
  refine Plan.convSB rfl rfl rfl rfl Try.underlying9 Try.underlying23 Try.underlying5 (by omega) ?_
  refine Plan.call (B := 0) (R := fun _ => .ex (.int .u16 (crcOf b).toNat)) rfl rfl rfl (crc_Of b (by omega)) Try.func17 rfl rfl (fun _ _ => Nat.zero_le _) (Opnds.cons rfl (Sub.refl _) Opnds.nil) ?_
  refine Plan.convInt rfl rfl rfl rfl Try.underlying24 Try.underlying3 ?_
  refine Plan.int (i64r (by omega)) ?_
  repeat (first
    | refine Plan.move rfl rfl rfl rfl ?_
    | refine Plan.assign rfl rfl rfl rfl ?_
    | refine Plan.skip rfl rfl ?_
    | refine Plan.pick rfl rfl rfl rfl rfl ?_
    | refine Plan.ints rfl rfl rfl rfl rfl rfl ?_
    | refine Plan.shift rfl rfl rfl rfl rfl rfl ?_
    | refine Plan.un rfl rfl rfl rfl rfl ?_
    | refine Plan.extract rfl rfl rfl rfl rfl ?_
    | refine Plan.lenStr rfl rfl rfl rfl Try.underlying9 ?_)
  refine Plan.call (B := 0) (R := fun _ => .ex (.int .i64 (crcOf b).toNat)) rfl rfl rfl (ref_Of b (by omega)) Try.func27 rfl rfl (fun _ _ => Nat.zero_le _) (Opnds.cons rfl (Sub.refl _) Opnds.nil) ?_
  refine Plan.ints rfl rfl rfl rfl rfl rfl ?_
  refine Plan.boolv (y := true) (by simp) ?_
  repeat (first
    | refine Plan.move rfl rfl rfl rfl ?_
    | refine Plan.assign rfl rfl rfl rfl ?_
    | refine Plan.skip rfl rfl ?_
    | refine Plan.pick rfl rfl rfl rfl rfl ?_
    | refine Plan.ints rfl rfl rfl rfl rfl rfl ?_
    | refine Plan.shift rfl rfl rfl rfl rfl rfl ?_
    | refine Plan.un rfl rfl rfl rfl rfl ?_
    | refine Plan.extract rfl rfl rfl rfl rfl ?_
    | refine Plan.lenStr rfl rfl rfl rfl Try.underlying9 ?_)
  refine Plan.convSB rfl rfl rfl rfl Try.underlying9 Try.underlying23 Try.underlying5 (by omega) ?_
  refine Plan.call (B := w0.heap.size) rfl rfl rfl (crc_Seal b (by omega)) Try.func28 rfl rfl (hBb w0) (Opnds.cons rfl (Sub.refl _) Opnds.nil) ?_
  refine Plan.convBS (p := crcSeal b) rfl rfl rfl rfl Sub.own Try.underlying23 Try.underlying9 Try.underlying5 ?_
  repeat (first
    | refine Plan.move rfl rfl rfl rfl ?_
    | refine Plan.assign rfl rfl rfl rfl ?_
    | refine Plan.skip rfl rfl ?_
    | refine Plan.pick rfl rfl rfl rfl rfl ?_
    | refine Plan.ints rfl rfl rfl rfl rfl rfl ?_
    | refine Plan.shift rfl rfl rfl rfl rfl rfl ?_
    | refine Plan.un rfl rfl rfl rfl rfl ?_
    | refine Plan.extract rfl rfl rfl rfl rfl ?_
    | refine Plan.lenStr rfl rfl rfl rfl Try.underlying9 ?_)
  refine Plan.call (B := 0) (R := fun _ => .ex (str (crcSeal b))) rfl rfl rfl (ref_Seal b (by omega)) Try.func29 rfl rfl (fun _ _ => Nat.zero_le _) (Opnds.cons rfl (Sub.refl _) Opnds.nil) ?_
  refine Plan.strs rfl rfl rfl rfl rfl rfl ?_
  refine Plan.boolv (y := true) (by simp) ?_
  repeat (first
    | refine Plan.move rfl rfl rfl rfl ?_
    | refine Plan.assign rfl rfl rfl rfl ?_
    | refine Plan.skip rfl rfl ?_
    | refine Plan.pick rfl rfl rfl rfl rfl ?_
    | refine Plan.ints rfl rfl rfl rfl rfl rfl ?_
    | refine Plan.shift rfl rfl rfl rfl rfl rfl ?_
    | refine Plan.un rfl rfl rfl rfl rfl ?_
    | refine Plan.extract rfl rfl rfl rfl rfl ?_
    | refine Plan.lenStr rfl rfl rfl rfl Try.underlying9 ?_)
  refine Plan.convBS (p := (crcOpen b).getD []) rfl rfl rfl rfl Sub.own Try.underlying23 Try.underlying9 Try.underlying5 ?_
  repeat (first
    | refine Plan.move rfl rfl rfl rfl ?_
    | refine Plan.assign rfl rfl rfl rfl ?_
    | refine Plan.skip rfl rfl ?_
    | refine Plan.pick rfl rfl rfl rfl rfl ?_
    | refine Plan.ints rfl rfl rfl rfl rfl rfl ?_
    | refine Plan.shift rfl rfl rfl rfl rfl rfl ?_
    | refine Plan.un rfl rfl rfl rfl rfl ?_
    | refine Plan.extract rfl rfl rfl rfl rfl ?_
    | refine Plan.lenStr rfl rfl rfl rfl Try.underlying9 ?_)
  refine Plan.strs rfl rfl rfl rfl rfl rfl ?_
  refine Plan.boolv (y := true) (by simp) ?_
  repeat (first
    | refine Plan.move rfl rfl rfl rfl ?_
    | refine Plan.assign rfl rfl rfl rfl ?_
    | refine Plan.skip rfl rfl ?_
    | refine Plan.pick rfl rfl rfl rfl rfl ?_
    | refine Plan.ints rfl rfl rfl rfl rfl rfl ?_
    | refine Plan.shift rfl rfl rfl rfl rfl rfl ?_
    | refine Plan.un rfl rfl rfl rfl rfl ?_
    | refine Plan.extract rfl rfl rfl rfl rfl ?_
    | refine Plan.lenStr rfl rfl rfl rfl Try.underlying9 ?_)
  refine Plan.bools rfl rfl rfl rfl rfl Try.underlying4 (.inl ⟨rfl, rfl⟩) ?_
  refine Plan.boolv (y := true) (by simp) ?_
  repeat (first
    | refine Plan.move rfl rfl rfl rfl ?_
    | refine Plan.assign rfl rfl rfl rfl ?_
    | refine Plan.skip rfl rfl ?_
    | refine Plan.pick rfl rfl rfl rfl rfl ?_
    | refine Plan.ints rfl rfl rfl rfl rfl rfl ?_
    | refine Plan.shift rfl rfl rfl rfl rfl rfl ?_
    | refine Plan.un rfl rfl rfl rfl rfl ?_
    | refine Plan.extract rfl rfl rfl rfl rfl ?_
    | refine Plan.lenStr rfl rfl rfl rfl Try.underlying9 ?_)
  exact J.ret (Nrm.ret1 rfl (fun _ h => h) rfl fun B _ => Sub.refl _)
end Go.Proofs.Ytpfnclecageleaa
