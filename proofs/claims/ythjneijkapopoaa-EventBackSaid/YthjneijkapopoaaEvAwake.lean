/-
  The awake of the statements of events.
-/
import Derived.Test.YthjneijkapopoaaEvEnc
import Derived.Test.YthjneijkapopoaaEvRefRight
set_option linter.unusedSimpArgs false
set_option linter.unusedVariables false
set_option maxRecDepth 20000
namespace Go.Proofs.Ythjneijkapopoaa
open Go.Free Go.RowKit Go.Proofs
set_option maxHeartbeats 4000000

def evA : EvV := ⟨1, 1, 9, fun _ => 0, 1, [107], [], [118], 0, 0, 0⟩
theorem evA_ok : evA.okV := by refine ⟨?_, ?_, ?_, fun i _ => ?_, ?_, ?_, ?_, ?_, ?_, ?_, ?_⟩ <;> simp [evA, in64]
theorem rightV_zero : rightVP (fun _ => 0) := fun i _ => by simp
theorem evA_right : rightP evA := by
  refine ⟨by decide, by decide, by decide, rightV_zero, by decide, by decide, by decide⟩
theorem num_small {u : Nat} (h : u < 128) : num u = [UInt8.ofNat u] := by
  unfold num; rw [Nat.div_eq_of_lt h, numHi_zero, lastD, Nat.mod_eq_of_lt h]; rfl
theorem evA_enc : encB evA = [1, 1, 9, 0, 0, 0, 0, 0, 0, 0, 0, 0, 0, 0, 0, 0, 0, 0, 0, 1, 1, 107, 1, 118] := by
  simp [encB, encB4, encB3, encB2, encB1, fieldP, valueP, numP, refP, evA, nums, encNs, numI, txt, num_small]
theorem awakeE_fn : Spc Try.prog 18 [] fun _ => .ex (.bool true) := by
  refine Spc.intro Try.func18 rfl (Nat.le_of_ble_eq_true rfl) fun w0 => ?_
  have hI := hIb w0
  have hA := Own.below w0
  refine J.heap0 1000 (newB w0) ?_
  repeat (first | refine Plan.assign rfl rfl rfl rfl ?_ | refine J.seq (J.region mixed hI (by kernel_rfl) ?_))
  refine Plan.build (cells := #[vi 1, vi 1]) rfl rfl (ps := [(0, _), (1, _)]) rfl (Parts.cons rfl (Parts.cons rfl Parts.nil)) (by kernel_rfl) ?_
  refine Plan.build (cells := evA.op.toArray) rfl rfl (ps := [(0, _), (1, _), (3, _)]) rfl (Parts.cons rfl (Parts.cons rfl (Parts.cons rfl Parts.nil))) (by kernel_rfl) ?_
  refine Plan.build (cells := evA.enc.toArray) rfl rfl (ps := [(0, _), (1, _), (3, _)]) rfl (Parts.cons rfl (Parts.cons rfl (Parts.cons rfl Parts.nil))) (by kernel_rfl) ?_
  refine Plan.allocC (key := 1000) (z := .agg ev0.enc.toArray) rfl rfl rfl (by intro _ e; cases e; decide) (by kernel_rfl) rfl hA fun β => ?_
  refine Plan.storeC (key := 1000) (q := 0) (off := 0) rfl rfl rfl rfl rfl rfl (by simp [Value.cells, Value.oneCell', evA, EvV.enc, str]) (by show _ = some evA.enc.toArray.size; kernel_rfl) rfl hA rfl (obj_pat (Nat.le_of_ble_eq_true rfl)) ?_
  repeat (refine J.seq (J.region mixed hI (by kernel_rfl) ?_))
  refine Plan.loadAggC (key := 1000) (q := 0) (vs := evA.enc) rfl rfl rfl rfl rfl rfl obj_whole Try.underlying31 rfl (by rw [encE]; kernel_rfl) (by decide) ?_
  refine Plan.call (B := w0.heap.size) rfl rfl rfl (encode_yes evA evA_ok evA_right) Try.func19 rfl rfl (hBb w0) (by repeat (first | exact Opnds.nil | refine Opnds.cons rfl (by exact Sub.refl _) ?_)) ?_
  rw [evA_enc]
  repeat (first | refine Plan.move rfl rfl rfl rfl ?_ | refine Plan.assign rfl rfl rfl rfl ?_ | refine Plan.extract rfl rfl rfl rfl rfl ?_ | refine J.seq (J.region mixed hI (by kernel_rfl) ?_))
  refine Plan.loadAggC (key := 1000) (q := 0) (vs := evA.enc) rfl rfl rfl rfl rfl rfl obj_whole Try.underlying31 rfl (by rw [encE]; kernel_rfl) (by decide) ?_
  refine Plan.call (B := w0.heap.size) rfl rfl rfl (right_fn evA evA_ok) Try.func22 rfl rfl (hBb w0) (by repeat (first | exact Opnds.nil | refine Opnds.cons rfl (by exact Sub.refl _) ?_)) ?_
  refine Plan.boolv (y := true) (decide_eq_true evA_right) ?_
  repeat (first | refine Plan.move rfl rfl rfl rfl ?_ | refine Plan.pick rfl rfl rfl rfl rfl ?_ | (refine Plan.ints rfl rfl rfl rfl rfl rfl ?_; (skip)) | refine Plan.lenB rfl rfl rfl rfl (by first | exact Sub.refl _ | exact Sub.own) Try.underlying40 ?_)
  try refine Plan.boolv (y := true) rfl ?_
  repeat (fail)
  try refine Plan.boolv (y := true) rfl ?_
  repeat (fail)
  refine Plan.indexB (q := 2) rfl rfl rfl rfl Sub.own rfl eltB (by decide) ?_
  refine Plan.load rfl rfl rfl rfl (Sub.refl _) Try.underlying5 rfl ?_
  repeat (first | refine Plan.move rfl rfl rfl rfl ?_ | refine Plan.pick rfl rfl rfl rfl rfl ?_ | (refine Plan.ints rfl rfl rfl rfl rfl rfl ?_; (skip)))
  try refine Plan.boolv (y := true) rfl ?_
  repeat (fail)
  refine Plan.call (B := w0.heap.size) rfl rfl rfl (adds_fn 1) Try.func24 rfl rfl (hBb w0) (by repeat (first | exact Opnds.nil | refine Opnds.cons rfl (by exact Sub.refl _) ?_)) ?_
  try refine Plan.boolv (y := true) rfl ?_
  repeat (first | refine Plan.assign rfl rfl rfl rfl ?_ | refine Plan.pick rfl rfl rfl rfl rfl ?_)
  exact J.ret (Nrm.ret1 rfl (fun _ h => h) rfl fun B _ => Sub.refl _)
end Go.Proofs.Ythjneijkapopoaa
