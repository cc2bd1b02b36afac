/-
  Events: what operations of a kind use, and whether an operation can be.
-/
import Derived.Test.YtkhcjedlopiicaaEvFns
import Derived.Test.YtkhcjedlopiicaaFreeCell
set_option linter.unusedSimpArgs false
set_option linter.unusedVariables false
set_option maxRecDepth 20000
namespace Go.Proofs.Ytkhcjedlopiicaa
open Go.Free Go.RowKit Go.Proofs
set_option maxHeartbeats 4000000

def partsV (k : Int) : List Value := [.bool (decide (fieldP k)), .bool (decide (valueP k)), .bool (decide (numP k)), .bool (decide (refP k))]
theorem parts_of {k : Int} {b1 b2 b3 b4 : Bool} (h1 : b1 = decide (fieldP k)) (h2 : b2 = decide (valueP k)) (h3 : b3 = decide (numP k)) (h4 : b4 = decide (refP k)) : partsV k = [.bool b1, .bool b2, .bool b3, .bool b4] := by subst h1 h2 h3 h4; rfl
theorem uses_tup {k : Int} {vs : List Value} {b : Bool} (h1 : partsV k = vs) (h2 : b = decide (kindP k)) : Fa.tup [.ex (.agg (partsV k).toArray), .ex (.bool (decide (kindP k)))] = Fa.tup [.ex (.agg vs.toArray), .ex (.bool b)] := by rw [h1, h2]
theorem uses_fn (k : Int) : Spc Try.prog 100 [.ex (vi k)] fun _ => .tup [.ex (.agg (partsV k).toArray), .ex (.bool (decide (kindP k)))] := by
  refine Spc.intro Try.func100 rfl (Nat.le_of_ble_eq_true rfl) fun w0 => ?_
  have hI := hIb w0
  have hA := Own.below w0
  refine J.heap0 1000 (newB w0) ?_
  repeat (refine J.seq (J.region mixed hI (by kernel_rfl) ?_))
  refine Plan.allocC (key := 1000) (z := .agg #[.bool false, .bool false, .bool false, .bool false]) rfl rfl rfl (by intro _ e; cases e; decide) (by kernel_rfl) rfl hA fun β => ?_
  repeat' (first | refine Plan.move rfl rfl rfl rfl ?_ | refine Plan.assign rfl rfl rfl rfl ?_ | (refine Plan.ints rfl rfl rfl rfl rfl rfl ?_; (skip)) | refine J.seq (J.region mixed hI (by kernel_rfl) ?_) | refine J.region mixed hI (by kernel_rfl) ?_ | refine J.seq (J.seq (J.region mixed hI (by kernel_rfl) ?_)) | refine J.skip ?_ | refine J.block ?_ | refine Plan.build (cells := #[.bool false, .bool true, .bool false, .bool false]) rfl rfl (ps := [(1, _)]) rfl (Parts.cons rfl Parts.nil) (by kernel_rfl) ?_ | refine Plan.build (cells := #[.bool false, .bool false, .bool true, .bool false]) rfl rfl (ps := [(2, _)]) rfl (Parts.cons rfl Parts.nil) (by kernel_rfl) ?_ | refine Plan.build (cells := #[.bool true, .bool false, .bool false, .bool false]) rfl rfl (ps := [(0, _)]) rfl (Parts.cons rfl Parts.nil) (by kernel_rfl) ?_ | refine Plan.build (cells := #[.bool true, .bool true, .bool false, .bool false]) rfl rfl (ps := [(0, _), (1, _)]) rfl (Parts.cons rfl (Parts.cons rfl Parts.nil)) (by kernel_rfl) ?_ | refine Plan.build (cells := #[.bool true, .bool false, .bool true, .bool false]) rfl rfl (ps := [(0, _), (2, _)]) rfl (Parts.cons rfl (Parts.cons rfl Parts.nil)) (by kernel_rfl) ?_ | refine Plan.build (cells := #[.bool false, .bool true, .bool false, .bool true]) rfl rfl (ps := [(1, _), (3, _)]) rfl (Parts.cons rfl (Parts.cons rfl Parts.nil)) (by kernel_rfl) ?_ | refine Plan.build (cells := #[.bool false, .bool false, .bool false, .bool true]) rfl rfl (ps := [(3, _)]) rfl (Parts.cons rfl Parts.nil) (by kernel_rfl) ?_ | refine Plan.build (cells := #[.bool false, .bool false, .bool false, .bool false]) rfl rfl (ps := []) rfl Parts.nil (by kernel_rfl) ?_ | refine Plan.storeC (key := 1000) (q := 0) (off := 0) rfl rfl rfl rfl rfl rfl (by simp [Value.cells, Value.oneCell']) (by kernel_rfl) rfl hA rfl (obj_pat (Nat.le_of_ble_eq_true rfl)) ?_ | refine J.condD rfl (fun _ => ?_) (fun _ => ?_) | refine Plan.splitD (fun _ => ?_) (fun _ => ?_))
  all_goals refine J.ret (Nrm.retCT (key := 1000) (q := 0) rfl (fun _ h => h) rfl rfl rfl obj_whole Try.underlying142 rfl (by kernel_rfl) fun B _ => ⟨_, _, uses_tup (parts_of ?_ ?_ ?_ ?_) ?_, rfl, Sub.refl _⟩)
  all_goals first
    | refine (decide_eq_true ?_).symm
    | refine (decide_eq_false ?_).symm
    | refine beq_decide ?_
  all_goals ((try simp only [fieldP, valueP, numP, refP, kindP, addP, dotP, hasP, rightVP] at *); omega)
end Go.Proofs.Ytkhcjedlopiicaa
