/-
  Events: dots, vectors, kinds: the program's functions and the document's.
-/
import Derived.Test.YtkhcjedlopiicaaEvBase
import Derived.Test.YtkhcjedlopiicaaFreeTree
set_option linter.unusedSimpArgs false
set_option linter.unusedVariables false
set_option maxRecDepth 20000
namespace Go.Proofs.Ytkhcjedlopiicaa
open Go.Free Go.RowKit Go.Proofs
set_option maxHeartbeats 4000000

def vList (d : Nat → Int) : List Value := [vi (d 0), vi (d 1), vi (d 2), vi (d 3), vi (d 4), vi (d 5), vi (d 6), vi (d 7), vi (d 8), vi (d 9), vi (d 10), vi (d 11), vi (d 12), vi (d 13), vi (d 14), vi (d 15)]
abbrev aggV (d : Nat → Int) : Value := .agg (vList d).toArray
abbrev aggD (r n : Int) : Value := .agg [vi r, vi n].toArray
def EvV.op (e : EvV) : List Value := [vi e.kind, str e.key, str e.field, str e.value, vi e.num, vi e.rr, vi e.rn]
abbrev aggO (e : EvV) : Value := .agg e.op.toArray
theorem vList_get (d : Nat → Int) : ∀ {i : Nat}, i < 16 → (vList d)[i]? = some (vi (d i))
  | 0, _ => rfl | 1, _ => rfl | 2, _ => rfl | 3, _ => rfl | 4, _ => rfl | 5, _ => rfl | 6, _ => rfl | 7, _ => rfl | 8, _ => rfl | 9, _ => rfl | 10, _ => rfl | 11, _ => rfl | 12, _ => rfl | 13, _ => rfl | 14, _ => rfl | 15, _ => rfl
  | _ + 16, h => absurd h (by omega)
theorem enc_d (e : EvV) {i : Nat} (h : i < 16) : e.enc[3 + i]? = some (vi (e.d i)) := by
  have : e.enc = [vi e.r, vi e.n, vi e.time] ++ (vList e.d ++ e.op) := rfl
  rw [this, List.getElem?_append_right (by simp), show 3 + i - [vi e.r, vi e.n, vi e.time].length = i by simp, List.getElem?_append_left (by simp [vList]; omega)]
  exact vList_get e.d h
def fieldP (k : Int) : Prop := 3 ≤ k ∧ k ≤ 8
def valueP (k : Int) : Prop := k = 1 ∨ k = 5 ∨ k = 9
def numP (k : Int) : Prop := k = 2 ∨ k = 7
def refP (k : Int) : Prop := k = 9 ∨ k = 10
def kindP (k : Int) : Prop := 1 ≤ k ∧ k ≤ 11
def addP (k : Int) : Prop := k = 1 ∨ k = 2 ∨ k = 3 ∨ k = 5 ∨ k = 7 ∨ k = 9
def dotP (r n : Int) : Prop := 0 ≤ r ∧ r < 16 ∧ 1 ≤ n ∧ n ≤ 1048576
def hasP (d : Nat → Int) (r n : Int) : Prop := dotP r n ∧ n ≤ d r.toNat
def rightVP (d : Nat → Int) : Prop := ∀ i, i < 16 → 0 ≤ d i ∧ d i ≤ 1048576
instance (k : Int) : Decidable (fieldP k) := by unfold fieldP; infer_instance
instance (k : Int) : Decidable (valueP k) := by unfold valueP; infer_instance
instance (k : Int) : Decidable (numP k) := by unfold numP; infer_instance
instance (k : Int) : Decidable (refP k) := by unfold refP; infer_instance
instance (k : Int) : Decidable (kindP k) := by unfold kindP; infer_instance
instance (k : Int) : Decidable (addP k) := by unfold addP; infer_instance
instance (r n : Int) : Decidable (dotP r n) := by unfold dotP; infer_instance
instance (d : Nat → Int) (r n : Int) : Decidable (hasP d r n) := by unfold hasP; infer_instance
instance (d : Nat → Int) : Decidable (rightVP d) := by unfold rightVP; infer_instance

theorem refField_fn (k : Int) : Spc Try.prog 90 [.ex (vi k)] fun _ => .ex (.bool (decide (fieldP k))) := by
  refine Spc.intro Try.func90 rfl (Nat.le_of_ble_eq_true rfl) fun w0 => ?_
  have hI := hIb w0
  have hA := Own.below w0
  repeat' (first | refine Plan.move rfl rfl rfl rfl ?_ | refine Plan.assign rfl rfl rfl rfl ?_ | refine Plan.skip rfl rfl ?_ | refine Plan.pick rfl rfl rfl rfl rfl ?_ | (refine Plan.ints rfl rfl rfl rfl rfl rfl ?_; (skip)) | refine J.seq (J.region mixed hI (by kernel_rfl) ?_) | refine Plan.splitD (fun _ => ?_) (fun _ => ?_))
  all_goals exact J.ret (Nrm.ret1 rfl (fun _ h => h) rfl fun B _ => Sub.of_eq (congrArg (fun b => Fa.ex (.bool b)) (by
    first
    | refine (decide_eq_true ?_).symm
    | refine (decide_eq_false ?_).symm
    | refine decide_eq_decide.2 ?_
    | refine beq_decide ?_
    | refine bne_decide ?_
    all_goals ((try simp only [fieldP, valueP, numP, refP, kindP, addP, dotP, hasP, rightVP] at *); omega))))
theorem refValue_fn (k : Int) : Spc Try.prog 91 [.ex (vi k)] fun _ => .ex (.bool (decide (valueP k))) := by
  refine Spc.intro Try.func91 rfl (Nat.le_of_ble_eq_true rfl) fun w0 => ?_
  have hI := hIb w0
  have hA := Own.below w0
  repeat' (first | refine Plan.move rfl rfl rfl rfl ?_ | refine Plan.assign rfl rfl rfl rfl ?_ | refine Plan.skip rfl rfl ?_ | refine Plan.pick rfl rfl rfl rfl rfl ?_ | (refine Plan.ints rfl rfl rfl rfl rfl rfl ?_; (skip)) | refine J.seq (J.region mixed hI (by kernel_rfl) ?_) | refine Plan.splitD (fun _ => ?_) (fun _ => ?_))
  all_goals exact J.ret (Nrm.ret1 rfl (fun _ h => h) rfl fun B _ => Sub.of_eq (congrArg (fun b => Fa.ex (.bool b)) (by
    first
    | refine (decide_eq_true ?_).symm
    | refine (decide_eq_false ?_).symm
    | refine decide_eq_decide.2 ?_
    | refine beq_decide ?_
    | refine bne_decide ?_
    all_goals ((try simp only [fieldP, valueP, numP, refP, kindP, addP, dotP, hasP, rightVP] at *); omega))))
theorem refNum_fn (k : Int) : Spc Try.prog 92 [.ex (vi k)] fun _ => .ex (.bool (decide (numP k))) := by
  refine Spc.intro Try.func92 rfl (Nat.le_of_ble_eq_true rfl) fun w0 => ?_
  have hI := hIb w0
  have hA := Own.below w0
  repeat' (first | refine Plan.move rfl rfl rfl rfl ?_ | refine Plan.assign rfl rfl rfl rfl ?_ | refine Plan.skip rfl rfl ?_ | refine Plan.pick rfl rfl rfl rfl rfl ?_ | (refine Plan.ints rfl rfl rfl rfl rfl rfl ?_; (skip)) | refine J.seq (J.region mixed hI (by kernel_rfl) ?_) | refine Plan.splitD (fun _ => ?_) (fun _ => ?_))
  all_goals exact J.ret (Nrm.ret1 rfl (fun _ h => h) rfl fun B _ => Sub.of_eq (congrArg (fun b => Fa.ex (.bool b)) (by
    first
    | refine (decide_eq_true ?_).symm
    | refine (decide_eq_false ?_).symm
    | refine decide_eq_decide.2 ?_
    | refine beq_decide ?_
    | refine bne_decide ?_
    all_goals ((try simp only [fieldP, valueP, numP, refP, kindP, addP, dotP, hasP, rightVP] at *); omega))))
theorem refRef_fn (k : Int) : Spc Try.prog 93 [.ex (vi k)] fun _ => .ex (.bool (decide (refP k))) := by
  refine Spc.intro Try.func93 rfl (Nat.le_of_ble_eq_true rfl) fun w0 => ?_
  have hI := hIb w0
  have hA := Own.below w0
  repeat' (first | refine Plan.move rfl rfl rfl rfl ?_ | refine Plan.assign rfl rfl rfl rfl ?_ | refine Plan.skip rfl rfl ?_ | refine Plan.pick rfl rfl rfl rfl rfl ?_ | (refine Plan.ints rfl rfl rfl rfl rfl rfl ?_; (skip)) | refine J.seq (J.region mixed hI (by kernel_rfl) ?_) | refine Plan.splitD (fun _ => ?_) (fun _ => ?_))
  all_goals exact J.ret (Nrm.ret1 rfl (fun _ h => h) rfl fun B _ => Sub.of_eq (congrArg (fun b => Fa.ex (.bool b)) (by
    first
    | refine (decide_eq_true ?_).symm
    | refine (decide_eq_false ?_).symm
    | refine decide_eq_decide.2 ?_
    | refine beq_decide ?_
    | refine bne_decide ?_
    all_goals ((try simp only [fieldP, valueP, numP, refP, kindP, addP, dotP, hasP, rightVP] at *); omega))))
theorem replica_fn (r : Int) : Spc Try.prog 96 [.ex (vi r)] fun _ => .ex (.bool (decide (0 ≤ r ∧ r < 16))) := by
  refine Spc.intro Try.func96 rfl (Nat.le_of_ble_eq_true rfl) fun w0 => ?_
  have hI := hIb w0
  have hA := Own.below w0
  repeat' (first | refine Plan.move rfl rfl rfl rfl ?_ | refine Plan.assign rfl rfl rfl rfl ?_ | refine Plan.skip rfl rfl ?_ | refine Plan.pick rfl rfl rfl rfl rfl ?_ | (refine Plan.ints rfl rfl rfl rfl rfl rfl ?_; (skip)) | refine J.seq (J.region mixed hI (by kernel_rfl) ?_) | refine Plan.splitD (fun _ => ?_) (fun _ => ?_))
  all_goals exact J.ret (Nrm.ret1 rfl (fun _ h => h) rfl fun B _ => Sub.of_eq (congrArg (fun b => Fa.ex (.bool b)) (by
    first
    | refine (decide_eq_true ?_).symm
    | refine (decide_eq_false ?_).symm
    | refine decide_eq_decide.2 ?_
    | refine beq_decide ?_
    | refine bne_decide ?_
    all_goals ((try simp only [fieldP, valueP, numP, refP, kindP, addP, dotP, hasP, rightVP] at *); omega))))
theorem dot_fn (r n : Int) : Spc Try.prog 76 [.ex (aggD r n)] fun _ => .ex (.bool (decide (dotP r n))) := by
  refine Spc.intro Try.func76 rfl (Nat.le_of_ble_eq_true rfl) fun w0 => ?_
  have hI := hIb w0
  have hA := Own.below w0
  refine J.heap0 1000 (newB w0) ?_
  repeat' (first | refine Plan.move rfl rfl rfl rfl ?_ | refine Plan.assign rfl rfl rfl rfl ?_ | refine Plan.skip rfl rfl ?_ | refine Plan.pick rfl rfl rfl rfl rfl ?_ | (refine Plan.ints rfl rfl rfl rfl rfl rfl ?_; (skip)) | refine Plan.fieldC rfl rfl rfl rfl (by first | exact Try.underlying86 | exact Try.underlying28) rfl (by kernel_rfl) (by first | exact (rfl : _ = 0) | exact (rfl : _ = 1)) ?_ | refine Plan.loadC (key := 1000) (q := 0) rfl rfl rfl rfl rfl rfl (obj_reads1 rfl) (by exact Try.underlying3) (by rfl) (by decide) ?_ | refine J.seq (J.region mixed hI (by kernel_rfl) ?_) | refine Plan.call (B := w0.heap.size) rfl rfl rfl (replica_fn r) Try.func96 rfl rfl (hBb w0) (by repeat (first | exact Opnds.nil | refine Opnds.cons rfl (by exact Sub.refl _) ?_)) ?_ | refine Plan.boxC (key := 1000) rfl rfl rfl (by intro _ e; cases e; decide) rfl rfl hA fun _ => ?_ | refine Plan.splitD (fun _ => ?_) (fun _ => ?_))
  all_goals exact J.ret (Nrm.ret1 rfl (fun _ h => h) rfl fun B _ => Sub.of_eq (congrArg (fun b => Fa.ex (.bool b)) (by
    first
    | refine (decide_eq_true ?_).symm
    | refine (decide_eq_false ?_).symm
    | refine decide_eq_decide.2 ?_
    | refine beq_decide ?_
    | refine bne_decide ?_
    all_goals ((try simp only [fieldP, valueP, numP, refP, kindP, addP, dotP, hasP, rightVP] at *); omega))))
theorem refDot_fn (r n : Int) : Spc Try.prog 65 [.ex (aggD r n)] fun _ => .ex (.bool (decide (dotP r n))) := by
  refine Spc.intro Try.func65 rfl (Nat.le_of_ble_eq_true rfl) fun w0 => ?_
  have hI := hIb w0
  have hA := Own.below w0
  refine J.heap0 1000 (newB w0) ?_
  repeat' (first | refine Plan.move rfl rfl rfl rfl ?_ | refine Plan.assign rfl rfl rfl rfl ?_ | refine Plan.skip rfl rfl ?_ | refine Plan.pick rfl rfl rfl rfl rfl ?_ | (refine Plan.ints rfl rfl rfl rfl rfl rfl ?_; (skip)) | refine Plan.fieldC rfl rfl rfl rfl (by first | exact Try.underlying86 | exact Try.underlying28) rfl (by kernel_rfl) (by first | exact (rfl : _ = 0) | exact (rfl : _ = 1)) ?_ | refine Plan.loadC (key := 1000) (q := 0) rfl rfl rfl rfl rfl rfl (obj_reads1 rfl) (by exact Try.underlying3) (by rfl) (by decide) ?_ | refine J.seq (J.region mixed hI (by kernel_rfl) ?_) | refine Plan.boxC (key := 1000) rfl rfl rfl (by intro _ e; cases e; decide) rfl rfl hA fun _ => ?_ | refine Plan.splitD (fun _ => ?_) (fun _ => ?_))
  all_goals exact J.ret (Nrm.ret1 rfl (fun _ h => h) rfl fun B _ => Sub.of_eq (congrArg (fun b => Fa.ex (.bool b)) (by
    first
    | refine (decide_eq_true ?_).symm
    | refine (decide_eq_false ?_).symm
    | refine decide_eq_decide.2 ?_
    | refine beq_decide ?_
    | refine bne_decide ?_
    all_goals ((try simp only [fieldP, valueP, numP, refP, kindP, addP, dotP, hasP, rightVP] at *); omega))))
end Go.Proofs.Ytkhcjedlopiicaa
