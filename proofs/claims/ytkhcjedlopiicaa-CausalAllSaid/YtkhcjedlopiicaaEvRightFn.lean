/-
  Events: whether an event can be: the program.
-/
import Derived.Test.YtkhcjedlopiicaaEvFns2
import Derived.Test.YtkhcjedlopiicaaEvCanFn
set_option linter.unusedSimpArgs false
set_option linter.unusedVariables false
set_option maxRecDepth 20000
namespace Go.Proofs.Ytkhcjedlopiicaa
open Go.Free Go.RowKit Go.Proofs
set_option maxHeartbeats 8000000

theorem dot0 {r n : Int} (h : dotP r n) : 0 ≤ r := h.1
theorem dot16 {r n : Int} (h : dotP r n) : r < ((16 : Nat) : Int) := h.2.1
theorem dotN {r n : Int} (h : dotP r n) : r.toNat < 16 := by have h1 := h.1; have h2 := h.2.1; omega
theorem right_fn (e : EvV) (h : e.okV) : Spc Try.prog 60 [.ex (aggE e)] fun _ => .ex (.bool (decide (rightP e))) := by
  refine Spc.intro Try.func60 rfl (Nat.le_of_ble_eq_true rfl) fun w0 => ?_
  have hI := hIb w0
  have hA := Own.below w0
  have hrr := h.2.2.2.2.2.2.2.2.2.1
  have hrn := h.2.2.2.2.2.2.2.2.2.2
  refine J.heap0 1000 (newB w0) ?_
  have hn64 : -9223372036854775808 ≤ e.n ∧ e.n ≤ 9223372036854775807 := h.2.1
  repeat' (first | refine Plan.move rfl rfl rfl rfl ?_ | refine Plan.assign rfl rfl rfl rfl ?_ | refine Plan.skip rfl rfl ?_ | refine Plan.pick rfl rfl rfl rfl rfl ?_ | (refine Plan.ints rfl rfl rfl rfl rfl rfl ?_; (first | refine Plan.int (i64r (by omega)) ?_ | skip)) | refine Plan.un rfl rfl rfl rfl rfl ?_ | refine Plan.fieldC rfl rfl rfl rfl (by first | exact Try.underlying86 | exact Try.underlying84 | exact Try.underlying28) rfl (by kernel_rfl) (by first | exact (rfl : _ = 0) | exact (rfl : _ = 1) | exact (rfl : _ = 2) | exact (rfl : _ = 3) | exact (rfl : _ = 19) | exact (rfl : _ = 24)) ?_ | refine Plan.loadC (key := 1000) (q := 0) rfl rfl rfl rfl rfl rfl (obj_reads1 rfl) (by exact Try.underlying3) (by rfl) (by decide) ?_ | refine J.seq (J.region mixed hI (by kernel_rfl) ?_) | refine J.seq (J.seq (J.region mixed hI (by kernel_rfl) ?_)) | refine J.condT rfl ?_ | refine J.skip ?_ | refine Plan.call (B := w0.heap.size) rfl rfl rfl (rightV_fn e.d) Try.func83 rfl rfl (hBb w0) (by repeat (first | exact Opnds.nil | refine Opnds.cons rfl (by exact Sub.refl _) ?_)) ?_ | refine Plan.call (B := w0.heap.size) rfl rfl rfl (can_fn e h) Try.func84 rfl rfl (hBb w0) (by repeat (first | exact Opnds.nil | refine Opnds.cons rfl (by exact Sub.refl _) ?_)) ?_ | refine Plan.call (B := w0.heap.size) rfl rfl rfl (has_fn e.d e.rr e.rn) Try.func50 rfl rfl (hBb w0) (by repeat (first | exact Opnds.nil | refine Opnds.cons rfl (by exact Sub.refl _) ?_)) ?_ | refine Plan.indexArr (off := 3 + e.r.toNat) (len := 16) (sz := 1) rfl rfl rfl rfl rfl Try.underlying42 (by kernel_rfl) (by omega) (by omega) (by simp) ?_ | refine Plan.loadC (key := 1000) (q := 0) rfl rfl rfl rfl rfl rfl (obj_reads1 (enc_d e (by omega))) Try.underlying3 rfl (by decide) ?_ | refine Plan.loadAggC (key := 1000) (q := 0) (vs := vList e.d) rfl rfl rfl rfl rfl rfl (obj_reads rfl) Try.underlying42 rfl (by kernel_rfl) (by decide) ?_ | refine Plan.loadAggC (key := 1000) (q := 0) (vs := e.op) rfl rfl rfl rfl rfl rfl (obj_reads rfl) Try.underlying84 rfl (by kernel_rfl) (by decide) ?_ | refine Plan.loadAggC (key := 1000) (q := 0) (vs := [vi e.rr, vi e.rn]) rfl rfl rfl rfl rfl rfl (obj_reads rfl) Try.underlying28 rfl (by kernel_rfl) (by decide) ?_ | refine Plan.build (cells := #[vi 0, vi 0]) rfl rfl (ps := []) rfl Parts.nil (by kernel_rfl) ?_ | refine Plan.eqDot (decide (e.rr = 0 ∧ e.rn = 0)) (decide (e.rr = 0 ∧ e.rn = 0)) rfl rfl rfl rfl rfl hrr hrn in64_0 in64_0 (by simp) (.inl ⟨rfl, rfl⟩) ?_ | refine Plan.boxC (key := 1000) rfl rfl rfl (by intro _ e; cases e; decide) rfl rfl hA fun _ => ?_ | refine J.condD rfl (fun _ => ?_) (fun _ => ?_) | refine J.condND rfl (fun _ => ?_) (fun _ => ?_) | refine Plan.splitD (fun _ => ?_) (fun _ => ?_) | refine Plan.splitND (fun _ => ?_) (fun _ => ?_))
  all_goals exact J.ret (Nrm.ret1 rfl (fun _ h => h) rfl fun B _ => Sub.of_eq (congrArg (fun b => Fa.ex (.bool b)) (by
    first
    | refine (decide_eq_true ?_).symm
    | refine (decide_eq_false ?_).symm
    | refine decide_eq_decide.2 ?_
    | refine beq_decide ?_
    | refine bne_decide ?_
    all_goals ((try simp only [fieldP, valueP, numP, refP, kindP, addP, dotP, hasP, canP, rightP, IntKind.wrap_i64] at *); first | omega | grind))))
end Go.Proofs.Ytkhcjedlopiicaa
