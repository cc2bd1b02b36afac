/-
  The model: what may be seen.
-/
import Derived.Test.YtkhcjedlopiicaaCauNil
set_option linter.unusedSimpArgs false
set_option linter.unusedVariables false
set_option maxRecDepth 20000
namespace Go.Proofs.Ytkhcjedlopiicaa
open Go.Free Go.RowKit Go.Proofs
set_option maxHeartbeats 8000000

def moE (v w : Nat → Int) (a b : Nat) (w0 : World) (i : Nat) : Env := [(2, .ex (ptr a)), (3, .ex (ptr b)), (5, .ex (vi i)), (1000, heap (newB w0) [obj a (vList v), obj b (vList w)])]
theorem most_fn (v w : Nat → Int) : Spc Try.prog 68 [.ex (aggV v), .ex (aggV w)] fun _ => .ex (.bool (mostB v w)) := by
  refine Spc.intro Try.func68 rfl (Nat.le_of_ble_eq_true rfl) fun w0 => ?_
  have hI := hIb w0
  have hA := Own.below w0
  refine J.heap0 1000 (newB w0) ?_
  repeat (refine J.seq (J.region mixed hI (by kernel_rfl) ?_))
  refine Plan.boxC (key := 1000) rfl rfl rfl (by intro _ e; cases e; decide) rfl rfl hA fun a => ?_
  refine Plan.boxC (key := 1000) rfl rfl rfl (by intro _ e; cases e; decide) rfl rfl hA fun b => ?_
  repeat (first | refine Plan.assign rfl rfl rfl rfl ?_ | refine J.seq (J.seq (J.region mixed hI (by kernel_rfl) ?_)))
  refine J.block (J.loop (moE v w a b w0) (fun i => i ≤ 16 ∧ ∀ j, j < i → v j ≤ w j) (fun i => 16 - i) 0 ⟨Nat.zero_le _, fun j h => by omega⟩ ?_ ?_)
  · repeat (first | exact Weak.nil | refine Weak.cons rfl (Sub.refl _) ?_)
  rintro i ⟨hi, hno⟩
  repeat (first | refine Plan.move rfl rfl rfl rfl ?_ | (refine Plan.ints rfl rfl rfl rfl rfl rfl ?_; (skip)) | refine J.seq (J.seq (J.region mixed hI (by kernel_rfl) ?_)))
  refine J.condD rfl (fun hc => ?_) (fun hc => ?_)
  · have hlt : i < 16 := by omega
    repeat (refine J.skip ?_)
    refine J.seq (J.block ?_)
    repeat (first | refine Plan.move rfl rfl rfl rfl ?_ | refine J.seq (J.region mixed hI (by kernel_rfl) ?_))
    refine Plan.indexArr (off := i) (len := 16) (sz := 1) rfl rfl rfl rfl rfl Try.underlying42 (by kernel_rfl) (by omega) (by omega) (by simp) ?_
    refine Plan.loadC (key := 1000) (q := 0) rfl rfl rfl rfl rfl rfl (obj_reads1 (vList_get v hlt)) Try.underlying3 rfl (by decide) ?_
    repeat (refine Plan.move rfl rfl rfl rfl ?_)
    refine Plan.indexArr (off := i) (len := 16) (sz := 1) rfl rfl rfl rfl rfl Try.underlying42 (by kernel_rfl) (by omega) (by omega) (by simp) ?_
    refine Plan.loadC (key := 1000) (q := 1) rfl rfl rfl rfl rfl rfl (obj_reads1 (vList_get w hlt)) Try.underlying3 rfl (by decide) ?_
    repeat ((refine Plan.ints rfl rfl rfl rfl rfl rfl ?_; (skip)))
    refine J.condD rfl (fun hg => ?_) (fun hg => ?_)
    · have hm : mostB v w = false := by
        cases hq : mostB v w with
        | false => rfl
        | true => have := mostB_iff.1 hq i hlt; omega
      rw [hm]
      repeat (first | refine Plan.assign rfl rfl rfl rfl ?_ | refine J.seq (J.region mixed hI (by kernel_rfl) ?_))
      exact J.ret (Nrm.ret1 rfl (fun _ h => h) rfl fun B _ => Sub.refl _)
    · repeat (first | refine Plan.move rfl rfl rfl rfl ?_ | refine Plan.assign rfl rfl rfl rfl ?_ | (refine Plan.ints rfl rfl rfl rfl rfl rfl ?_; (refine Plan.int (i64r (by omega)) ?_)) | refine J.region mixed hI (by kernel_rfl) ?_ | refine J.skip ?_)
      refine Plan.int (y := ((i + 1 : Nat) : Int)) (by omega) ?_
      repeat (fail)
      refine Nrm.next (i + 1) ⟨by omega, fun j hj => ?_⟩ (by omega) (by repeat (first | exact Weak.nil | refine Weak.cons rfl (Sub.refl _) ?_))
      rcases Nat.lt_or_ge j i with h5 | h5
      · exact hno j h5
      · have : j = i := by omega
        subst this; omega
  have hm : mostB v w = true := mostB_iff.2 fun j hj => hno j (by omega)
  refine J.exit ?_
  rw [hm]
  repeat (first | refine Plan.assign rfl rfl rfl rfl ?_ | refine J.seq (J.region mixed hI (by kernel_rfl) ?_))
  exact J.ret (Nrm.ret1 rfl (fun _ h => h) rfl fun B _ => Sub.refl _)
theorem refMay_fn (e : EvV) (v : Nat → Int) (hr : 0 ≤ e.r ∧ e.r < 16) : Spc Try.prog 42 [.ex (aggE e), .ex (aggV v)] fun _ => .ex (.bool (mayB e v)) := by
  have hn : e.r.toNat < 16 := by omega
  refine Spc.intro Try.func42 rfl (Nat.le_of_ble_eq_true rfl) fun w0 => ?_
  have hI := hIb w0
  have hA := Own.below w0
  refine J.heap0 1000 (newB w0) ?_
  repeat (refine J.seq (J.region mixed hI (by kernel_rfl) ?_))
  refine Plan.boxC (key := 1000) rfl rfl rfl (by intro _ e; cases e; decide) rfl rfl hA fun a => ?_
  refine Plan.boxC (key := 1000) rfl rfl rfl (by intro _ e; cases e; decide) rfl rfl hA fun b => ?_
  repeat (first | refine Plan.assign rfl rfl rfl rfl ?_ | refine Plan.fieldC rfl rfl rfl rfl (by first | exact Try.underlying86 | exact Try.underlying28) rfl (by kernel_rfl) (by first | exact (rfl : _ = 0) | exact (rfl : _ = 1)) ?_ | refine Plan.loadC (key := 1000) (q := 0) rfl rfl rfl rfl rfl rfl (obj_reads1 rfl) (by exact Try.underlying3) (by rfl) (by decide) ?_ | refine J.seq (J.region mixed hI (by kernel_rfl) ?_))
  refine Plan.indexArr (off := e.r.toNat) (len := 16) (sz := 1) rfl rfl rfl rfl rfl Try.underlying42 (by kernel_rfl) (by omega) (by omega) (by simp) ?_
  refine Plan.loadC (key := 1000) (q := 1) (off := e.r.toNat) rfl rfl rfl rfl rfl rfl (obj_reads1 (vList_get v hn)) Try.underlying3 rfl (by decide) ?_
  refine Plan.ints (v := .int .i64 (incW (v e.r.toNat))) rfl rfl rfl rfl rfl rfl ?_
  refine Plan.ints (v := .bool (e.n == incW (v e.r.toNat))) rfl rfl rfl rfl rfl rfl ?_
  repeat (refine Plan.move rfl rfl rfl rfl ?_)
  unfold mayB
  cases hq : (e.n == incW (v e.r.toNat)) with
  | false =>
    repeat (first | refine Plan.assign rfl rfl rfl rfl ?_ | refine Plan.skip rfl rfl ?_ | refine Plan.pick rfl rfl rfl rfl rfl ?_)
    exact J.ret (Nrm.ret1 rfl (fun _ h => h) rfl fun B _ => Sub.refl _)
  | true =>
    repeat (refine Plan.fieldC rfl rfl rfl rfl (by exact Try.underlying86) rfl (by kernel_rfl) (by exact (rfl : _ = 3)) ?_)
    refine Plan.loadAggC (key := 1000) (q := 0) (off := 3) (vs := vList e.d) rfl rfl rfl rfl rfl rfl (obj_reads rfl) Try.underlying42 rfl (by kernel_rfl) (by decide) ?_
    refine Plan.loadAggC (key := 1000) (q := 1) (vs := vList v) rfl rfl rfl rfl rfl rfl (obj_reads rfl) Try.underlying42 rfl (by kernel_rfl) (by decide) ?_
    refine Plan.call (B := w0.heap.size) rfl rfl rfl (most_fn e.d v) Try.func68 rfl rfl (hBb w0) (by repeat (first | exact Opnds.nil | refine Opnds.cons rfl (by exact Sub.refl _) ?_)) ?_
    repeat (first | refine Plan.assign rfl rfl rfl rfl ?_ | refine Plan.pick rfl rfl rfl rfl rfl ?_)
    exact J.ret (Nrm.ret1 rfl (fun _ h => h) rfl fun B _ => Sub.refl _)
end Go.Proofs.Ytkhcjedlopiicaa
