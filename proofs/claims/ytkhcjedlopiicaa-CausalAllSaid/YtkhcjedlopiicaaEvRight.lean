/-
  Events: whether an operation can be, by the program and by the document.
-/
import Derived.Test.YtkhcjedlopiicaaEvCan
import Derived.Laws.Cover1
set_option linter.unusedSimpArgs false
set_option linter.unusedVariables false
set_option maxRecDepth 20000
namespace Go.Proofs.Ytkhcjedlopiicaa
open Go.Free Go.RowKit Go.Proofs
set_option maxHeartbeats 8000000

section
variable {P : Program} {ops : Array Oper} {Q : Exit → Act → World → Prop} {n : Nat} {I : World → Prop} {k i : Nat} {E : Env} {o : Oper} {d : Bool}
theorem _root_.Go.Free.Plan.max3 {ts : Array TypeId} {x y z : Operand} {kd : IntKind} {p q r : Int} (ho : ops[i]? = some o) (hop : o.op = .call { callee := .builtin .max, args := #[x, y, z], argTypes := ts }) (hg : wantB ops E o = some true)
    (hx : opF E x = some (.ex (.int kd p))) (hy : opF E y = some (.ex (.int kd q))) (hz : opF E z = some (.ex (.int kd r)))
    (h : Plan P ops Q n I d k (i + 1) (setE o.dst (.ex (.int kd (max p (max q r)))) E)) : Plan P ops Q n I d (k + 1) i E :=
  Plan.step ho (Step.run ho hg fun a w _ hs => by
    have h1 := hs x (by simp [hop, Op.operands, Call.operands]) _ hx
    have h2 := hs y (by simp [hop, Op.operands, Call.operands]) _ hy
    have h3 := hs z (by simp [hop, Op.operands, Call.operands]) _ hz
    simp only [Fa.den] at h1 h2 h3
    have e : max p (max q r) = (if r > (if q > p then q else p) then r else (if q > p then q else p)) := by
      repeat' split
      all_goals omega
    rw [e] at *
    refine ⟨_, w, ?_, Below.refl _ _, by simp only [Fa.den]; rfl⟩
    simp only [execOp, hop, resolve, invoke, builtin, List.map_toArray, List.map_cons, List.map_nil, h1, h2, h3, Sem.run_bind, Sem.run_pure, Result.andThen_ok, run_max_int3]) h
end
def canP (e : EvV) : Prop := kindP e.kind ∧ e.key ≠ [] ∧ e.key.length ≤ 64 ∧ e.field.length ≤ 64 ∧ e.value.length ≤ 64 ∧ -1099511627776 ≤ e.num ∧ e.num ≤ 1099511627776 ∧
  (fieldP e.kind ∨ e.field = []) ∧ (valueP e.kind ∨ e.value = []) ∧ (numP e.kind ∨ e.num = 0) ∧ (refP e.kind ∨ (e.rr = 0 ∧ e.rn = 0))
instance (e : EvV) : Decidable (canP e) := by unfold canP; infer_instance
def rightP (e : EvV) : Prop := dotP e.r e.n ∧ 0 ≤ e.time ∧ e.time ≤ 1152921504606846975 ∧ rightVP e.d ∧ e.d e.r.toNat = e.n - 1 ∧ canP e ∧ (hasP e.d e.rr e.rn ∨ (e.kind ≠ 10 ∧ e.rr = 0 ∧ e.rn = 0))
instance (e : EvV) : Decidable (rightP e) := by unfold rightP; infer_instance
theorem in64_0 : in64 0 := by unfold in64; omega
theorem formedDot (zs : Array Value) (h : zs.size = 2) : (Value.agg zs).formed Try.prog 28 = true := by
  have hc : Try.prog.cellsOf 28 = 2 := by kernel_rfl
  unfold Value.formed
  rw [Try.underlying28]
  simp only [hc, h]
  rfl
theorem Plan.eqDot {ops : Array Oper} {Q : Exit → Act → World → Prop} {n : Nat} {I : World → Prop} {k i : Nat} {E : Env} {o : Oper} {d : Bool} {x y : Operand} {yt : TypeId} {op : BinOp} {a b a' b' : Int} (r v : Bool) (ho : ops[i]? = some o) (hop : o.op = .binOp op 28 x y yt) (hg : wantB ops E o = some true)
    (hx : opF E x = some (.ex (.agg [vi a, vi b].toArray))) (hy : opF E y = some (.ex (.agg [vi a', vi b'].toArray))) (h1 : in64 a) (h2 : in64 b) (h3 : in64 a') (h4 : in64 b') (hr : r = true ↔ a = a' ∧ b = b') (hv : (op = .eql ∧ v = r) ∨ (op = .neq ∧ v = !r))
    (h : Plan Try.prog ops Q n I d k (i + 1) (setE o.dst (.ex (.bool v)) E)) : Plan Try.prog ops Q n I d (k + 1) i E :=
  Plan.eqAgg (m := 9) (l := [.int .i64, .int .i64]) (xs := [vi a, vi b]) (ys := [vi a', vi b']) (r := r) ho hop hg hx hy (by decide) (by kernel_rfl) (by kernel_rfl) (by kernel_rfl)
    ⟨_, _, rfl, intF h1, _, _, rfl, intF h2, rfl⟩ ⟨_, _, rfl, intF h3, _, _, rfl, intF h4, rfl⟩ formedDot (by rw [hr]; simp) hv h
end Go.Proofs.Ytkhcjedlopiicaa
