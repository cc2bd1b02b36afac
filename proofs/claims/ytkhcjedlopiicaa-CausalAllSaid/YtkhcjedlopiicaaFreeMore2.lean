/-
  Remainders and quotients by numbers that are not known.
-/
import Derived.Test.YtkhcjedlopiicaaFreeNest
set_option linter.unusedSimpArgs false
set_option linter.unusedVariables false
set_option maxRecDepth 20000
namespace Go.Free
open Go.RowKit
section
variable {P : Program} {n : Nat} {I : World → Prop} {Q : Exit → Act → World → Prop} {E : Env} {ops : Array Oper} {k i : Nat} {d : Bool} {o : Oper}
theorem Plan.remI {xt yt : TypeId} {x y : Operand} {kd : IntKind} {p q : Nat} (ho : ops[i]? = some o) (hop : o.op = .binOp .rem xt x y yt) (hg : wantB ops E o = some true)
    (hx : opF E x = some (.ex (.int kd p))) (hy : opF E y = some (.ex (.int kd q))) (h0 : q ≠ 0)
    (h : Plan P ops Q n I d k (i + 1) (setE o.dst (.ex (.int kd ((p % q : Nat) : Int))) E)) : Plan P ops Q n I d (k + 1) i E :=
  Plan.ints ho hop hg hx hy (by
    have h1 : ¬ (q : Int) = 0 := by omega
    simp only [intVal, if_neg h1]
    rw [Int.ofNat_tmod]) h
theorem Plan.shrN {xt yt : TypeId} {x y : Operand} {kd ky : IntKind} {p q : Nat} (ho : ops[i]? = some o) (hop : o.op = .binOp .shr xt x y yt) (hg : wantB ops E o = some true)
    (hx : opF E x = some (.ex (.int kd p))) (hy : opF E y = some (.ex (.int ky q))) (hq : q ≤ kd.bits)
    (h : Plan P ops Q n I d k (i + 1) (setE o.dst (.ex (.int kd ((p / 2 ^ q : Nat) : Int))) E)) : Plan P ops Q n I d (k + 1) i E :=
  Plan.shift ho hop hg hx hy (by
    unfold shVal
    rw [if_neg (by omega)]
    simp only [Int.toNat_natCast, Nat.min_eq_left hq]
    rw [Int.fdiv_eq_ediv_of_nonneg _ (by exact Int.le_of_lt (Int.pow_pos (by decide)))]
    simp) h
end
end Go.Free
