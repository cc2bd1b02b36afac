/-
  What this seat knows of its program: element types, and that old memory is kept.
-/
import Derived.Test.YtkhcjedlopiicaaFreeMem
import Derived.Test.YtkhcjedlopiicaaRows
import Derived.KernelRfl
import Derived.IntWalk
import Derived.Laws.BitsAllLaws
import Derived.Laws.Bits64
set_option linter.unusedSimpArgs false
set_option linter.unusedVariables false
set_option maxRecDepth 20000
namespace Go.Proofs.Ytkhcjedlopiicaa
open Go.Free Go.RowKit Go.Proofs

theorem mixed : Try.prog.follows .mixedOrders = true := by kernel_rfl
theorem hIb (w0 : World) : ∀ w w', Below w0.heap.size w0 w → Below w.heap.size w w' → Below w0.heap.size w0 w' := fun _ _ h k => h.trans (k.mono h.size)
theorem hBb (w0 : World) : ∀ w, Below w0.heap.size w0 w → w0.heap.size ≤ w.heap.size := fun _ h => h.size
theorem hGb (w0 : World) : ∀ w w' r, Below w0.heap.size w0 w → w.grownBy w' r → (∀ b, r = some b → w0.heap.size ≤ b) → Below w0.heap.size w0 w' := fun _ _ _ h hg hr => h.grown hg h.size hr
theorem eltB : Elt Try.prog 61 5 (.int .u8 0) 1 1 := Elt.mk' Try.underlying61 (by kernel_rfl) rfl (by decide) (by decide)
abbrev ownB (B : Nat) (l : List UInt8) : Fa := own B 5 1 (bs l)

theorem i64r {x : Int} (h : -9223372036854775808 ≤ x ∧ x ≤ 9223372036854775807) : IntKind.i64.wrap x = x := IntWalk.i64_in x h
theorem w8 (c : UInt8) : IntKind.u8.wrap (c.toNat : Int) = c.toNat := by have := c.toNat_lt; rw [IntKind.wrap_u8]; omega
end Go.Proofs.Ytkhcjedlopiicaa
