/-
  EventBack, at values as they come in.
-/
import Derived.Test.YthjneijkapopoaaEvLaws
set_option linter.unusedSimpArgs false
set_option linter.unusedVariables false
set_option maxRecDepth 20000
namespace Go.Proofs.Ythjneijkapopoaa
open Go.Free Go.RowKit Go.Proofs
theorem eventBackC (a : List Value) (cut c : Int) (ha : CellsOk kdsEvent a) (hcut : 0 ≤ cut ∧ cut ≤ 18446744073709551615) (hc : 0 ≤ c ∧ c ≤ 255) : Spc Try.prog 11 [.ex (.agg a.toArray), .ex (.int .u64 cut), .ex (.int .u8 c)] fun _ => .ex (.bool true) := by
  obtain ⟨e, rfl, he⟩ := ev_of ha
  obtain ⟨m, rfl⟩ : ∃ m : UInt8, c = (m.toNat : Int) := ⟨UInt8.ofNat c.toNat, by simp; omega⟩
  exact eventBackE e he cut hcut m
end Go.Proofs.Ythjneijkapopoaa
