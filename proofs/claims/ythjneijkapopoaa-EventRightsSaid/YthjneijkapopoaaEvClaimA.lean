/-
  EventRights, at values as they come in.
-/
import Derived.Test.YthjneijkapopoaaEvRights
namespace Go.Proofs.Ythjneijkapopoaa
open Go.Free Go.RowKit Go.Proofs
theorem eventRightsC (a b : List Value) (k : Int) (ha : CellsOk kdsEvent a) (hb : CellsOk kdsEvent b) (hk : -9223372036854775808 ≤ k ∧ k ≤ 9223372036854775807) : Spc Try.prog 9 [.ex (.agg a.toArray), .ex (.agg b.toArray), .ex (.int .i64 k)] fun _ => .ex (.bool true) := by
  obtain ⟨e, rfl, he⟩ := ev_of ha
  obtain ⟨f, rfl, hf⟩ := ev_of hb
  exact eventRightsE e f k he hk
end Go.Proofs.Ythjneijkapopoaa
