/-
  EventOrders, at values as they come in.
-/
import Derived.Test.YthjneijkapopoaaEvOrders
namespace Go.Proofs.Ythjneijkapopoaa
open Go.Free Go.RowKit Go.Proofs
theorem eventOrdersC (a b c : List Value) (ha : CellsOk kdsEvent a) (hb : CellsOk kdsEvent b) (hc : CellsOk kdsEvent c) : Spc Try.prog 8 [.ex (.agg a.toArray), .ex (.agg b.toArray), .ex (.agg c.toArray)] fun _ => .ex (.bool true) := by
  obtain ⟨e, rfl, he⟩ := ev_of ha
  obtain ⟨f, rfl, hf⟩ := ev_of hb
  obtain ⟨g, rfl, _⟩ := ev_of hc
  exact eventOrdersE e f g he hf
end Go.Proofs.Ythjneijkapopoaa
