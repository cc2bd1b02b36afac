/-
  EventBytes, at values as they come in.
-/
import Derived.Test.YthjneijkapopoaaEvBytes
namespace Go.Proofs.Ythjneijkapopoaa
open Go.Free Go.RowKit Go.Proofs
theorem eventBytesC (a : List Value) (ha : CellsOk kdsEvent a) : Spc Try.prog 7 [.ex (.agg a.toArray)] fun _ => .ex (.bool true) := by
  obtain ⟨e, rfl, he⟩ := ev_of ha
  exact eventBytesE e he
end Go.Proofs.Ythjneijkapopoaa
