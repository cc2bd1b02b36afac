/-
  No cell of these rows narrows 'for every input' (looked for: loops, veiled, ifaces, maps, wideKeys, modest, calm, conditions, laid).
  DERIVED. THE GIVEN ROWS OF THIS SEAT. 10 by the template 'for every input the law returns true; each argument reads behind the call as it read before'; 0 by the template 'total and deterministic' (their statements: YthjneijkapopoaaTotals.lean).
  GIVEN WITH THE SEED: the statements are not yours to turn. If you find one false, say at which input.
  Laid BY PROGRAM, IN A SANDBOX (cutbox-rows.mjs): the forced cells as the released guide's own fill.sh prints them over the translation 2694e7cf660adce4… (all of the seat's roots in one cut). By AI agents, Wed Nov 11 2026. No macro, syntax, notation, axiom, sorry.
-/
import Derived.Test.YthjneijkapopoaaChecked
import GoSem.Claim
import GoSem.ClaimJoined
import GoSem.ClaimMapViews
import Derived.JoinedTies
import Derived.KernelRfl
namespace Go.Proofs.Ythjneijkapopoaa
/- THE CELL 'sum', in the pinned program and in every row, IS THE sha256 OF THE DUMP (.gsa) THAT YthjneijkapopoaaProg.lean LOADS. Nothing in Lean hashes anything: it is a label: what it is worth is what the hold of that sum in a sandbox is worth. -/
noncomputable def Try.pinned : Pinned := { name := "ythjneijkapopoaa", sum := "2694e7cf660adce432990fefbd2790516be426907fdaec8c7714fd087ecb3e92", checked := Try.checked }
namespace Rows
def none {H : Type} : Left H := { results := [], args := [] }

/-- 'polyphonylaw11.RegTells': WHATEVER THE INPUT: true; the input reads as it did. -/
def regTellsSpec : ChangeSpec := { name := "regTells", fn := fun _ => fun
  | [d] => { results := [.lit (.bool true)], args := [d] }
  | _ => none }
def regTellsRow : OpenClaim := { program := "ythjneijkapopoaa", sum := "2694e7cf660adce432990fefbd2790516be426907fdaec8c7714fd087ecb3e92", func := "polyphony/polyphonylaw11.RegTells", spec := "regTells", apart := false }
def RegTellsSaid : Prop := regTellsRow.holds Try.pinned (OpenSpec.ofChange regTellsSpec)

/-- ITS FALSE NEIGHBOUR: 'it returns false'. Refute it at one input. -/
def regTellsWrong : ChangeSpec := { name := "regTells", fn := fun _ => fun
  | [d] => { results := [.lit (.bool false)], args := [d] }
  | _ => none }
def RegTellsWrongFalsely : Prop := regTellsRow.holds Try.pinned (OpenSpec.ofChange regTellsWrong)

/-- 'polyphonylaw11.RegOrder': WHATEVER THE INPUT: true; the input reads as it did. -/
def regOrderSpec : ChangeSpec := { name := "regOrder", fn := fun _ => fun
  | [d1, d2] => { results := [.lit (.bool true)], args := [d1, d2] }
  | _ => none }
def regOrderRow : OpenClaim := { program := "ythjneijkapopoaa", sum := "2694e7cf660adce432990fefbd2790516be426907fdaec8c7714fd087ecb3e92", func := "polyphony/polyphonylaw11.RegOrder", spec := "regOrder", apart := false }
def RegOrderSaid : Prop := regOrderRow.holds Try.pinned (OpenSpec.ofChange regOrderSpec)

/-- ITS FALSE NEIGHBOUR: 'it returns false'. Refute it at one input. -/
def regOrderWrong : ChangeSpec := { name := "regOrder", fn := fun _ => fun
  | [d1, d2] => { results := [.lit (.bool false)], args := [d1, d2] }
  | _ => none }
def RegOrderWrongFalsely : Prop := regOrderRow.holds Try.pinned (OpenSpec.ofChange regOrderWrong)

/-- 'polyphonylaw11.RegParts': WHATEVER THE INPUT: true; the input reads as it did. -/
def regPartsSpec : ChangeSpec := { name := "regParts", fn := fun _ => fun
  | [d1, d2] => { results := [.lit (.bool true)], args := [d1, d2] }
  | _ => none }
def regPartsRow : OpenClaim := { program := "ythjneijkapopoaa", sum := "2694e7cf660adce432990fefbd2790516be426907fdaec8c7714fd087ecb3e92", func := "polyphony/polyphonylaw11.RegParts", spec := "regParts", apart := false }
def RegPartsSaid : Prop := regPartsRow.holds Try.pinned (OpenSpec.ofChange regPartsSpec)

/-- ITS FALSE NEIGHBOUR: 'it returns false'. Refute it at one input. -/
def regPartsWrong : ChangeSpec := { name := "regParts", fn := fun _ => fun
  | [d1, d2] => { results := [.lit (.bool false)], args := [d1, d2] }
  | _ => none }
def RegPartsWrongFalsely : Prop := regPartsRow.holds Try.pinned (OpenSpec.ofChange regPartsWrong)

/-- 'polyphonylaw11.RegOne': WHATEVER THE INPUT: true; the input reads as it did. -/
def regOneSpec : ChangeSpec := { name := "regOne", fn := fun _ => fun
  | [d] => { results := [.lit (.bool true)], args := [d] }
  | _ => none }
def regOneRow : OpenClaim := { program := "ythjneijkapopoaa", sum := "2694e7cf660adce432990fefbd2790516be426907fdaec8c7714fd087ecb3e92", func := "polyphony/polyphonylaw11.RegOne", spec := "regOne", apart := false }
def RegOneSaid : Prop := regOneRow.holds Try.pinned (OpenSpec.ofChange regOneSpec)

/-- ITS FALSE NEIGHBOUR: 'it returns false'. Refute it at one input. -/
def regOneWrong : ChangeSpec := { name := "regOne", fn := fun _ => fun
  | [d] => { results := [.lit (.bool false)], args := [d] }
  | _ => none }
def RegOneWrongFalsely : Prop := regOneRow.holds Try.pinned (OpenSpec.ofChange regOneWrong)

/-- 'polyphonylaw05.EventBytes': WHATEVER THE INPUT: true; the input reads as it did. -/
def eventBytesSpec : ChangeSpec := { name := "eventBytes", fn := fun _ => fun
  | [d] => { results := [.lit (.bool true)], args := [d] }
  | _ => none }
def eventBytesRow : OpenClaim := { program := "ythjneijkapopoaa", sum := "2694e7cf660adce432990fefbd2790516be426907fdaec8c7714fd087ecb3e92", func := "polyphony/polyphonylaw05.EventBytes", spec := "eventBytes", apart := false }
def EventBytesSaid : Prop := eventBytesRow.holds Try.pinned (OpenSpec.ofChange eventBytesSpec)

/-- ITS FALSE NEIGHBOUR: 'it returns false'. Refute it at one input. -/
def eventBytesWrong : ChangeSpec := { name := "eventBytes", fn := fun _ => fun
  | [d] => { results := [.lit (.bool false)], args := [d] }
  | _ => none }
def EventBytesWrongFalsely : Prop := eventBytesRow.holds Try.pinned (OpenSpec.ofChange eventBytesWrong)

/-- 'polyphonylaw05.EventOrders': WHATEVER THE INPUT: true; the input reads as it did. -/
def eventOrdersSpec : ChangeSpec := { name := "eventOrders", fn := fun _ => fun
  | [d1, d2, d3] => { results := [.lit (.bool true)], args := [d1, d2, d3] }
  | _ => none }
def eventOrdersRow : OpenClaim := { program := "ythjneijkapopoaa", sum := "2694e7cf660adce432990fefbd2790516be426907fdaec8c7714fd087ecb3e92", func := "polyphony/polyphonylaw05.EventOrders", spec := "eventOrders", apart := false }
def EventOrdersSaid : Prop := eventOrdersRow.holds Try.pinned (OpenSpec.ofChange eventOrdersSpec)

/-- ITS FALSE NEIGHBOUR: 'it returns false'. Refute it at one input. -/
def eventOrdersWrong : ChangeSpec := { name := "eventOrders", fn := fun _ => fun
  | [d1, d2, d3] => { results := [.lit (.bool false)], args := [d1, d2, d3] }
  | _ => none }
def EventOrdersWrongFalsely : Prop := eventOrdersRow.holds Try.pinned (OpenSpec.ofChange eventOrdersWrong)

/-- 'polyphonylaw05.EventRights': WHATEVER THE INPUT: true; the input reads as it did. -/
def eventRightsSpec : ChangeSpec := { name := "eventRights", fn := fun _ => fun
  | [d1, d2, d3] => { results := [.lit (.bool true)], args := [d1, d2, d3] }
  | _ => none }
def eventRightsRow : OpenClaim := { program := "ythjneijkapopoaa", sum := "2694e7cf660adce432990fefbd2790516be426907fdaec8c7714fd087ecb3e92", func := "polyphony/polyphonylaw05.EventRights", spec := "eventRights", apart := false }
def EventRightsSaid : Prop := eventRightsRow.holds Try.pinned (OpenSpec.ofChange eventRightsSpec)

/-- ITS FALSE NEIGHBOUR: 'it returns false'. Refute it at one input. -/
def eventRightsWrong : ChangeSpec := { name := "eventRights", fn := fun _ => fun
  | [d1, d2, d3] => { results := [.lit (.bool false)], args := [d1, d2, d3] }
  | _ => none }
def EventRightsWrongFalsely : Prop := eventRightsRow.holds Try.pinned (OpenSpec.ofChange eventRightsWrong)

/-- 'polyphonylaw05.EventDecodes': WHATEVER THE INPUT: true; the input reads as it did. -/
def eventDecodesSpec : ChangeSpec := { name := "eventDecodes", fn := fun _ => fun
  | [d] => { results := [.lit (.bool true)], args := [d] }
  | _ => none }
def eventDecodesRow : OpenClaim := { program := "ythjneijkapopoaa", sum := "2694e7cf660adce432990fefbd2790516be426907fdaec8c7714fd087ecb3e92", func := "polyphony/polyphonylaw05.EventDecodes", spec := "eventDecodes", apart := false }
def EventDecodesSaid : Prop := eventDecodesRow.holds Try.pinned (OpenSpec.ofChange eventDecodesSpec)

/-- ITS FALSE NEIGHBOUR: 'it returns false'. Refute it at one input. -/
def eventDecodesWrong : ChangeSpec := { name := "eventDecodes", fn := fun _ => fun
  | [d] => { results := [.lit (.bool false)], args := [d] }
  | _ => none }
def EventDecodesWrongFalsely : Prop := eventDecodesRow.holds Try.pinned (OpenSpec.ofChange eventDecodesWrong)

/-- 'polyphonylaw05.EventBack': WHATEVER THE INPUT: true; the input reads as it did. -/
def eventBackSpec : ChangeSpec := { name := "eventBack", fn := fun _ => fun
  | [d1, d2, d3] => { results := [.lit (.bool true)], args := [d1, d2, d3] }
  | _ => none }
def eventBackRow : OpenClaim := { program := "ythjneijkapopoaa", sum := "2694e7cf660adce432990fefbd2790516be426907fdaec8c7714fd087ecb3e92", func := "polyphony/polyphonylaw05.EventBack", spec := "eventBack", apart := false }
def EventBackSaid : Prop := eventBackRow.holds Try.pinned (OpenSpec.ofChange eventBackSpec)

/-- ITS FALSE NEIGHBOUR: 'it returns false'. Refute it at one input. -/
def eventBackWrong : ChangeSpec := { name := "eventBack", fn := fun _ => fun
  | [d1, d2, d3] => { results := [.lit (.bool false)], args := [d1, d2, d3] }
  | _ => none }
def EventBackWrongFalsely : Prop := eventBackRow.holds Try.pinned (OpenSpec.ofChange eventBackWrong)

/-- 'polyphonylaw05.EventOne': WHATEVER THE INPUT: true; the input reads as it did. -/
def eventOneSpec : ChangeSpec := { name := "eventOne", fn := fun _ => fun
  | [d] => { results := [.lit (.bool true)], args := [d] }
  | _ => none }
def eventOneRow : OpenClaim := { program := "ythjneijkapopoaa", sum := "2694e7cf660adce432990fefbd2790516be426907fdaec8c7714fd087ecb3e92", func := "polyphony/polyphonylaw05.EventOne", spec := "eventOne", apart := false }
def EventOneSaid : Prop := eventOneRow.holds Try.pinned (OpenSpec.ofChange eventOneSpec)

/-- ITS FALSE NEIGHBOUR: 'it returns false'. Refute it at one input. -/
def eventOneWrong : ChangeSpec := { name := "eventOne", fn := fun _ => fun
  | [d] => { results := [.lit (.bool false)], args := [d] }
  | _ => none }
def EventOneWrongFalsely : Prop := eventOneRow.holds Try.pinned (OpenSpec.ofChange eventOneWrong)

/- THE SECOND FORM. 'bulk': how many values and letters a reading holds, each counted each time it is reached (what is shared counts as often as it is met; a slice's spare places count too). A statement '..UptoSaid' is the law's where the arguments, and the package variables that the reading takes, are together of bulk at most 1048576: NARROWER than '..Said'. Prove '..Said' where nothing that the law and all that it calls make is longer than what came in: it says more and counts as full. Else prove '..UptoSaid'. A law counts once. -/
mutual
def uptoBulk {H : Type} : DataW H → Nat
  | .lit (.string bytes) => bytes.length + 1
  | .lit _ => 1
  | .nil => 1
  | .ptr d => uptoBulk d + 1
  | .slice elems spare => uptoBulkAll elems + uptoBulkAll spare + 1
  | .agg parts => uptoBulkAll parts + 1
  | .iface _ d => uptoBulk d + 1
  | .map entries => uptoBulkEntries entries + 1
  | .held _ => 1
def uptoBulkAll {H : Type} : List (DataW H) → Nat
  | [] => 0
  | d :: r => uptoBulk d + uptoBulkAll r
def uptoBulkEntries {H : Type} : List (Lit × DataW H) → Nat
  | [] => 0
  | x :: r => uptoBulkEntry x + uptoBulkEntries r
def uptoBulkEntry {H : Type} : Lit × DataW H → Nat
  | (.string bytes, d) => bytes.length + uptoBulk d + 1
  | (_, d) => uptoBulk d + 1
 end
def uptoSmall : (H : Type) → List (DataW H) → Bool := fun _ ds => decide (uptoBulkAll ds ≤ 1048576)
def OpenSpec.upto (s : _root_.Go.ChangeSpec) : _root_.Go.OpenSpec := { _root_.Go.OpenSpec.ofChange s with cond := some uptoSmall }

/-- 'polyphonylaw11.RegTells', WHERE WHAT IT READS IS OF BULK AT MOST 1048576: true; the input reads as it did. -/
def regTellsUptoRow : OpenClaim := { program := "ythjneijkapopoaa", sum := "2694e7cf660adce432990fefbd2790516be426907fdaec8c7714fd087ecb3e92", func := "polyphony/polyphonylaw11.RegTells", spec := "regTells", apart := false, narrowed := true }
def RegTellsUptoSaid : Prop := regTellsUptoRow.holds Try.pinned (OpenSpec.upto regTellsSpec)

/-- 'polyphonylaw11.RegOrder', WHERE WHAT IT READS IS OF BULK AT MOST 1048576: true; the input reads as it did. -/
def regOrderUptoRow : OpenClaim := { program := "ythjneijkapopoaa", sum := "2694e7cf660adce432990fefbd2790516be426907fdaec8c7714fd087ecb3e92", func := "polyphony/polyphonylaw11.RegOrder", spec := "regOrder", apart := false, narrowed := true }
def RegOrderUptoSaid : Prop := regOrderUptoRow.holds Try.pinned (OpenSpec.upto regOrderSpec)

/-- 'polyphonylaw11.RegParts', WHERE WHAT IT READS IS OF BULK AT MOST 1048576: true; the input reads as it did. -/
def regPartsUptoRow : OpenClaim := { program := "ythjneijkapopoaa", sum := "2694e7cf660adce432990fefbd2790516be426907fdaec8c7714fd087ecb3e92", func := "polyphony/polyphonylaw11.RegParts", spec := "regParts", apart := false, narrowed := true }
def RegPartsUptoSaid : Prop := regPartsUptoRow.holds Try.pinned (OpenSpec.upto regPartsSpec)

/-- 'polyphonylaw11.RegOne', WHERE WHAT IT READS IS OF BULK AT MOST 1048576: true; the input reads as it did. -/
def regOneUptoRow : OpenClaim := { program := "ythjneijkapopoaa", sum := "2694e7cf660adce432990fefbd2790516be426907fdaec8c7714fd087ecb3e92", func := "polyphony/polyphonylaw11.RegOne", spec := "regOne", apart := false, narrowed := true }
def RegOneUptoSaid : Prop := regOneUptoRow.holds Try.pinned (OpenSpec.upto regOneSpec)

/-- 'polyphonylaw05.EventBytes', WHERE WHAT IT READS IS OF BULK AT MOST 1048576: true; the input reads as it did. -/
def eventBytesUptoRow : OpenClaim := { program := "ythjneijkapopoaa", sum := "2694e7cf660adce432990fefbd2790516be426907fdaec8c7714fd087ecb3e92", func := "polyphony/polyphonylaw05.EventBytes", spec := "eventBytes", apart := false, narrowed := true }
def EventBytesUptoSaid : Prop := eventBytesUptoRow.holds Try.pinned (OpenSpec.upto eventBytesSpec)

/-- 'polyphonylaw05.EventOrders', WHERE WHAT IT READS IS OF BULK AT MOST 1048576: true; the input reads as it did. -/
def eventOrdersUptoRow : OpenClaim := { program := "ythjneijkapopoaa", sum := "2694e7cf660adce432990fefbd2790516be426907fdaec8c7714fd087ecb3e92", func := "polyphony/polyphonylaw05.EventOrders", spec := "eventOrders", apart := false, narrowed := true }
def EventOrdersUptoSaid : Prop := eventOrdersUptoRow.holds Try.pinned (OpenSpec.upto eventOrdersSpec)

/-- 'polyphonylaw05.EventRights', WHERE WHAT IT READS IS OF BULK AT MOST 1048576: true; the input reads as it did. -/
def eventRightsUptoRow : OpenClaim := { program := "ythjneijkapopoaa", sum := "2694e7cf660adce432990fefbd2790516be426907fdaec8c7714fd087ecb3e92", func := "polyphony/polyphonylaw05.EventRights", spec := "eventRights", apart := false, narrowed := true }
def EventRightsUptoSaid : Prop := eventRightsUptoRow.holds Try.pinned (OpenSpec.upto eventRightsSpec)

/-- 'polyphonylaw05.EventDecodes', WHERE WHAT IT READS IS OF BULK AT MOST 1048576: true; the input reads as it did. -/
def eventDecodesUptoRow : OpenClaim := { program := "ythjneijkapopoaa", sum := "2694e7cf660adce432990fefbd2790516be426907fdaec8c7714fd087ecb3e92", func := "polyphony/polyphonylaw05.EventDecodes", spec := "eventDecodes", apart := false, narrowed := true }
def EventDecodesUptoSaid : Prop := eventDecodesUptoRow.holds Try.pinned (OpenSpec.upto eventDecodesSpec)

/-- 'polyphonylaw05.EventBack', WHERE WHAT IT READS IS OF BULK AT MOST 1048576: true; the input reads as it did. -/
def eventBackUptoRow : OpenClaim := { program := "ythjneijkapopoaa", sum := "2694e7cf660adce432990fefbd2790516be426907fdaec8c7714fd087ecb3e92", func := "polyphony/polyphonylaw05.EventBack", spec := "eventBack", apart := false, narrowed := true }
def EventBackUptoSaid : Prop := eventBackUptoRow.holds Try.pinned (OpenSpec.upto eventBackSpec)

/-- 'polyphonylaw05.EventOne', WHERE WHAT IT READS IS OF BULK AT MOST 1048576: true; the input reads as it did. -/
def eventOneUptoRow : OpenClaim := { program := "ythjneijkapopoaa", sum := "2694e7cf660adce432990fefbd2790516be426907fdaec8c7714fd087ecb3e92", func := "polyphony/polyphonylaw05.EventOne", spec := "eventOne", apart := false, narrowed := true }
def EventOneUptoSaid : Prop := eventOneUptoRow.holds Try.pinned (OpenSpec.upto eventOneSpec)

end Rows
end Go.Proofs.Ythjneijkapopoaa
