/-
  No cell of these rows narrows 'for every input' (looked for: loops, veiled, ifaces, maps, wideKeys, modest, calm, conditions, laid).
  DERIVED. THE GIVEN ROWS OF THIS SEAT. 13 by the template 'for every input the law returns true; each argument reads behind the call as it read before'; 0 by the template 'total and deterministic' (their statements: YtpfnclecageleaaTotals.lean).
  GIVEN WITH THE SEED: the statements are not yours to turn. If you find one false, say at which input.
  Laid BY PROGRAM, IN A SANDBOX (cutbox-rows.mjs): the forced cells as the released guide's own fill.sh prints them over the translation af2c3c8a8f159a4b… (all of the seat's roots in one cut). By AI agents, Wed Nov 11 2026. No macro, syntax, notation, axiom, sorry.
-/
import Derived.Test.YtpfnclecageleaaChecked
import GoSem.Claim
import GoSem.ClaimJoined
import GoSem.ClaimMapViews
import Derived.JoinedTies
import Derived.KernelRfl
namespace Go.Proofs.Ytpfnclecageleaa
/- THE CELL 'sum', in the pinned program and in every row, IS THE sha256 OF THE DUMP (.gsa) THAT YtpfnclecageleaaProg.lean LOADS. Nothing in Lean hashes anything: it is a label: what it is worth is what the hold of that sum in a sandbox is worth. -/
noncomputable def Try.pinned : Pinned := { name := "ytpfnclecageleaa", sum := "af2c3c8a8f159a4be22c17a3240e79a50f775fefbe18434b86452c7fdf062046", checked := Try.checked }
namespace Rows
def none {H : Type} : Left H := { results := [], args := [] }

/-- 'polyphonylaw02.CrcLinear': WHATEVER THE INPUT: true; the input reads as it did. -/
def crcLinearSpec : ChangeSpec := { name := "crcLinear", fn := fun _ => fun
  | [d1, d2] => { results := [.lit (.bool true)], args := [d1, d2] }
  | _ => none }
def crcLinearRow : OpenClaim := { program := "ytpfnclecageleaa", sum := "af2c3c8a8f159a4be22c17a3240e79a50f775fefbe18434b86452c7fdf062046", func := "polyphony/polyphonylaw02.CrcLinear", spec := "crcLinear", apart := false }
def CrcLinearSaid : Prop := crcLinearRow.holds Try.pinned (OpenSpec.ofChange crcLinearSpec)

/-- ITS FALSE NEIGHBOUR: 'it returns false'. Refute it at one input. -/
def crcLinearWrong : ChangeSpec := { name := "crcLinear", fn := fun _ => fun
  | [d1, d2] => { results := [.lit (.bool false)], args := [d1, d2] }
  | _ => none }
def CrcLinearWrongFalsely : Prop := crcLinearRow.holds Try.pinned (OpenSpec.ofChange crcLinearWrong)

/-- 'polyphonylaw01.VlqOrders': WHATEVER THE INPUT: true; the input reads as it did. -/
def vlqOrdersSpec : ChangeSpec := { name := "vlqOrders", fn := fun _ => fun
  | [d1, d2] => { results := [.lit (.bool true)], args := [d1, d2] }
  | _ => none }
def vlqOrdersRow : OpenClaim := { program := "ytpfnclecageleaa", sum := "af2c3c8a8f159a4be22c17a3240e79a50f775fefbe18434b86452c7fdf062046", func := "polyphony/polyphonylaw01.VlqOrders", spec := "vlqOrders", apart := false }
def VlqOrdersSaid : Prop := vlqOrdersRow.holds Try.pinned (OpenSpec.ofChange vlqOrdersSpec)

/-- ITS FALSE NEIGHBOUR: 'it returns false'. Refute it at one input. -/
def vlqOrdersWrong : ChangeSpec := { name := "vlqOrders", fn := fun _ => fun
  | [d1, d2] => { results := [.lit (.bool false)], args := [d1, d2] }
  | _ => none }
def VlqOrdersWrongFalsely : Prop := vlqOrdersRow.holds Try.pinned (OpenSpec.ofChange vlqOrdersWrong)

/-- 'polyphonylaw01.VlqPuts': WHATEVER THE INPUT: true; the input reads as it did. -/
def vlqPutsSpec : ChangeSpec := { name := "vlqPuts", fn := fun _ => fun
  | [d1, d2, d3, d4] => { results := [.lit (.bool true)], args := [d1, d2, d3, d4] }
  | _ => none }
def vlqPutsRow : OpenClaim := { program := "ytpfnclecageleaa", sum := "af2c3c8a8f159a4be22c17a3240e79a50f775fefbe18434b86452c7fdf062046", func := "polyphony/polyphonylaw01.VlqPuts", spec := "vlqPuts", apart := false }
def VlqPutsSaid : Prop := vlqPutsRow.holds Try.pinned (OpenSpec.ofChange vlqPutsSpec)

/-- ITS FALSE NEIGHBOUR: 'it returns false'. Refute it at one input. -/
def vlqPutsWrong : ChangeSpec := { name := "vlqPuts", fn := fun _ => fun
  | [d1, d2, d3, d4] => { results := [.lit (.bool false)], args := [d1, d2, d3, d4] }
  | _ => none }
def VlqPutsWrongFalsely : Prop := vlqPutsRow.holds Try.pinned (OpenSpec.ofChange vlqPutsWrong)

/-- 'polyphonylaw01.VlqKeeps': WHATEVER THE INPUT: true; the input reads as it did. -/
def vlqKeepsSpec : ChangeSpec := { name := "vlqKeeps", fn := fun _ => fun
  | [d1, d2, d3] => { results := [.lit (.bool true)], args := [d1, d2, d3] }
  | _ => none }
def vlqKeepsRow : OpenClaim := { program := "ytpfnclecageleaa", sum := "af2c3c8a8f159a4be22c17a3240e79a50f775fefbe18434b86452c7fdf062046", func := "polyphony/polyphonylaw01.VlqKeeps", spec := "vlqKeeps", apart := false }
def VlqKeepsSaid : Prop := vlqKeepsRow.holds Try.pinned (OpenSpec.ofChange vlqKeepsSpec)

/-- ITS FALSE NEIGHBOUR: 'it returns false'. Refute it at one input. -/
def vlqKeepsWrong : ChangeSpec := { name := "vlqKeeps", fn := fun _ => fun
  | [d1, d2, d3] => { results := [.lit (.bool false)], args := [d1, d2, d3] }
  | _ => none }
def VlqKeepsWrongFalsely : Prop := vlqKeepsRow.holds Try.pinned (OpenSpec.ofChange vlqKeepsWrong)

/-- 'polyphonylaw02.CrcChecks': WHATEVER THE INPUT: true; the input reads as it did. -/
def crcChecksSpec : ChangeSpec := { name := "crcChecks", fn := fun _ => fun
  | [d] => { results := [.lit (.bool true)], args := [d] }
  | _ => none }
def crcChecksRow : OpenClaim := { program := "ytpfnclecageleaa", sum := "af2c3c8a8f159a4be22c17a3240e79a50f775fefbe18434b86452c7fdf062046", func := "polyphony/polyphonylaw02.CrcChecks", spec := "crcChecks", apart := false }
def CrcChecksSaid : Prop := crcChecksRow.holds Try.pinned (OpenSpec.ofChange crcChecksSpec)

/-- ITS FALSE NEIGHBOUR: 'it returns false'. Refute it at one input. -/
def crcChecksWrong : ChangeSpec := { name := "crcChecks", fn := fun _ => fun
  | [d] => { results := [.lit (.bool false)], args := [d] }
  | _ => none }
def CrcChecksWrongFalsely : Prop := crcChecksRow.holds Try.pinned (OpenSpec.ofChange crcChecksWrong)

/-- 'polyphonylaw02.CrcBack': WHATEVER THE INPUT: true; the input reads as it did. -/
def crcBackSpec : ChangeSpec := { name := "crcBack", fn := fun _ => fun
  | [d] => { results := [.lit (.bool true)], args := [d] }
  | _ => none }
def crcBackRow : OpenClaim := { program := "ytpfnclecageleaa", sum := "af2c3c8a8f159a4be22c17a3240e79a50f775fefbe18434b86452c7fdf062046", func := "polyphony/polyphonylaw02.CrcBack", spec := "crcBack", apart := false }
def CrcBackSaid : Prop := crcBackRow.holds Try.pinned (OpenSpec.ofChange crcBackSpec)

/-- ITS FALSE NEIGHBOUR: 'it returns false'. Refute it at one input. -/
def crcBackWrong : ChangeSpec := { name := "crcBack", fn := fun _ => fun
  | [d] => { results := [.lit (.bool false)], args := [d] }
  | _ => none }
def CrcBackWrongFalsely : Prop := crcBackRow.holds Try.pinned (OpenSpec.ofChange crcBackWrong)

/-- 'polyphonylaw02.CrcTurned': WHATEVER THE INPUT: true; the input reads as it did. -/
def crcTurnedSpec : ChangeSpec := { name := "crcTurned", fn := fun _ => fun
  | [d1, d2, d3] => { results := [.lit (.bool true)], args := [d1, d2, d3] }
  | _ => none }
def crcTurnedRow : OpenClaim := { program := "ytpfnclecageleaa", sum := "af2c3c8a8f159a4be22c17a3240e79a50f775fefbe18434b86452c7fdf062046", func := "polyphony/polyphonylaw02.CrcTurned", spec := "crcTurned", apart := false }
def CrcTurnedSaid : Prop := crcTurnedRow.holds Try.pinned (OpenSpec.ofChange crcTurnedSpec)

/-- ITS FALSE NEIGHBOUR: 'it returns false'. Refute it at one input. -/
def crcTurnedWrong : ChangeSpec := { name := "crcTurned", fn := fun _ => fun
  | [d1, d2, d3] => { results := [.lit (.bool false)], args := [d1, d2, d3] }
  | _ => none }
def CrcTurnedWrongFalsely : Prop := crcTurnedRow.holds Try.pinned (OpenSpec.ofChange crcTurnedWrong)

/-- 'polyphonylaw02.CrcKeeps': WHATEVER THE INPUT: true; the input reads as it did. -/
def crcKeepsSpec : ChangeSpec := { name := "crcKeeps", fn := fun _ => fun
  | [d] => { results := [.lit (.bool true)], args := [d] }
  | _ => none }
def crcKeepsRow : OpenClaim := { program := "ytpfnclecageleaa", sum := "af2c3c8a8f159a4be22c17a3240e79a50f775fefbe18434b86452c7fdf062046", func := "polyphony/polyphonylaw02.CrcKeeps", spec := "crcKeeps", apart := false }
def CrcKeepsSaid : Prop := crcKeepsRow.holds Try.pinned (OpenSpec.ofChange crcKeepsSpec)

/-- ITS FALSE NEIGHBOUR: 'it returns false'. Refute it at one input. -/
def crcKeepsWrong : ChangeSpec := { name := "crcKeeps", fn := fun _ => fun
  | [d] => { results := [.lit (.bool false)], args := [d] }
  | _ => none }
def CrcKeepsWrongFalsely : Prop := crcKeepsRow.holds Try.pinned (OpenSpec.ofChange crcKeepsWrong)

/-- 'polyphonylaw01.VlqOne': WHATEVER THE INPUT: true; the input reads as it did. -/
def vlqOneSpec : ChangeSpec := { name := "vlqOne", fn := fun _ => fun
  | [d1, d2] => { results := [.lit (.bool true)], args := [d1, d2] }
  | _ => none }
def vlqOneRow : OpenClaim := { program := "ytpfnclecageleaa", sum := "af2c3c8a8f159a4be22c17a3240e79a50f775fefbe18434b86452c7fdf062046", func := "polyphony/polyphonylaw01.VlqOne", spec := "vlqOne", apart := false }
def VlqOneSaid : Prop := vlqOneRow.holds Try.pinned (OpenSpec.ofChange vlqOneSpec)

/-- ITS FALSE NEIGHBOUR: 'it returns false'. Refute it at one input. -/
def vlqOneWrong : ChangeSpec := { name := "vlqOne", fn := fun _ => fun
  | [d1, d2] => { results := [.lit (.bool false)], args := [d1, d2] }
  | _ => none }
def VlqOneWrongFalsely : Prop := vlqOneRow.holds Try.pinned (OpenSpec.ofChange vlqOneWrong)

/-- 'polyphonylaw01.VlqRuns': WHATEVER THE INPUT: true; the input reads as it did. -/
def vlqRunsSpec : ChangeSpec := { name := "vlqRuns", fn := fun _ => fun
  | [d] => { results := [.lit (.bool true)], args := [d] }
  | _ => none }
def vlqRunsRow : OpenClaim := { program := "ytpfnclecageleaa", sum := "af2c3c8a8f159a4be22c17a3240e79a50f775fefbe18434b86452c7fdf062046", func := "polyphony/polyphonylaw01.VlqRuns", spec := "vlqRuns", apart := false }
def VlqRunsSaid : Prop := vlqRunsRow.holds Try.pinned (OpenSpec.ofChange vlqRunsSpec)

/-- ITS FALSE NEIGHBOUR: 'it returns false'. Refute it at one input. -/
def vlqRunsWrong : ChangeSpec := { name := "vlqRuns", fn := fun _ => fun
  | [d] => { results := [.lit (.bool false)], args := [d] }
  | _ => none }
def VlqRunsWrongFalsely : Prop := vlqRunsRow.holds Try.pinned (OpenSpec.ofChange vlqRunsWrong)

/-- 'polyphonylaw01.VlqTakes': WHATEVER THE INPUT: true; the input reads as it did. -/
def vlqTakesSpec : ChangeSpec := { name := "vlqTakes", fn := fun _ => fun
  | [d1, d2] => { results := [.lit (.bool true)], args := [d1, d2] }
  | _ => none }
def vlqTakesRow : OpenClaim := { program := "ytpfnclecageleaa", sum := "af2c3c8a8f159a4be22c17a3240e79a50f775fefbe18434b86452c7fdf062046", func := "polyphony/polyphonylaw01.VlqTakes", spec := "vlqTakes", apart := false }
def VlqTakesSaid : Prop := vlqTakesRow.holds Try.pinned (OpenSpec.ofChange vlqTakesSpec)

/-- ITS FALSE NEIGHBOUR: 'it returns false'. Refute it at one input. -/
def vlqTakesWrong : ChangeSpec := { name := "vlqTakes", fn := fun _ => fun
  | [d1, d2] => { results := [.lit (.bool false)], args := [d1, d2] }
  | _ => none }
def VlqTakesWrongFalsely : Prop := vlqTakesRow.holds Try.pinned (OpenSpec.ofChange vlqTakesWrong)

/-- 'polyphonylaw01.VlqBack': WHATEVER THE INPUT: true; the input reads as it did. -/
def vlqBackSpec : ChangeSpec := { name := "vlqBack", fn := fun _ => fun
  | [d1, d2, d3, d4, d5] => { results := [.lit (.bool true)], args := [d1, d2, d3, d4, d5] }
  | _ => none }
def vlqBackRow : OpenClaim := { program := "ytpfnclecageleaa", sum := "af2c3c8a8f159a4be22c17a3240e79a50f775fefbe18434b86452c7fdf062046", func := "polyphony/polyphonylaw01.VlqBack", spec := "vlqBack", apart := false }
def VlqBackSaid : Prop := vlqBackRow.holds Try.pinned (OpenSpec.ofChange vlqBackSpec)

/-- ITS FALSE NEIGHBOUR: 'it returns false'. Refute it at one input. -/
def vlqBackWrong : ChangeSpec := { name := "vlqBack", fn := fun _ => fun
  | [d1, d2, d3, d4, d5] => { results := [.lit (.bool false)], args := [d1, d2, d3, d4, d5] }
  | _ => none }
def VlqBackWrongFalsely : Prop := vlqBackRow.holds Try.pinned (OpenSpec.ofChange vlqBackWrong)

/-- 'polyphonylaw01.VlqTexts': WHATEVER THE INPUT: true; the input reads as it did. -/
def vlqTextsSpec : ChangeSpec := { name := "vlqTexts", fn := fun _ => fun
  | [d1, d2, d3] => { results := [.lit (.bool true)], args := [d1, d2, d3] }
  | _ => none }
def vlqTextsRow : OpenClaim := { program := "ytpfnclecageleaa", sum := "af2c3c8a8f159a4be22c17a3240e79a50f775fefbe18434b86452c7fdf062046", func := "polyphony/polyphonylaw01.VlqTexts", spec := "vlqTexts", apart := false }
def VlqTextsSaid : Prop := vlqTextsRow.holds Try.pinned (OpenSpec.ofChange vlqTextsSpec)

/-- ITS FALSE NEIGHBOUR: 'it returns false'. Refute it at one input. -/
def vlqTextsWrong : ChangeSpec := { name := "vlqTexts", fn := fun _ => fun
  | [d1, d2, d3] => { results := [.lit (.bool false)], args := [d1, d2, d3] }
  | _ => none }
def VlqTextsWrongFalsely : Prop := vlqTextsRow.holds Try.pinned (OpenSpec.ofChange vlqTextsWrong)

/- THE SECOND FORM. 'bulk': how many values and letters a reading holds, each counted each time it is reached (what is shared counts as often as it is met; a slice's spare places count too). A statement '..UptoSaid' is the law's where the arguments, and the package variables that the reading takes, are together of bulk at most 1048576: NARROWER than '..Said'. Prove '..Said' where nothing that the law and all that it calls make is longer than what came in: it says more and counts as full. Else prove '..UptoSaid'. A law counts once. -/
mutual
def uptoBulk {H : Type} : DataW H → Nat
  | .lit (.string bytes) => bytes.length + 1
  | .lit _ => 1
  | .nil => 1
  | .ptr d => uptoBulk d + 1
  | .slice elems spare => uptoBulkAll elems + uptoBulkAll spare + 1
  | .agg parts => uptoBulkAll parts + 1
  | .iface _ d => uptoBulk d + 1
  | .map entries => uptoBulkEntries entries + 1
  | .held _ => 1
def uptoBulkAll {H : Type} : List (DataW H) → Nat
  | [] => 0
  | d :: r => uptoBulk d + uptoBulkAll r
def uptoBulkEntries {H : Type} : List (Lit × DataW H) → Nat
  | [] => 0
  | x :: r => uptoBulkEntry x + uptoBulkEntries r
def uptoBulkEntry {H : Type} : Lit × DataW H → Nat
  | (.string bytes, d) => bytes.length + uptoBulk d + 1
  | (_, d) => uptoBulk d + 1
 end
def uptoSmall : (H : Type) → List (DataW H) → Bool := fun _ ds => decide (uptoBulkAll ds ≤ 1048576)
def OpenSpec.upto (s : _root_.Go.ChangeSpec) : _root_.Go.OpenSpec := { _root_.Go.OpenSpec.ofChange s with cond := some uptoSmall }

/-- 'polyphonylaw02.CrcLinear', WHERE WHAT IT READS IS OF BULK AT MOST 1048576: true; the input reads as it did. -/
def crcLinearUptoRow : OpenClaim := { program := "ytpfnclecageleaa", sum := "af2c3c8a8f159a4be22c17a3240e79a50f775fefbe18434b86452c7fdf062046", func := "polyphony/polyphonylaw02.CrcLinear", spec := "crcLinear", apart := false, narrowed := true }
def CrcLinearUptoSaid : Prop := crcLinearUptoRow.holds Try.pinned (OpenSpec.upto crcLinearSpec)

/-- 'polyphonylaw01.VlqOrders', WHERE WHAT IT READS IS OF BULK AT MOST 1048576: true; the input reads as it did. -/
def vlqOrdersUptoRow : OpenClaim := { program := "ytpfnclecageleaa", sum := "af2c3c8a8f159a4be22c17a3240e79a50f775fefbe18434b86452c7fdf062046", func := "polyphony/polyphonylaw01.VlqOrders", spec := "vlqOrders", apart := false, narrowed := true }
def VlqOrdersUptoSaid : Prop := vlqOrdersUptoRow.holds Try.pinned (OpenSpec.upto vlqOrdersSpec)

/-- 'polyphonylaw01.VlqPuts', WHERE WHAT IT READS IS OF BULK AT MOST 1048576: true; the input reads as it did. -/
def vlqPutsUptoRow : OpenClaim := { program := "ytpfnclecageleaa", sum := "af2c3c8a8f159a4be22c17a3240e79a50f775fefbe18434b86452c7fdf062046", func := "polyphony/polyphonylaw01.VlqPuts", spec := "vlqPuts", apart := false, narrowed := true }
def VlqPutsUptoSaid : Prop := vlqPutsUptoRow.holds Try.pinned (OpenSpec.upto vlqPutsSpec)

/-- 'polyphonylaw01.VlqKeeps', WHERE WHAT IT READS IS OF BULK AT MOST 1048576: true; the input reads as it did. -/
def vlqKeepsUptoRow : OpenClaim := { program := "ytpfnclecageleaa", sum := "af2c3c8a8f159a4be22c17a3240e79a50f775fefbe18434b86452c7fdf062046", func := "polyphony/polyphonylaw01.VlqKeeps", spec := "vlqKeeps", apart := false, narrowed := true }
def VlqKeepsUptoSaid : Prop := vlqKeepsUptoRow.holds Try.pinned (OpenSpec.upto vlqKeepsSpec)

/-- 'polyphonylaw02.CrcChecks', WHERE WHAT IT READS IS OF BULK AT MOST 1048576: true; the input reads as it did. -/
def crcChecksUptoRow : OpenClaim := { program := "ytpfnclecageleaa", sum := "af2c3c8a8f159a4be22c17a3240e79a50f775fefbe18434b86452c7fdf062046", func := "polyphony/polyphonylaw02.CrcChecks", spec := "crcChecks", apart := false, narrowed := true }
def CrcChecksUptoSaid : Prop := crcChecksUptoRow.holds Try.pinned (OpenSpec.upto crcChecksSpec)

/-- 'polyphonylaw02.CrcBack', WHERE WHAT IT READS IS OF BULK AT MOST 1048576: true; the input reads as it did. -/
def crcBackUptoRow : OpenClaim := { program := "ytpfnclecageleaa", sum := "af2c3c8a8f159a4be22c17a3240e79a50f775fefbe18434b86452c7fdf062046", func := "polyphony/polyphonylaw02.CrcBack", spec := "crcBack", apart := false, narrowed := true }
def CrcBackUptoSaid : Prop := crcBackUptoRow.holds Try.pinned (OpenSpec.upto crcBackSpec)

/-- 'polyphonylaw02.CrcTurned', WHERE WHAT IT READS IS OF BULK AT MOST 1048576: true; the input reads as it did. -/
def crcTurnedUptoRow : OpenClaim := { program := "ytpfnclecageleaa", sum := "af2c3c8a8f159a4be22c17a3240e79a50f775fefbe18434b86452c7fdf062046", func := "polyphony/polyphonylaw02.CrcTurned", spec := "crcTurned", apart := false, narrowed := true }
def CrcTurnedUptoSaid : Prop := crcTurnedUptoRow.holds Try.pinned (OpenSpec.upto crcTurnedSpec)

/-- 'polyphonylaw02.CrcKeeps', WHERE WHAT IT READS IS OF BULK AT MOST 1048576: true; the input reads as it did. -/
def crcKeepsUptoRow : OpenClaim := { program := "ytpfnclecageleaa", sum := "af2c3c8a8f159a4be22c17a3240e79a50f775fefbe18434b86452c7fdf062046", func := "polyphony/polyphonylaw02.CrcKeeps", spec := "crcKeeps", apart := false, narrowed := true }
def CrcKeepsUptoSaid : Prop := crcKeepsUptoRow.holds Try.pinned (OpenSpec.upto crcKeepsSpec)

/-- 'polyphonylaw01.VlqOne', WHERE WHAT IT READS IS OF BULK AT MOST 1048576: true; the input reads as it did. -/
def vlqOneUptoRow : OpenClaim := { program := "ytpfnclecageleaa", sum := "af2c3c8a8f159a4be22c17a3240e79a50f775fefbe18434b86452c7fdf062046", func := "polyphony/polyphonylaw01.VlqOne", spec := "vlqOne", apart := false, narrowed := true }
def VlqOneUptoSaid : Prop := vlqOneUptoRow.holds Try.pinned (OpenSpec.upto vlqOneSpec)

/-- 'polyphonylaw01.VlqRuns', WHERE WHAT IT READS IS OF BULK AT MOST 1048576: true; the input reads as it did. -/
def vlqRunsUptoRow : OpenClaim := { program := "ytpfnclecageleaa", sum := "af2c3c8a8f159a4be22c17a3240e79a50f775fefbe18434b86452c7fdf062046", func := "polyphony/polyphonylaw01.VlqRuns", spec := "vlqRuns", apart := false, narrowed := true }
def VlqRunsUptoSaid : Prop := vlqRunsUptoRow.holds Try.pinned (OpenSpec.upto vlqRunsSpec)

/-- 'polyphonylaw01.VlqTakes', WHERE WHAT IT READS IS OF BULK AT MOST 1048576: true; the input reads as it did. -/
def vlqTakesUptoRow : OpenClaim := { program := "ytpfnclecageleaa", sum := "af2c3c8a8f159a4be22c17a3240e79a50f775fefbe18434b86452c7fdf062046", func := "polyphony/polyphonylaw01.VlqTakes", spec := "vlqTakes", apart := false, narrowed := true }
def VlqTakesUptoSaid : Prop := vlqTakesUptoRow.holds Try.pinned (OpenSpec.upto vlqTakesSpec)

/-- 'polyphonylaw01.VlqBack', WHERE WHAT IT READS IS OF BULK AT MOST 1048576: true; the input reads as it did. -/
def vlqBackUptoRow : OpenClaim := { program := "ytpfnclecageleaa", sum := "af2c3c8a8f159a4be22c17a3240e79a50f775fefbe18434b86452c7fdf062046", func := "polyphony/polyphonylaw01.VlqBack", spec := "vlqBack", apart := false, narrowed := true }
def VlqBackUptoSaid : Prop := vlqBackUptoRow.holds Try.pinned (OpenSpec.upto vlqBackSpec)

/-- 'polyphonylaw01.VlqTexts', WHERE WHAT IT READS IS OF BULK AT MOST 1048576: true; the input reads as it did. -/
def vlqTextsUptoRow : OpenClaim := { program := "ytpfnclecageleaa", sum := "af2c3c8a8f159a4be22c17a3240e79a50f775fefbe18434b86452c7fdf062046", func := "polyphony/polyphonylaw01.VlqTexts", spec := "vlqTexts", apart := false, narrowed := true }
def VlqTextsUptoSaid : Prop := vlqTextsUptoRow.holds Try.pinned (OpenSpec.upto vlqTextsSpec)

end Rows
end Go.Proofs.Ytpfnclecageleaa
