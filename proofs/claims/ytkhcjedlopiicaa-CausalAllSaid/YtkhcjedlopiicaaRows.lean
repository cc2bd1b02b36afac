/-
  No cell of these rows narrows 'for every input' (looked for: loops, veiled, ifaces, maps, wideKeys, modest, calm, conditions, laid).
  DERIVED. THE GIVEN ROWS OF THIS SEAT. 11 by the template 'for every input the law returns true; each argument reads behind the call as it read before'; 0 by the template 'total and deterministic' (their statements: YtkhcjedlopiicaaTotals.lean).
  GIVEN WITH THE SEED: the statements are not yours to turn. If you find one false, say at which input.
  Laid BY PROGRAM, IN A SANDBOX (cutbox-rows.mjs): the forced cells as the released guide's own fill.sh prints them over the translation 8f1f9695befcc087… (all of the seat's roots in one cut). By AI agents, Wed Nov 11 2026. No macro, syntax, notation, axiom, sorry.
-/
import Derived.Test.YtkhcjedlopiicaaChecked
import GoSem.Claim
import GoSem.ClaimJoined
import GoSem.ClaimMapViews
import Derived.JoinedTies
import Derived.KernelRfl
namespace Go.Proofs.Ytkhcjedlopiicaa
/- THE CELL 'sum', in the pinned program and in every row, IS THE sha256 OF THE DUMP (.gsa) THAT YtkhcjedlopiicaaProg.lean LOADS. Nothing in Lean hashes anything: it is a label: what it is worth is what the hold of that sum in a sandbox is worth. -/
noncomputable def Try.pinned : Pinned := { name := "ytkhcjedlopiicaa", sum := "8f1f9695befcc08753e47daecfd86377d0f131bc7329d43482e9dcde081f3491", checked := Try.checked }
namespace Rows
def none {H : Type} : Left H := { results := [], args := [] }

/-- 'polyphonylaw09.BagOrder': WHATEVER THE INPUT: true; the input reads as it did. -/
def bagOrderSpec : ChangeSpec := { name := "bagOrder", fn := fun _ => fun
  | [d] => { results := [.lit (.bool true)], args := [d] }
  | _ => none }
def bagOrderRow : OpenClaim := { program := "ytkhcjedlopiicaa", sum := "8f1f9695befcc08753e47daecfd86377d0f131bc7329d43482e9dcde081f3491", func := "polyphony/polyphonylaw09.BagOrder", spec := "bagOrder", inPlace := ["slices.overlaps[polyphony/bag.Item[int]]"], unfollowed := true, recurses := true, apart := false }
def BagOrderSaid : Prop := bagOrderRow.holds Try.pinned (OpenSpec.ofChange bagOrderSpec)

/-- ITS FALSE NEIGHBOUR: 'it returns false'. Refute it at one input. -/
def bagOrderWrong : ChangeSpec := { name := "bagOrder", fn := fun _ => fun
  | [d] => { results := [.lit (.bool false)], args := [d] }
  | _ => none }
def BagOrderWrongFalsely : Prop := bagOrderRow.holds Try.pinned (OpenSpec.ofChange bagOrderWrong)

/-- 'polyphonylaw09.BagGets': WHATEVER THE INPUT: true; the input reads as it did. -/
def bagGetsSpec : ChangeSpec := { name := "bagGets", fn := fun _ => fun
  | [d1, d2, d3, d4] => { results := [.lit (.bool true)], args := [d1, d2, d3, d4] }
  | _ => none }
def bagGetsRow : OpenClaim := { program := "ytkhcjedlopiicaa", sum := "8f1f9695befcc08753e47daecfd86377d0f131bc7329d43482e9dcde081f3491", func := "polyphony/polyphonylaw09.BagGets", spec := "bagGets", inPlace := ["slices.overlaps[polyphony/bag.Item[int]]"], unfollowed := true, recurses := true, apart := false }
def BagGetsSaid : Prop := bagGetsRow.holds Try.pinned (OpenSpec.ofChange bagGetsSpec)

/-- ITS FALSE NEIGHBOUR: 'it returns false'. Refute it at one input. -/
def bagGetsWrong : ChangeSpec := { name := "bagGets", fn := fun _ => fun
  | [d1, d2, d3, d4] => { results := [.lit (.bool false)], args := [d1, d2, d3, d4] }
  | _ => none }
def BagGetsWrongFalsely : Prop := bagGetsRow.holds Try.pinned (OpenSpec.ofChange bagGetsWrong)

/-- 'polyphonylaw09.BagDrops': WHATEVER THE INPUT: true; the input reads as it did. -/
def bagDropsSpec : ChangeSpec := { name := "bagDrops", fn := fun _ => fun
  | [d1, d2, d3] => { results := [.lit (.bool true)], args := [d1, d2, d3] }
  | _ => none }
def bagDropsRow : OpenClaim := { program := "ytkhcjedlopiicaa", sum := "8f1f9695befcc08753e47daecfd86377d0f131bc7329d43482e9dcde081f3491", func := "polyphony/polyphonylaw09.BagDrops", spec := "bagDrops", inPlace := ["slices.overlaps[polyphony/bag.Item[int]]"], unfollowed := true, recurses := true, apart := false }
def BagDropsSaid : Prop := bagDropsRow.holds Try.pinned (OpenSpec.ofChange bagDropsSpec)

/-- ITS FALSE NEIGHBOUR: 'it returns false'. Refute it at one input. -/
def bagDropsWrong : ChangeSpec := { name := "bagDrops", fn := fun _ => fun
  | [d1, d2, d3] => { results := [.lit (.bool false)], args := [d1, d2, d3] }
  | _ => none }
def BagDropsWrongFalsely : Prop := bagDropsRow.holds Try.pinned (OpenSpec.ofChange bagDropsWrong)

/-- 'polyphonylaw09.BagPlays': WHATEVER THE INPUT: true; the input reads as it did. -/
def bagPlaysSpec : ChangeSpec := { name := "bagPlays", fn := fun _ => fun
  | [d1, d2] => { results := [.lit (.bool true)], args := [d1, d2] }
  | _ => none }
def bagPlaysRow : OpenClaim := { program := "ytkhcjedlopiicaa", sum := "8f1f9695befcc08753e47daecfd86377d0f131bc7329d43482e9dcde081f3491", func := "polyphony/polyphonylaw09.BagPlays", spec := "bagPlays", inPlace := ["slices.overlaps[polyphony/bag.Item[int]]"], unfollowed := true, recurses := true, apart := false }
def BagPlaysSaid : Prop := bagPlaysRow.holds Try.pinned (OpenSpec.ofChange bagPlaysSpec)

/-- ITS FALSE NEIGHBOUR: 'it returns false'. Refute it at one input. -/
def bagPlaysWrong : ChangeSpec := { name := "bagPlays", fn := fun _ => fun
  | [d1, d2] => { results := [.lit (.bool false)], args := [d1, d2] }
  | _ => none }
def BagPlaysWrongFalsely : Prop := bagPlaysRow.holds Try.pinned (OpenSpec.ofChange bagPlaysWrong)

/-- 'polyphonylaw09.BagAny': WHATEVER THE INPUT: true; the input reads as it did. -/
def bagAnySpec : ChangeSpec := { name := "bagAny", fn := fun _ => fun
  | [d] => { results := [.lit (.bool true)], args := [d] }
  | _ => none }
def bagAnyRow : OpenClaim := { program := "ytkhcjedlopiicaa", sum := "8f1f9695befcc08753e47daecfd86377d0f131bc7329d43482e9dcde081f3491", func := "polyphony/polyphonylaw09.BagAny", spec := "bagAny", inPlace := ["slices.overlaps[polyphony/bag.Item[int]]", "slices.overlaps[polyphony/bag.Item[string]]"], unfollowed := true, recurses := true, apart := false }
def BagAnySaid : Prop := bagAnyRow.holds Try.pinned (OpenSpec.ofChange bagAnySpec)

/-- ITS FALSE NEIGHBOUR: 'it returns false'. Refute it at one input. -/
def bagAnyWrong : ChangeSpec := { name := "bagAny", fn := fun _ => fun
  | [d] => { results := [.lit (.bool false)], args := [d] }
  | _ => none }
def BagAnyWrongFalsely : Prop := bagAnyRow.holds Try.pinned (OpenSpec.ofChange bagAnyWrong)

/-- 'polyphonylaw09.BagNil': WHATEVER THE INPUT: true; the input reads as it did. -/
def bagNilSpec : ChangeSpec := { name := "bagNil", fn := fun _ => fun
  | [d1, d2] => { results := [.lit (.bool true)], args := [d1, d2] }
  | _ => none }
def bagNilRow : OpenClaim := { program := "ytkhcjedlopiicaa", sum := "8f1f9695befcc08753e47daecfd86377d0f131bc7329d43482e9dcde081f3491", func := "polyphony/polyphonylaw09.BagNil", spec := "bagNil", inPlace := ["slices.overlaps[polyphony/bag.Item[int]]"], unfollowed := true, recurses := true, apart := false }
def BagNilSaid : Prop := bagNilRow.holds Try.pinned (OpenSpec.ofChange bagNilSpec)

/-- ITS FALSE NEIGHBOUR: 'it returns false'. Refute it at one input. -/
def bagNilWrong : ChangeSpec := { name := "bagNil", fn := fun _ => fun
  | [d1, d2] => { results := [.lit (.bool false)], args := [d1, d2] }
  | _ => none }
def BagNilWrongFalsely : Prop := bagNilRow.holds Try.pinned (OpenSpec.ofChange bagNilWrong)

/-- 'polyphonylaw18.CausalPlays': WHATEVER THE INPUT: true; the input reads as it did. -/
def causalPlaysSpec : ChangeSpec := { name := "causalPlays", fn := fun _ => fun
  | [d1, d2] => { results := [.lit (.bool true)], args := [d1, d2] }
  | _ => none }
def causalPlaysRow : OpenClaim := { program := "ytkhcjedlopiicaa", sum := "8f1f9695befcc08753e47daecfd86377d0f131bc7329d43482e9dcde081f3491", func := "polyphony/polyphonylaw18.CausalPlays", spec := "causalPlays", inPlace := ["slices.overlaps[polyphony/bag.Item[polyphony/api.Event]]"], unfollowed := true, recurses := true, apart := false }
def CausalPlaysSaid : Prop := causalPlaysRow.holds Try.pinned (OpenSpec.ofChange causalPlaysSpec)

/-- ITS FALSE NEIGHBOUR: 'it returns false'. Refute it at one input. -/
def causalPlaysWrong : ChangeSpec := { name := "causalPlays", fn := fun _ => fun
  | [d1, d2] => { results := [.lit (.bool false)], args := [d1, d2] }
  | _ => none }
def CausalPlaysWrongFalsely : Prop := causalPlaysRow.holds Try.pinned (OpenSpec.ofChange causalPlaysWrong)

/-- 'polyphonylaw18.CausalOnce': WHATEVER THE INPUT: true; the input reads as it did. -/
def causalOnceSpec : ChangeSpec := { name := "causalOnce", fn := fun _ => fun
  | [d] => { results := [.lit (.bool true)], args := [d] }
  | _ => none }
def causalOnceRow : OpenClaim := { program := "ytkhcjedlopiicaa", sum := "8f1f9695befcc08753e47daecfd86377d0f131bc7329d43482e9dcde081f3491", func := "polyphony/polyphonylaw18.CausalOnce", spec := "causalOnce", inPlace := ["slices.overlaps[polyphony/bag.Item[polyphony/api.Event]]"], unfollowed := true, recurses := true, apart := false }
def CausalOnceSaid : Prop := causalOnceRow.holds Try.pinned (OpenSpec.ofChange causalOnceSpec)

/-- ITS FALSE NEIGHBOUR: 'it returns false'. Refute it at one input. -/
def causalOnceWrong : ChangeSpec := { name := "causalOnce", fn := fun _ => fun
  | [d] => { results := [.lit (.bool false)], args := [d] }
  | _ => none }
def CausalOnceWrongFalsely : Prop := causalOnceRow.holds Try.pinned (OpenSpec.ofChange causalOnceWrong)

/-- 'polyphonylaw18.CausalAll': WHATEVER THE INPUT: true; the input reads as it did. -/
def causalAllSpec : ChangeSpec := { name := "causalAll", fn := fun _ => fun
  | [d1, d2] => { results := [.lit (.bool true)], args := [d1, d2] }
  | _ => none }
def causalAllRow : OpenClaim := { program := "ytkhcjedlopiicaa", sum := "8f1f9695befcc08753e47daecfd86377d0f131bc7329d43482e9dcde081f3491", func := "polyphony/polyphonylaw18.CausalAll", spec := "causalAll", inPlace := ["slices.overlaps[polyphony/bag.Item[polyphony/api.Event]]"], unfollowed := true, recurses := true, apart := false }
def CausalAllSaid : Prop := causalAllRow.holds Try.pinned (OpenSpec.ofChange causalAllSpec)

/-- ITS FALSE NEIGHBOUR: 'it returns false'. Refute it at one input. -/
def causalAllWrong : ChangeSpec := { name := "causalAll", fn := fun _ => fun
  | [d1, d2] => { results := [.lit (.bool false)], args := [d1, d2] }
  | _ => none }
def CausalAllWrongFalsely : Prop := causalAllRow.holds Try.pinned (OpenSpec.ofChange causalAllWrong)

/-- 'polyphonylaw18.CausalNil': WHATEVER THE INPUT: true; the input reads as it did. -/
def causalNilSpec : ChangeSpec := { name := "causalNil", fn := fun _ => fun
  | [d1, d2] => { results := [.lit (.bool true)], args := [d1, d2] }
  | _ => none }
def causalNilRow : OpenClaim := { program := "ytkhcjedlopiicaa", sum := "8f1f9695befcc08753e47daecfd86377d0f131bc7329d43482e9dcde081f3491", func := "polyphony/polyphonylaw18.CausalNil", spec := "causalNil", inPlace := ["slices.overlaps[polyphony/bag.Item[polyphony/api.Event]]"], unfollowed := true, recurses := true, apart := false }
def CausalNilSaid : Prop := causalNilRow.holds Try.pinned (OpenSpec.ofChange causalNilSpec)

/-- ITS FALSE NEIGHBOUR: 'it returns false'. Refute it at one input. -/
def causalNilWrong : ChangeSpec := { name := "causalNil", fn := fun _ => fun
  | [d1, d2] => { results := [.lit (.bool false)], args := [d1, d2] }
  | _ => none }
def CausalNilWrongFalsely : Prop := causalNilRow.holds Try.pinned (OpenSpec.ofChange causalNilWrong)

/-- 'polyphonylaw18.CausalAgain': WHATEVER THE INPUT: true; the input reads as it did. -/
def causalAgainSpec : ChangeSpec := { name := "causalAgain", fn := fun _ => fun
  | [d1, d2] => { results := [.lit (.bool true)], args := [d1, d2] }
  | _ => none }
def causalAgainRow : OpenClaim := { program := "ytkhcjedlopiicaa", sum := "8f1f9695befcc08753e47daecfd86377d0f131bc7329d43482e9dcde081f3491", func := "polyphony/polyphonylaw18.CausalAgain", spec := "causalAgain", inPlace := ["slices.overlaps[polyphony/bag.Item[polyphony/api.Event]]"], unfollowed := true, recurses := true, apart := false }
def CausalAgainSaid : Prop := causalAgainRow.holds Try.pinned (OpenSpec.ofChange causalAgainSpec)

/-- ITS FALSE NEIGHBOUR: 'it returns false'. Refute it at one input. -/
def causalAgainWrong : ChangeSpec := { name := "causalAgain", fn := fun _ => fun
  | [d1, d2] => { results := [.lit (.bool false)], args := [d1, d2] }
  | _ => none }
def CausalAgainWrongFalsely : Prop := causalAgainRow.holds Try.pinned (OpenSpec.ofChange causalAgainWrong)

/- THE SECOND FORM. 'bulk': how many values and letters a reading holds, each counted each time it is reached (what is shared counts as often as it is met; a slice's spare places count too). A statement '..UptoSaid' is the law's where the arguments, and the package variables that the reading takes, are together of bulk at most 1048576: NARROWER than '..Said'. Prove '..Said' where nothing that the law and all that it calls make is longer than what came in: it says more and counts as full. Else prove '..UptoSaid'. A law counts once. -/
mutual
def uptoBulk {H : Type} : DataW H → Nat
  | .lit (.string bytes) => bytes.length + 1
  | .lit _ => 1
  | .nil => 1
  | .ptr d => uptoBulk d + 1
  | .slice elems spare => uptoBulkAll elems + uptoBulkAll spare + 1
  | .agg parts => uptoBulkAll parts + 1
  | .iface _ d => uptoBulk d + 1
  | .map entries => uptoBulkEntries entries + 1
  | .held _ => 1
def uptoBulkAll {H : Type} : List (DataW H) → Nat
  | [] => 0
  | d :: r => uptoBulk d + uptoBulkAll r
def uptoBulkEntries {H : Type} : List (Lit × DataW H) → Nat
  | [] => 0
  | x :: r => uptoBulkEntry x + uptoBulkEntries r
def uptoBulkEntry {H : Type} : Lit × DataW H → Nat
  | (.string bytes, d) => bytes.length + uptoBulk d + 1
  | (_, d) => uptoBulk d + 1
 end
def uptoSmall : (H : Type) → List (DataW H) → Bool := fun _ ds => decide (uptoBulkAll ds ≤ 1048576)
def OpenSpec.upto (s : _root_.Go.ChangeSpec) : _root_.Go.OpenSpec := { _root_.Go.OpenSpec.ofChange s with cond := some uptoSmall }

/-- 'polyphonylaw09.BagOrder', WHERE WHAT IT READS IS OF BULK AT MOST 1048576: true; the input reads as it did. -/
def bagOrderUptoRow : OpenClaim := { program := "ytkhcjedlopiicaa", sum := "8f1f9695befcc08753e47daecfd86377d0f131bc7329d43482e9dcde081f3491", func := "polyphony/polyphonylaw09.BagOrder", spec := "bagOrder", inPlace := ["slices.overlaps[polyphony/bag.Item[int]]"], unfollowed := true, recurses := true, apart := false, narrowed := true }
def BagOrderUptoSaid : Prop := bagOrderUptoRow.holds Try.pinned (OpenSpec.upto bagOrderSpec)

/-- 'polyphonylaw09.BagGets', WHERE WHAT IT READS IS OF BULK AT MOST 1048576: true; the input reads as it did. -/
def bagGetsUptoRow : OpenClaim := { program := "ytkhcjedlopiicaa", sum := "8f1f9695befcc08753e47daecfd86377d0f131bc7329d43482e9dcde081f3491", func := "polyphony/polyphonylaw09.BagGets", spec := "bagGets", inPlace := ["slices.overlaps[polyphony/bag.Item[int]]"], unfollowed := true, recurses := true, apart := false, narrowed := true }
def BagGetsUptoSaid : Prop := bagGetsUptoRow.holds Try.pinned (OpenSpec.upto bagGetsSpec)

/-- 'polyphonylaw09.BagDrops', WHERE WHAT IT READS IS OF BULK AT MOST 1048576: true; the input reads as it did. -/
def bagDropsUptoRow : OpenClaim := { program := "ytkhcjedlopiicaa", sum := "8f1f9695befcc08753e47daecfd86377d0f131bc7329d43482e9dcde081f3491", func := "polyphony/polyphonylaw09.BagDrops", spec := "bagDrops", inPlace := ["slices.overlaps[polyphony/bag.Item[int]]"], unfollowed := true, recurses := true, apart := false, narrowed := true }
def BagDropsUptoSaid : Prop := bagDropsUptoRow.holds Try.pinned (OpenSpec.upto bagDropsSpec)

/-- 'polyphonylaw09.BagPlays', WHERE WHAT IT READS IS OF BULK AT MOST 1048576: true; the input reads as it did. -/
def bagPlaysUptoRow : OpenClaim := { program := "ytkhcjedlopiicaa", sum := "8f1f9695befcc08753e47daecfd86377d0f131bc7329d43482e9dcde081f3491", func := "polyphony/polyphonylaw09.BagPlays", spec := "bagPlays", inPlace := ["slices.overlaps[polyphony/bag.Item[int]]"], unfollowed := true, recurses := true, apart := false, narrowed := true }
def BagPlaysUptoSaid : Prop := bagPlaysUptoRow.holds Try.pinned (OpenSpec.upto bagPlaysSpec)

/-- 'polyphonylaw09.BagAny', WHERE WHAT IT READS IS OF BULK AT MOST 1048576: true; the input reads as it did. -/
def bagAnyUptoRow : OpenClaim := { program := "ytkhcjedlopiicaa", sum := "8f1f9695befcc08753e47daecfd86377d0f131bc7329d43482e9dcde081f3491", func := "polyphony/polyphonylaw09.BagAny", spec := "bagAny", inPlace := ["slices.overlaps[polyphony/bag.Item[int]]", "slices.overlaps[polyphony/bag.Item[string]]"], unfollowed := true, recurses := true, apart := false, narrowed := true }
def BagAnyUptoSaid : Prop := bagAnyUptoRow.holds Try.pinned (OpenSpec.upto bagAnySpec)

/-- 'polyphonylaw09.BagNil', WHERE WHAT IT READS IS OF BULK AT MOST 1048576: true; the input reads as it did. -/
def bagNilUptoRow : OpenClaim := { program := "ytkhcjedlopiicaa", sum := "8f1f9695befcc08753e47daecfd86377d0f131bc7329d43482e9dcde081f3491", func := "polyphony/polyphonylaw09.BagNil", spec := "bagNil", inPlace := ["slices.overlaps[polyphony/bag.Item[int]]"], unfollowed := true, recurses := true, apart := false, narrowed := true }
def BagNilUptoSaid : Prop := bagNilUptoRow.holds Try.pinned (OpenSpec.upto bagNilSpec)

/-- 'polyphonylaw18.CausalPlays', WHERE WHAT IT READS IS OF BULK AT MOST 1048576: true; the input reads as it did. -/
def causalPlaysUptoRow : OpenClaim := { program := "ytkhcjedlopiicaa", sum := "8f1f9695befcc08753e47daecfd86377d0f131bc7329d43482e9dcde081f3491", func := "polyphony/polyphonylaw18.CausalPlays", spec := "causalPlays", inPlace := ["slices.overlaps[polyphony/bag.Item[polyphony/api.Event]]"], unfollowed := true, recurses := true, apart := false, narrowed := true }
def CausalPlaysUptoSaid : Prop := causalPlaysUptoRow.holds Try.pinned (OpenSpec.upto causalPlaysSpec)

/-- 'polyphonylaw18.CausalOnce', WHERE WHAT IT READS IS OF BULK AT MOST 1048576: true; the input reads as it did. -/
def causalOnceUptoRow : OpenClaim := { program := "ytkhcjedlopiicaa", sum := "8f1f9695befcc08753e47daecfd86377d0f131bc7329d43482e9dcde081f3491", func := "polyphony/polyphonylaw18.CausalOnce", spec := "causalOnce", inPlace := ["slices.overlaps[polyphony/bag.Item[polyphony/api.Event]]"], unfollowed := true, recurses := true, apart := false, narrowed := true }
def CausalOnceUptoSaid : Prop := causalOnceUptoRow.holds Try.pinned (OpenSpec.upto causalOnceSpec)

/-- 'polyphonylaw18.CausalAll', WHERE WHAT IT READS IS OF BULK AT MOST 1048576: true; the input reads as it did. -/
def causalAllUptoRow : OpenClaim := { program := "ytkhcjedlopiicaa", sum := "8f1f9695befcc08753e47daecfd86377d0f131bc7329d43482e9dcde081f3491", func := "polyphony/polyphonylaw18.CausalAll", spec := "causalAll", inPlace := ["slices.overlaps[polyphony/bag.Item[polyphony/api.Event]]"], unfollowed := true, recurses := true, apart := false, narrowed := true }
def CausalAllUptoSaid : Prop := causalAllUptoRow.holds Try.pinned (OpenSpec.upto causalAllSpec)

/-- 'polyphonylaw18.CausalNil', WHERE WHAT IT READS IS OF BULK AT MOST 1048576: true; the input reads as it did. -/
def causalNilUptoRow : OpenClaim := { program := "ytkhcjedlopiicaa", sum := "8f1f9695befcc08753e47daecfd86377d0f131bc7329d43482e9dcde081f3491", func := "polyphony/polyphonylaw18.CausalNil", spec := "causalNil", inPlace := ["slices.overlaps[polyphony/bag.Item[polyphony/api.Event]]"], unfollowed := true, recurses := true, apart := false, narrowed := true }
def CausalNilUptoSaid : Prop := causalNilUptoRow.holds Try.pinned (OpenSpec.upto causalNilSpec)

/-- 'polyphonylaw18.CausalAgain', WHERE WHAT IT READS IS OF BULK AT MOST 1048576: true; the input reads as it did. -/
def causalAgainUptoRow : OpenClaim := { program := "ytkhcjedlopiicaa", sum := "8f1f9695befcc08753e47daecfd86377d0f131bc7329d43482e9dcde081f3491", func := "polyphony/polyphonylaw18.CausalAgain", spec := "causalAgain", inPlace := ["slices.overlaps[polyphony/bag.Item[polyphony/api.Event]]"], unfollowed := true, recurses := true, apart := false, narrowed := true }
def CausalAgainUptoSaid : Prop := causalAgainUptoRow.holds Try.pinned (OpenSpec.upto causalAgainSpec)

end Rows
end Go.Proofs.Ytkhcjedlopiicaa
