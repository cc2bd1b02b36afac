/-
  No cell of these rows narrows 'for every input' (looked for: loops, veiled, ifaces, maps, wideKeys, modest, calm, conditions, laid).
  DERIVED. THE GIVEN ROWS OF THIS SEAT. 6 by the template 'for every input the law returns true; each argument reads behind the call as it read before'; 0 by the template 'total and deterministic' (their statements: YtfglecmimoeinaaTotals.lean).
  GIVEN WITH THE SEED: the statements are not yours to turn. If you find one false, say at which input.
  Laid BY PROGRAM, IN A SANDBOX (cutbox-rows.mjs): the forced cells as the released guide's own fill.sh prints them over the translation 878ffc69d8137773… (all of the seat's roots in one cut). By AI agents, Wed Nov 11 2026. No macro, syntax, notation, axiom, sorry.
-/
import Derived.Test.YtfglecmimoeinaaChecked
import GoSem.Claim
import GoSem.ClaimJoined
import GoSem.ClaimMapViews
import Derived.JoinedTies
import Derived.KernelRfl
namespace Go.Proofs.Ytfglecmimoeinaa
/- THE CELL 'sum', in the pinned program and in every row, IS THE sha256 OF THE DUMP (.gsa) THAT YtfglecmimoeinaaProg.lean LOADS. Nothing in Lean hashes anything: it is a label: what it is worth is what the hold of that sum in a sandbox is worth. -/
noncomputable def Try.pinned : Pinned := { name := "ytfglecmimoeinaa", sum := "878ffc69d8137773f8173f2e14870c90f1240c62f3f6e8eed5a2dba20b450baf", checked := Try.checked }
namespace Rows
def none {H : Type} : Left H := { results := [], args := [] }

/-- 'polyphonylaw16.RgaOrders': WHATEVER THE INPUT: true; the input reads as it did. -/
def rgaOrdersSpec : ChangeSpec := { name := "rgaOrders", fn := fun _ => fun
  | [d1, d2, d3] => { results := [.lit (.bool true)], args := [d1, d2, d3] }
  | _ => none }
def rgaOrdersRow : OpenClaim := { program := "ytfglecmimoeinaa", sum := "878ffc69d8137773f8173f2e14870c90f1240c62f3f6e8eed5a2dba20b450baf", func := "polyphony/polyphonylaw16.RgaOrders", spec := "rgaOrders", unfollowed := true, recurses := true, apart := false }
def RgaOrdersSaid : Prop := rgaOrdersRow.holds Try.pinned (OpenSpec.ofChange rgaOrdersSpec)

/-- ITS FALSE NEIGHBOUR: 'it returns false'. Refute it at one input. -/
def rgaOrdersWrong : ChangeSpec := { name := "rgaOrders", fn := fun _ => fun
  | [d1, d2, d3] => { results := [.lit (.bool false)], args := [d1, d2, d3] }
  | _ => none }
def RgaOrdersWrongFalsely : Prop := rgaOrdersRow.holds Try.pinned (OpenSpec.ofChange rgaOrdersWrong)

/-- 'polyphonylaw16.RgaOrder': WHATEVER THE INPUT: true; the input reads as it did. -/
def rgaOrderSpec : ChangeSpec := { name := "rgaOrder", fn := fun _ => fun
  | [d1, d2, d3] => { results := [.lit (.bool true)], args := [d1, d2, d3] }
  | _ => none }
def rgaOrderRow : OpenClaim := { program := "ytfglecmimoeinaa", sum := "878ffc69d8137773f8173f2e14870c90f1240c62f3f6e8eed5a2dba20b450baf", func := "polyphony/polyphonylaw16.RgaOrder", spec := "rgaOrder", unfollowed := true, recurses := true, apart := false }
def RgaOrderSaid : Prop := rgaOrderRow.holds Try.pinned (OpenSpec.ofChange rgaOrderSpec)

/-- ITS FALSE NEIGHBOUR: 'it returns false'. Refute it at one input. -/
def rgaOrderWrong : ChangeSpec := { name := "rgaOrder", fn := fun _ => fun
  | [d1, d2, d3] => { results := [.lit (.bool false)], args := [d1, d2, d3] }
  | _ => none }
def RgaOrderWrongFalsely : Prop := rgaOrderRow.holds Try.pinned (OpenSpec.ofChange rgaOrderWrong)

/-- 'polyphonylaw16.RgaAll': WHATEVER THE INPUT: true; the input reads as it did. -/
def rgaAllSpec : ChangeSpec := { name := "rgaAll", fn := fun _ => fun
  | [d1, d2] => { results := [.lit (.bool true)], args := [d1, d2] }
  | _ => none }
def rgaAllRow : OpenClaim := { program := "ytfglecmimoeinaa", sum := "878ffc69d8137773f8173f2e14870c90f1240c62f3f6e8eed5a2dba20b450baf", func := "polyphony/polyphonylaw16.RgaAll", spec := "rgaAll", unfollowed := true, recurses := true, apart := false }
def RgaAllSaid : Prop := rgaAllRow.holds Try.pinned (OpenSpec.ofChange rgaAllSpec)

/-- ITS FALSE NEIGHBOUR: 'it returns false'. Refute it at one input. -/
def rgaAllWrong : ChangeSpec := { name := "rgaAll", fn := fun _ => fun
  | [d1, d2] => { results := [.lit (.bool false)], args := [d1, d2] }
  | _ => none }
def RgaAllWrongFalsely : Prop := rgaAllRow.holds Try.pinned (OpenSpec.ofChange rgaAllWrong)

/-- 'polyphonylaw16.RgaLeaves': WHATEVER THE INPUT: true; the input reads as it did. -/
def rgaLeavesSpec : ChangeSpec := { name := "rgaLeaves", fn := fun _ => fun
  | [d1, d2, d3] => { results := [.lit (.bool true)], args := [d1, d2, d3] }
  | _ => none }
def rgaLeavesRow : OpenClaim := { program := "ytfglecmimoeinaa", sum := "878ffc69d8137773f8173f2e14870c90f1240c62f3f6e8eed5a2dba20b450baf", func := "polyphony/polyphonylaw16.RgaLeaves", spec := "rgaLeaves", unfollowed := true, recurses := true, apart := false }
def RgaLeavesSaid : Prop := rgaLeavesRow.holds Try.pinned (OpenSpec.ofChange rgaLeavesSpec)

/-- ITS FALSE NEIGHBOUR: 'it returns false'. Refute it at one input. -/
def rgaLeavesWrong : ChangeSpec := { name := "rgaLeaves", fn := fun _ => fun
  | [d1, d2, d3] => { results := [.lit (.bool false)], args := [d1, d2, d3] }
  | _ => none }
def RgaLeavesWrongFalsely : Prop := rgaLeavesRow.holds Try.pinned (OpenSpec.ofChange rgaLeavesWrong)

/-- 'polyphonylaw16.RgaApart': WHATEVER THE INPUT: true; the input reads as it did. -/
def rgaApartSpec : ChangeSpec := { name := "rgaApart", fn := fun _ => fun
  | [d1, d2] => { results := [.lit (.bool true)], args := [d1, d2] }
  | _ => none }
def rgaApartRow : OpenClaim := { program := "ytfglecmimoeinaa", sum := "878ffc69d8137773f8173f2e14870c90f1240c62f3f6e8eed5a2dba20b450baf", func := "polyphony/polyphonylaw16.RgaApart", spec := "rgaApart", unfollowed := true, recurses := true, apart := false }
def RgaApartSaid : Prop := rgaApartRow.holds Try.pinned (OpenSpec.ofChange rgaApartSpec)

/-- ITS FALSE NEIGHBOUR: 'it returns false'. Refute it at one input. -/
def rgaApartWrong : ChangeSpec := { name := "rgaApart", fn := fun _ => fun
  | [d1, d2] => { results := [.lit (.bool false)], args := [d1, d2] }
  | _ => none }
def RgaApartWrongFalsely : Prop := rgaApartRow.holds Try.pinned (OpenSpec.ofChange rgaApartWrong)

/-- 'polyphonylaw16.RgaRemoves': WHATEVER THE INPUT: true; the input reads as it did. -/
def rgaRemovesSpec : ChangeSpec := { name := "rgaRemoves", fn := fun _ => fun
  | [d1, d2, d3] => { results := [.lit (.bool true)], args := [d1, d2, d3] }
  | _ => none }
def rgaRemovesRow : OpenClaim := { program := "ytfglecmimoeinaa", sum := "878ffc69d8137773f8173f2e14870c90f1240c62f3f6e8eed5a2dba20b450baf", func := "polyphony/polyphonylaw16.RgaRemoves", spec := "rgaRemoves", unfollowed := true, recurses := true, apart := false }
def RgaRemovesSaid : Prop := rgaRemovesRow.holds Try.pinned (OpenSpec.ofChange rgaRemovesSpec)

/-- ITS FALSE NEIGHBOUR: 'it returns false'. Refute it at one input. -/
def rgaRemovesWrong : ChangeSpec := { name := "rgaRemoves", fn := fun _ => fun
  | [d1, d2, d3] => { results := [.lit (.bool false)], args := [d1, d2, d3] }
  | _ => none }
def RgaRemovesWrongFalsely : Prop := rgaRemovesRow.holds Try.pinned (OpenSpec.ofChange rgaRemovesWrong)

/- THE SECOND FORM. 'bulk': how many values and letters a reading holds, each counted each time it is reached (what is shared counts as often as it is met; a slice's spare places count too). A statement '..UptoSaid' is the law's where the arguments, and the package variables that the reading takes, are together of bulk at most 1048576: NARROWER than '..Said'. Prove '..Said' where nothing that the law and all that it calls make is longer than what came in: it says more and counts as full. Else prove '..UptoSaid'. A law counts once. -/
mutual
def uptoBulk {H : Type} : DataW H → Nat
  | .lit (.string bytes) => bytes.length + 1
  | .lit _ => 1
  | .nil => 1
  | .ptr d => uptoBulk d + 1
  | .slice elems spare => uptoBulkAll elems + uptoBulkAll spare + 1
  | .agg parts => uptoBulkAll parts + 1
  | .iface _ d => uptoBulk d + 1
  | .map entries => uptoBulkEntries entries + 1
  | .held _ => 1
def uptoBulkAll {H : Type} : List (DataW H) → Nat
  | [] => 0
  | d :: r => uptoBulk d + uptoBulkAll r
def uptoBulkEntries {H : Type} : List (Lit × DataW H) → Nat
  | [] => 0
  | x :: r => uptoBulkEntry x + uptoBulkEntries r
def uptoBulkEntry {H : Type} : Lit × DataW H → Nat
  | (.string bytes, d) => bytes.length + uptoBulk d + 1
  | (_, d) => uptoBulk d + 1
 end
def uptoSmall : (H : Type) → List (DataW H) → Bool := fun _ ds => decide (uptoBulkAll ds ≤ 1048576)
def OpenSpec.upto (s : _root_.Go.ChangeSpec) : _root_.Go.OpenSpec := { _root_.Go.OpenSpec.ofChange s with cond := some uptoSmall }

/-- 'polyphonylaw16.RgaOrders', WHERE WHAT IT READS IS OF BULK AT MOST 1048576: true; the input reads as it did. -/
def rgaOrdersUptoRow : OpenClaim := { program := "ytfglecmimoeinaa", sum := "878ffc69d8137773f8173f2e14870c90f1240c62f3f6e8eed5a2dba20b450baf", func := "polyphony/polyphonylaw16.RgaOrders", spec := "rgaOrders", unfollowed := true, recurses := true, apart := false, narrowed := true }
def RgaOrdersUptoSaid : Prop := rgaOrdersUptoRow.holds Try.pinned (OpenSpec.upto rgaOrdersSpec)

/-- 'polyphonylaw16.RgaOrder', WHERE WHAT IT READS IS OF BULK AT MOST 1048576: true; the input reads as it did. -/
def rgaOrderUptoRow : OpenClaim := { program := "ytfglecmimoeinaa", sum := "878ffc69d8137773f8173f2e14870c90f1240c62f3f6e8eed5a2dba20b450baf", func := "polyphony/polyphonylaw16.RgaOrder", spec := "rgaOrder", unfollowed := true, recurses := true, apart := false, narrowed := true }
def RgaOrderUptoSaid : Prop := rgaOrderUptoRow.holds Try.pinned (OpenSpec.upto rgaOrderSpec)

/-- 'polyphonylaw16.RgaAll', WHERE WHAT IT READS IS OF BULK AT MOST 1048576: true; the input reads as it did. -/
def rgaAllUptoRow : OpenClaim := { program := "ytfglecmimoeinaa", sum := "878ffc69d8137773f8173f2e14870c90f1240c62f3f6e8eed5a2dba20b450baf", func := "polyphony/polyphonylaw16.RgaAll", spec := "rgaAll", unfollowed := true, recurses := true, apart := false, narrowed := true }
def RgaAllUptoSaid : Prop := rgaAllUptoRow.holds Try.pinned (OpenSpec.upto rgaAllSpec)

/-- 'polyphonylaw16.RgaLeaves', WHERE WHAT IT READS IS OF BULK AT MOST 1048576: true; the input reads as it did. -/
def rgaLeavesUptoRow : OpenClaim := { program := "ytfglecmimoeinaa", sum := "878ffc69d8137773f8173f2e14870c90f1240c62f3f6e8eed5a2dba20b450baf", func := "polyphony/polyphonylaw16.RgaLeaves", spec := "rgaLeaves", unfollowed := true, recurses := true, apart := false, narrowed := true }
def RgaLeavesUptoSaid : Prop := rgaLeavesUptoRow.holds Try.pinned (OpenSpec.upto rgaLeavesSpec)

/-- 'polyphonylaw16.RgaApart', WHERE WHAT IT READS IS OF BULK AT MOST 1048576: true; the input reads as it did. -/
def rgaApartUptoRow : OpenClaim := { program := "ytfglecmimoeinaa", sum := "878ffc69d8137773f8173f2e14870c90f1240c62f3f6e8eed5a2dba20b450baf", func := "polyphony/polyphonylaw16.RgaApart", spec := "rgaApart", unfollowed := true, recurses := true, apart := false, narrowed := true }
def RgaApartUptoSaid : Prop := rgaApartUptoRow.holds Try.pinned (OpenSpec.upto rgaApartSpec)

/-- 'polyphonylaw16.RgaRemoves', WHERE WHAT IT READS IS OF BULK AT MOST 1048576: true; the input reads as it did. -/
def rgaRemovesUptoRow : OpenClaim := { program := "ytfglecmimoeinaa", sum := "878ffc69d8137773f8173f2e14870c90f1240c62f3f6e8eed5a2dba20b450baf", func := "polyphony/polyphonylaw16.RgaRemoves", spec := "rgaRemoves", unfollowed := true, recurses := true, apart := false, narrowed := true }
def RgaRemovesUptoSaid : Prop := rgaRemovesUptoRow.holds Try.pinned (OpenSpec.upto rgaRemovesSpec)

end Rows
end Go.Proofs.Ytfglecmimoeinaa
