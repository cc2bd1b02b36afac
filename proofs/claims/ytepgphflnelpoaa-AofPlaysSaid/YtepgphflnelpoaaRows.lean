/-
  No cell of these rows narrows 'for every input' (looked for: loops, veiled, ifaces, maps, wideKeys, modest, calm, conditions, laid).
  DERIVED. THE GIVEN ROWS OF THIS SEAT. 6 by the template 'for every input the law returns true; each argument reads behind the call as it read before'; 0 by the template 'total and deterministic' (their statements: YtepgphflnelpoaaTotals.lean).
  GIVEN WITH THE SEED: the statements are not yours to turn. If you find one false, say at which input.
  Laid BY PROGRAM, IN A SANDBOX (cutbox-rows.mjs): the forced cells as the released guide's own fill.sh prints them over the translation f31361446af95e51… (all of the seat's roots in one cut). By AI agents, Wed Nov 11 2026. No macro, syntax, notation, axiom, sorry.
-/
import Derived.Test.YtepgphflnelpoaaChecked
import GoSem.Claim
import GoSem.ClaimJoined
import GoSem.ClaimMapViews
import Derived.JoinedTies
import Derived.KernelRfl
namespace Go.Proofs.Ytepgphflnelpoaa
/- THE CELL 'sum', in the pinned program and in every row, IS THE sha256 OF THE DUMP (.gsa) THAT YtepgphflnelpoaaProg.lean LOADS. Nothing in Lean hashes anything: it is a label: what it is worth is what the hold of that sum in a sandbox is worth. -/
noncomputable def Try.pinned : Pinned := { name := "ytepgphflnelpoaa", sum := "f31361446af95e518a0e5b77644392dc297cccb792c2574d65529e680b795fd6", checked := Try.checked }
namespace Rows
def none {H : Type} : Left H := { results := [], args := [] }

/-- 'polyphonylaw08.AofOpens': WHATEVER THE INPUT: true; the input reads as it did. -/
def aofOpensSpec : ChangeSpec := { name := "aofOpens", fn := fun _ => fun
  | [d] => { results := [.lit (.bool true)], args := [d] }
  | _ => none }
def aofOpensRow : OpenClaim := { program := "ytepgphflnelpoaa", sum := "f31361446af95e518a0e5b77644392dc297cccb792c2574d65529e680b795fd6", func := "polyphony/polyphonylaw08.AofOpens", spec := "aofOpens", apart := false }
def AofOpensSaid : Prop := aofOpensRow.holds Try.pinned (OpenSpec.ofChange aofOpensSpec)

/-- ITS FALSE NEIGHBOUR: 'it returns false'. Refute it at one input. -/
def aofOpensWrong : ChangeSpec := { name := "aofOpens", fn := fun _ => fun
  | [d] => { results := [.lit (.bool false)], args := [d] }
  | _ => none }
def AofOpensWrongFalsely : Prop := aofOpensRow.holds Try.pinned (OpenSpec.ofChange aofOpensWrong)

/-- 'polyphonylaw08.AofKeeps': WHATEVER THE INPUT: true; the input reads as it did. -/
def aofKeepsSpec : ChangeSpec := { name := "aofKeeps", fn := fun _ => fun
  | [d1, d2] => { results := [.lit (.bool true)], args := [d1, d2] }
  | _ => none }
def aofKeepsRow : OpenClaim := { program := "ytepgphflnelpoaa", sum := "f31361446af95e518a0e5b77644392dc297cccb792c2574d65529e680b795fd6", func := "polyphony/polyphonylaw08.AofKeeps", spec := "aofKeeps", apart := false }
def AofKeepsSaid : Prop := aofKeepsRow.holds Try.pinned (OpenSpec.ofChange aofKeepsSpec)

/-- ITS FALSE NEIGHBOUR: 'it returns false'. Refute it at one input. -/
def aofKeepsWrong : ChangeSpec := { name := "aofKeeps", fn := fun _ => fun
  | [d1, d2] => { results := [.lit (.bool false)], args := [d1, d2] }
  | _ => none }
def AofKeepsWrongFalsely : Prop := aofKeepsRow.holds Try.pinned (OpenSpec.ofChange aofKeepsWrong)

/-- 'polyphonylaw08.AofNil': WHATEVER THE INPUT: true; the input reads as it did. -/
def aofNilSpec : ChangeSpec := { name := "aofNil", fn := fun _ => fun
  | [d1, d2] => { results := [.lit (.bool true)], args := [d1, d2] }
  | _ => none }
def aofNilRow : OpenClaim := { program := "ytepgphflnelpoaa", sum := "f31361446af95e518a0e5b77644392dc297cccb792c2574d65529e680b795fd6", func := "polyphony/polyphonylaw08.AofNil", spec := "aofNil", apart := false }
def AofNilSaid : Prop := aofNilRow.holds Try.pinned (OpenSpec.ofChange aofNilSpec)

/-- ITS FALSE NEIGHBOUR: 'it returns false'. Refute it at one input. -/
def aofNilWrong : ChangeSpec := { name := "aofNil", fn := fun _ => fun
  | [d1, d2] => { results := [.lit (.bool false)], args := [d1, d2] }
  | _ => none }
def AofNilWrongFalsely : Prop := aofNilRow.holds Try.pinned (OpenSpec.ofChange aofNilWrong)

/-- 'polyphonylaw08.AofCrashes': WHATEVER THE INPUT: true; the input reads as it did. -/
def aofCrashesSpec : ChangeSpec := { name := "aofCrashes", fn := fun _ => fun
  | [d1, d2, d3, d4, d5] => { results := [.lit (.bool true)], args := [d1, d2, d3, d4, d5] }
  | _ => none }
def aofCrashesRow : OpenClaim := { program := "ytepgphflnelpoaa", sum := "f31361446af95e518a0e5b77644392dc297cccb792c2574d65529e680b795fd6", func := "polyphony/polyphonylaw08.AofCrashes", spec := "aofCrashes", apart := false }
def AofCrashesSaid : Prop := aofCrashesRow.holds Try.pinned (OpenSpec.ofChange aofCrashesSpec)

/-- ITS FALSE NEIGHBOUR: 'it returns false'. Refute it at one input. -/
def aofCrashesWrong : ChangeSpec := { name := "aofCrashes", fn := fun _ => fun
  | [d1, d2, d3, d4, d5] => { results := [.lit (.bool false)], args := [d1, d2, d3, d4, d5] }
  | _ => none }
def AofCrashesWrongFalsely : Prop := aofCrashesRow.holds Try.pinned (OpenSpec.ofChange aofCrashesWrong)

/-- 'polyphonylaw08.AofRewrites': WHATEVER THE INPUT: true; the input reads as it did. -/
def aofRewritesSpec : ChangeSpec := { name := "aofRewrites", fn := fun _ => fun
  | [d1, d2, d3, d4, d5, d6] => { results := [.lit (.bool true)], args := [d1, d2, d3, d4, d5, d6] }
  | _ => none }
def aofRewritesRow : OpenClaim := { program := "ytepgphflnelpoaa", sum := "f31361446af95e518a0e5b77644392dc297cccb792c2574d65529e680b795fd6", func := "polyphony/polyphonylaw08.AofRewrites", spec := "aofRewrites", apart := false }
def AofRewritesSaid : Prop := aofRewritesRow.holds Try.pinned (OpenSpec.ofChange aofRewritesSpec)

/-- ITS FALSE NEIGHBOUR: 'it returns false'. Refute it at one input. -/
def aofRewritesWrong : ChangeSpec := { name := "aofRewrites", fn := fun _ => fun
  | [d1, d2, d3, d4, d5, d6] => { results := [.lit (.bool false)], args := [d1, d2, d3, d4, d5, d6] }
  | _ => none }
def AofRewritesWrongFalsely : Prop := aofRewritesRow.holds Try.pinned (OpenSpec.ofChange aofRewritesWrong)

/-- 'polyphonylaw08.AofPlays': WHATEVER THE INPUT: true; the input reads as it did. -/
def aofPlaysSpec : ChangeSpec := { name := "aofPlays", fn := fun _ => fun
  | [d1, d2] => { results := [.lit (.bool true)], args := [d1, d2] }
  | _ => none }
def aofPlaysRow : OpenClaim := { program := "ytepgphflnelpoaa", sum := "f31361446af95e518a0e5b77644392dc297cccb792c2574d65529e680b795fd6", func := "polyphony/polyphonylaw08.AofPlays", spec := "aofPlays", apart := false }
def AofPlaysSaid : Prop := aofPlaysRow.holds Try.pinned (OpenSpec.ofChange aofPlaysSpec)

/-- ITS FALSE NEIGHBOUR: 'it returns false'. Refute it at one input. -/
def aofPlaysWrong : ChangeSpec := { name := "aofPlays", fn := fun _ => fun
  | [d1, d2] => { results := [.lit (.bool false)], args := [d1, d2] }
  | _ => none }
def AofPlaysWrongFalsely : Prop := aofPlaysRow.holds Try.pinned (OpenSpec.ofChange aofPlaysWrong)

/- THE SECOND FORM. 'bulk': how many values and letters a reading holds, each counted each time it is reached (what is shared counts as often as it is met; a slice's spare places count too). A statement '..UptoSaid' is the law's where the arguments, and the package variables that the reading takes, are together of bulk at most 1048576: NARROWER than '..Said'. Prove '..Said' where nothing that the law and all that it calls make is longer than what came in: it says more and counts as full. Else prove '..UptoSaid'. A law counts once. -/
mutual
def uptoBulk {H : Type} : DataW H → Nat
  | .lit (.string bytes) => bytes.length + 1
  | .lit _ => 1
  | .nil => 1
  | .ptr d => uptoBulk d + 1
  | .slice elems spare => uptoBulkAll elems + uptoBulkAll spare + 1
  | .agg parts => uptoBulkAll parts + 1
  | .iface _ d => uptoBulk d + 1
  | .map entries => uptoBulkEntries entries + 1
  | .held _ => 1
def uptoBulkAll {H : Type} : List (DataW H) → Nat
  | [] => 0
  | d :: r => uptoBulk d + uptoBulkAll r
def uptoBulkEntries {H : Type} : List (Lit × DataW H) → Nat
  | [] => 0
  | x :: r => uptoBulkEntry x + uptoBulkEntries r
def uptoBulkEntry {H : Type} : Lit × DataW H → Nat
  | (.string bytes, d) => bytes.length + uptoBulk d + 1
  | (_, d) => uptoBulk d + 1
 end
def uptoSmall : (H : Type) → List (DataW H) → Bool := fun _ ds => decide (uptoBulkAll ds ≤ 1048576)
def OpenSpec.upto (s : _root_.Go.ChangeSpec) : _root_.Go.OpenSpec := { _root_.Go.OpenSpec.ofChange s with cond := some uptoSmall }

/-- 'polyphonylaw08.AofOpens', WHERE WHAT IT READS IS OF BULK AT MOST 1048576: true; the input reads as it did. -/
def aofOpensUptoRow : OpenClaim := { program := "ytepgphflnelpoaa", sum := "f31361446af95e518a0e5b77644392dc297cccb792c2574d65529e680b795fd6", func := "polyphony/polyphonylaw08.AofOpens", spec := "aofOpens", apart := false, narrowed := true }
def AofOpensUptoSaid : Prop := aofOpensUptoRow.holds Try.pinned (OpenSpec.upto aofOpensSpec)

/-- 'polyphonylaw08.AofKeeps', WHERE WHAT IT READS IS OF BULK AT MOST 1048576: true; the input reads as it did. -/
def aofKeepsUptoRow : OpenClaim := { program := "ytepgphflnelpoaa", sum := "f31361446af95e518a0e5b77644392dc297cccb792c2574d65529e680b795fd6", func := "polyphony/polyphonylaw08.AofKeeps", spec := "aofKeeps", apart := false, narrowed := true }
def AofKeepsUptoSaid : Prop := aofKeepsUptoRow.holds Try.pinned (OpenSpec.upto aofKeepsSpec)

/-- 'polyphonylaw08.AofNil', WHERE WHAT IT READS IS OF BULK AT MOST 1048576: true; the input reads as it did. -/
def aofNilUptoRow : OpenClaim := { program := "ytepgphflnelpoaa", sum := "f31361446af95e518a0e5b77644392dc297cccb792c2574d65529e680b795fd6", func := "polyphony/polyphonylaw08.AofNil", spec := "aofNil", apart := false, narrowed := true }
def AofNilUptoSaid : Prop := aofNilUptoRow.holds Try.pinned (OpenSpec.upto aofNilSpec)

/-- 'polyphonylaw08.AofCrashes', WHERE WHAT IT READS IS OF BULK AT MOST 1048576: true; the input reads as it did. -/
def aofCrashesUptoRow : OpenClaim := { program := "ytepgphflnelpoaa", sum := "f31361446af95e518a0e5b77644392dc297cccb792c2574d65529e680b795fd6", func := "polyphony/polyphonylaw08.AofCrashes", spec := "aofCrashes", apart := false, narrowed := true }
def AofCrashesUptoSaid : Prop := aofCrashesUptoRow.holds Try.pinned (OpenSpec.upto aofCrashesSpec)

/-- 'polyphonylaw08.AofRewrites', WHERE WHAT IT READS IS OF BULK AT MOST 1048576: true; the input reads as it did. -/
def aofRewritesUptoRow : OpenClaim := { program := "ytepgphflnelpoaa", sum := "f31361446af95e518a0e5b77644392dc297cccb792c2574d65529e680b795fd6", func := "polyphony/polyphonylaw08.AofRewrites", spec := "aofRewrites", apart := false, narrowed := true }
def AofRewritesUptoSaid : Prop := aofRewritesUptoRow.holds Try.pinned (OpenSpec.upto aofRewritesSpec)

/-- 'polyphonylaw08.AofPlays', WHERE WHAT IT READS IS OF BULK AT MOST 1048576: true; the input reads as it did. -/
def aofPlaysUptoRow : OpenClaim := { program := "ytepgphflnelpoaa", sum := "f31361446af95e518a0e5b77644392dc297cccb792c2574d65529e680b795fd6", func := "polyphony/polyphonylaw08.AofPlays", spec := "aofPlays", apart := false, narrowed := true }
def AofPlaysUptoSaid : Prop := aofPlaysUptoRow.holds Try.pinned (OpenSpec.upto aofPlaysSpec)

end Rows
end Go.Proofs.Ytepgphflnelpoaa
