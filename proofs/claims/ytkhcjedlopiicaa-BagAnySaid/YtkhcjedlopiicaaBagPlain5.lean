/-
  Bags, plain: bags of other things under the same dots.
-/
import Derived.Test.YtkhcjedlopiicaaBagPlain2
import Derived.Test.YtkhcjedlopiicaaBagDrop3I
import Derived.Test.YtkhcjedlopiicaaBagAllS
set_option linter.unusedSimpArgs false
set_option linter.unusedVariables false
set_option maxRecDepth 20000
namespace Go.Proofs.Ytkhcjedlopiicaa
open Go.Free Go.RowKit Go.Proofs
section
variable {α β : Type}
def mapX (f : α → β) (l : List (Dt × α)) : List (Dt × β) := l.map fun x => (x.1, f x.2)
theorem mapX_dots (f : α → β) (l : List (Dt × α)) : (mapX f l).map (·.1) = l.map (·.1) := by simp [mapX, Function.comp_def]
theorem sorted_mapX {f : α → β} {l : List (Dt × α)} (h : sortedD l) : sortedD (mapX f l) := by rw [sorted_map, mapX_dots, ← sorted_map]; exact h
theorem posD_mapX (f : α → β) (l : List (Dt × α)) (d : Dt) : posD (mapX f l) d = posD l d := by
  unfold posD mapX
  induction l with
  | nil => rfl
  | cons x l ih =>
    rw [List.map_cons, List.takeWhile_cons, List.takeWhile_cons]
    by_cases h : dlt x.1 d
    · rw [if_pos (by simpa using h), if_pos (by simpa using h), List.length_cons, List.length_cons, ih]
    · rw [if_neg (by simpa using h), if_neg (by simpa using h)]; rfl
theorem here_mapX (f : α → β) (l : List (Dt × α)) (d : Dt) : hereD (mapX f l) d = hereD l d := by
  unfold hereD
  rw [posD_mapX]
  unfold mapX
  rw [List.getElem?_map]
  cases l[posD l d]? <;> rfl
theorem put_mapX (f : α → β) (l : List (Dt × α)) (d : Dt) (x : α) : putD (mapX f l) d (f x) = mapX f (putD l d x) := by
  unfold putD
  rw [here_mapX, posD_mapX]
  split
  · unfold mapX; rw [List.map_set]
  · unfold insD mapX; simp [List.map_take, List.map_drop]
theorem rem_mapX (f : α → β) (l : List (Dt × α)) (d : Dt) : remD (mapX f l) d = mapX f (remD l d) := by
  unfold remD
  rw [here_mapX, posD_mapX]
  split
  · unfold mapX
    rw [List.eraseIdx_eq_take_drop_succ, List.eraseIdx_eq_take_drop_succ]; simp [List.map_take, List.map_drop]
  · rfl
theorem len_mapX (f : α → β) (l : List (Dt × α)) : (mapX f l).length = l.length := by simp [mapX]
end
def zS (x : Int) : List UInt8 := List.replicate x.toNat 0
theorem keep_mapX (v : Nat → Int) (l : List (Dt × Int)) : keepS v (fun _ => true) (mapX zS l) = mapX zS (keepI v (fun _ => true) l) := by
  unfold keepS keepI mapX
  rw [List.filter_map]
  rfl
def lowX (x : Int) : Nat := (BitVec.ofInt 64 x &&& BitVec.ofInt 64 63).toNat
theorem lowX_le (x : Int) : lowX x ≤ 63 := by
  unfold lowX
  rw [BitVec.toNat_and]
  exact Nat.le_trans Nat.and_le_right (by decide)
end Go.Proofs.Ytkhcjedlopiicaa
