/-
  Room with spare behind its end: what the Keeps laws of crc and vlq share.
-/
import Derived.Test.YtpfnclecageleaaFreeMore
import Derived.Test.YtpfnclecageleaaFreeRoom
namespace Go.Proofs.Ytpfnclecageleaa
open Go.Free Go.RowKit Go.Proofs
abbrev newB (w0 : World) : Nat → Prop := fun b => w0.heap.size ≤ b
theorem room_take (b : List UInt8) (k m : Nat) (h : b.length ≤ m) : (bs b ++ (bs (List.replicate (b.length + k) 0)).drop m).take b.length = bs b := by
  rw [List.take_append_of_le_length (by rw [bs_length]; omega), ← bs_length b, List.take_length]
theorem room_at (b : List UInt8) (k i : Nat) (h1 : b.length ≤ i) (h2 : i < b.length + k) : (bs b ++ (bs (List.replicate (b.length + k) 0)).drop b.length)[0 + i * 1]? = some (.int .u8 0) := by
  rw [show 0 + i * 1 = i by omega, List.getElem?_append_right (by rw [bs_length]; omega), List.getElem?_drop, bs_length, show b.length + (i - b.length) = i by omega]
  simp [bs, h2]
theorem bs_at {l : List UInt8} {i : Nat} (h : i < l.length) : (bs l)[0 + i * 1]? = some (.int .u8 (l.getD i 0).toNat) := by
  rw [show 0 + i * 1 = i by omega]
  simp only [bs]
  rw [List.getElem?_map, List.getElem?_eq_getElem h, List.getD_eq_getElem?_getD, List.getElem?_eq_getElem h]
  rfl
abbrev roomO (g : Nat) (b : List UInt8) (k : Nat) : Chunk := obj g (bs b ++ (bs (List.replicate (b.length + k) 0)).drop b.length)
abbrev roomV (g n c : Nat) : Fa := .ex (.slice (some ⟨g, 0, none⟩) n c)
end Go.Proofs.Ytpfnclecageleaa
