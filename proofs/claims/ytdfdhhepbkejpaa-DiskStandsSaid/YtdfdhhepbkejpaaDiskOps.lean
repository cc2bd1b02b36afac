/-
  A script that came in, as the list of its calls.
-/
import Derived.Test.YtdfdhhepbkejpaaDiskDoes
import Derived.Test.YtdfdhhepbkejpaaFlatOpen
namespace Go.Proofs.Ytdfdhhepbkejpaa
open Go.Free Go.RowKit Go.Proofs

def kdsOp : List Kd := [.int .i64, .int .i64, .int .i64, .int .i64, .str]
theorem in64_wf {n : Int} (h : (Lit.int .i64 n).wf = true) : in64 n := by
  have k1 : IntKind.min .i64 = -9223372036854775808 := by decide +kernel
  have k2 : IntKind.max .i64 = 9223372036854775807 := by decide +kernel
  simp [Lit.wf] at h; unfold in64; omega
theorem op_of {c : List Value} (h : CellsOk kdsOp c) : ∃ o : OpV, c = o.enc ∧ o.okV := by
  obtain ⟨_, _, rfl, ⟨a, rfl, ha⟩, _, _, rfl, ⟨b, rfl, hb⟩, _, _, rfl, ⟨c, rfl, hc⟩, _, _, rfl, ⟨d, rfl, hd⟩, _, _, rfl, ⟨s, rfl, hs⟩, rfl⟩ := h
  refine ⟨⟨a, b, c, d, s.data.toList⟩, by simp [OpV.enc, str], in64_wf ha, in64_wf hb, in64_wf hc, in64_wf hd, ?_⟩
  simp only [maxLen, ByteArray.size] at hs
  simp only [Array.length_toList]; omega
theorem ops_of : ∀ (ls : List (List Value)), (∀ c ∈ ls, CellsOk kdsOp c) → ∃ sc : List OpV, sc.length = ls.length ∧ ls.flatten = sc.flatMap OpV.enc ∧ ∀ o ∈ sc, o.okV
  | [], _ => ⟨[], rfl, rfl, by simp⟩
  | c :: r, h => by
    obtain ⟨o, rfl, ho⟩ := op_of (h c List.mem_cons_self)
    obtain ⟨sc, h1, h2, h3⟩ := ops_of r (fun c hc => h c (List.mem_cons_of_mem _ hc))
    exact ⟨o :: sc, by simp [h1], by simp [h2], fun x hx => by rcases List.mem_cons.1 hx with rfl | hx; exact ho; exact h3 x hx⟩
end Go.Proofs.Ytdfdhhepbkejpaa
