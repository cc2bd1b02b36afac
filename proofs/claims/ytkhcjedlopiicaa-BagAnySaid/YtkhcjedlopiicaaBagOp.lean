/-
  The law's calls; a drop of all.
-/
import Derived.Test.YtkhcjedlopiicaaBagCmp
import Derived.Test.YtkhcjedlopiicaaFreeFrame
set_option linter.unusedSimpArgs false
set_option linter.unusedVariables false
set_option maxRecDepth 20000
namespace Go.Proofs.Ytkhcjedlopiicaa
open Go.Free Go.RowKit Go.Proofs
set_option maxHeartbeats 4000000

theorem whNil : WhOkI .nilFunc (fun _ => true) := .inl ⟨rfl, rfl⟩
structure OpB where
  k : Int
  d : Dt
  x : Int
  v : Nat → Int
def OpB.enc (o : OpB) : List Value := vi o.k :: vi o.d.1 :: vi o.d.2 :: vi o.x :: vList o.v
def ob0 : OpB := ⟨0, (0, 0), 0, fun _ => 0⟩
theorem encB (o : OpB) : o.enc.length = 20 := rfl
abbrev opsB (sc : List OpB) : Fa := row 20 (sc.flatMap OpB.enc)
theorem eltOpB : Elt Try.prog 45 52 (.agg ob0.enc.toArray) 20 160 := Elt.mk' Try.underlying45 (by kernel_rfl) rfl (by decide) (by decide)
theorem encB_one (o : OpB) : ∀ u ∈ o.enc, u.oneCell' = true := by simp [OpB.enc, vList, Value.oneCell']
theorem vv_of {c : List Value} (h : CellsOk kdsVV c) : ∃ v : Nat → Int, c = vList v := by
  obtain ⟨_, _, rfl, ⟨d0, rfl, g0⟩, _, _, rfl, ⟨d1, rfl, g1⟩, _, _, rfl, ⟨d2, rfl, g2⟩, _, _, rfl, ⟨d3, rfl, g3⟩, _, _, rfl, ⟨d4, rfl, g4⟩, _, _, rfl, ⟨d5, rfl, g5⟩, _, _, rfl, ⟨d6, rfl, g6⟩, _, _, rfl, ⟨d7, rfl, g7⟩,
    _, _, rfl, ⟨d8, rfl, g8⟩, _, _, rfl, ⟨d9, rfl, g9⟩, _, _, rfl, ⟨d10, rfl, g10⟩, _, _, rfl, ⟨d11, rfl, g11⟩, _, _, rfl, ⟨d12, rfl, g12⟩, _, _, rfl, ⟨d13, rfl, g13⟩, _, _, rfl, ⟨d14, rfl, g14⟩, _, _, rfl, ⟨d15, rfl, g15⟩, rfl⟩ := h
  exact ⟨fun i => [d0, d1, d2, d3, d4, d5, d6, d7, d8, d9, d10, d11, d12, d13, d14, d15].getD i 0, rfl⟩
def kdsOp9 : List Kd := List.replicate 20 (.int .i64)
theorem opB_of {c : List Value} (h : CellsOk kdsOp9 c) : ∃ o : OpB, c = o.enc ∧ okD o.d ∧ in64 o.x := by
  obtain ⟨_, _, rfl, ⟨k, rfl, hk⟩, _, _, rfl, ⟨r, rfl, hr⟩, _, _, rfl, ⟨n, rfl, hn⟩, _, _, rfl, ⟨x, rfl, hx⟩, h⟩ := h
  obtain ⟨v, rfl⟩ := vv_of (show CellsOk kdsVV _ from h)
  exact ⟨⟨k, (r, n), x, v⟩, rfl, ⟨in64_wf.1 hr, in64_wf.1 hn⟩, in64_wf.1 hx⟩
theorem opsB_of : ∀ (ls : List (List Value)), (∀ c ∈ ls, CellsOk kdsOp9 c) → ∃ sc : List OpB, sc.length = ls.length ∧ ls.flatten = sc.flatMap OpB.enc ∧ ∀ o ∈ sc, okD o.d ∧ in64 o.x
  | [], _ => ⟨[], rfl, rfl, by simp⟩
  | c :: r, h => by
    obtain ⟨o, rfl, ho⟩ := opB_of (h c List.mem_cons_self)
    obtain ⟨sc, h1, h2, h3⟩ := opsB_of r (fun c hc => h c (List.mem_cons_of_mem _ hc))
    exact ⟨o :: sc, by simp [h1], by simp [h2], fun x hx => by rcases List.mem_cons.1 hx with rfl | hx; exact ho; exact h3 x hx⟩
end Go.Proofs.Ytkhcjedlopiicaa
