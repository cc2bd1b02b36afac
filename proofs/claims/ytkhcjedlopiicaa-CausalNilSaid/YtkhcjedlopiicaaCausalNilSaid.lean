/-
  CausalNil returns true, for any event and vector.
-/
import Derived.Test.YtkhcjedlopiicaaCauNil
import Derived.WalkKit
import Derived.ProofKit
import Derived.OpenShut
import Derived.ShutString
import Derived.ChangeOld
import Derived.Below
import Derived.SliceStrings
namespace Go.Proofs.Ytkhcjedlopiicaa.causalNil
open Go.ChangeShapes Go.WideShapes Go.ChangeAt Go.RowKit Go.Free
open Go.ChangeMaps (open_string shut_string)
set_option linter.unusedVariables false

theorem own : ownKnob Try.prog.godebug = none := by kernel_rfl
theorem laidOut : laidOutB Try.prog = true := by kernel_rfl

theorem walk (a0 : List Value) (a1 : List Value) (w : World) (c0 : CellsOk kdsEvent a0) (c1 : CellsOk kdsVV a1) :
    Calls Try.prog 12 #[.agg a0.toArray, .agg a1.toArray] w fun e w' => e = .returned (.bool true) ∧ Below w.heap.size w w' := by
  refine (lawCauNilC a0 a1 c0 c1 w [.agg a0.toArray, .agg a1.toArray] ?_).mono ?_
  · exact ⟨_, _, rfl, rfl, ⟨_, _, rfl, rfl, rfl⟩⟩
  · rintro e w' ⟨v, rfl, hb, hR⟩
    have := hR 0 (Nat.zero_le _)
    simp only [Fa.den] at this
    exact ⟨by rw [this], hb⟩

set_option maxRecDepth 100000 in
theorem lifted (os : Os) (started : os.Started) (H : Type) (enc : TypeId × Value → H) :
    ReturnsInHanded {} Try.checked os 12 .any (Rows.causalNilSpec.pre6 enc Try.prog Try.f12 Rows.causalNilRow.domain false) (Rows.causalNilSpec.post enc Try.prog Try.f12 false true false false) := by
  refine returnsInHanded_of_change (C := Try.checked) own started (by kernel_rfl) Try.func12
    (ChangeSpec.witness6 (enc := enc) (C := Try.checked) false ⟨#[], #[.agg (Array.replicate 20 (.int .i64 0) ++ #[.string ByteArray.empty, .string ByteArray.empty, .string ByteArray.empty, .int .i64 0, .int .i64 0, .int .i64 0]), .agg (Array.replicate 16 (.int .i64 0))], []⟩ 8 (by kernel_rfl) (by kernel_rfl) (by kernel_rfl) (by kernel_rfl)) ?_
  intro W base args ds gs before hval0 hW hcnd _
  have hval : ∀ (j : Nat) t v, Try.f12.params[j]? = some t → args[j]? = some v → Value.okWide Try.prog W .any base t v := hval0
  have hW' := hW
  obtain ⟨p, q, hA0, hV, rfl, hfz, hnd⟩ := hW
  have hA : DataW.TrodAll enc Try.prog W 0 (fun _ => true) true Try.f12.params.toList args.toList ds p := hA0
  rw [Try.params12] at hA hval
  obtain ⟨v0, vs0, d0, ds0, p0, q0, hargs, rfl, rfl, h0, r0⟩ := trodAll_cons hA
  obtain ⟨v1, vs1, d1, ds1, p1, q1, rfl, rfl, rfl, h1, r1⟩ := trodAll_cons r0
  obtain ⟨rfl, rfl, rfl⟩ := trodAll_nil r1
  obtain rfl : args = #[v0, v1] := by cases args; simp_all
  obtain ⟨rfl, rfl⟩ := trodVars_none hV
  have k0 := h0
  have lt0 : ∀ x ∈ p0, x.block < W.heap.size := by obtain ⟨m, hm⟩ := k0; exact DataW.trod_lt m _ _ _ hm
  obtain ⟨z0, rfl, c0⟩ : ∃ z : List Value, v0 = .agg z.toArray ∧ CellsOk kdsEvent z := by
    have ov := hval 0 86 v0 rfl rfl
    simp only [Value.okWide, Try.underlying86] at ov
    obtain ⟨cs, rfl, _, _⟩ := ov
    obtain ⟨fuel, hf⟩ := h0
    exact ⟨cs.toList, by simp, flatT_ok 9 86 _ fuel _ _ (by kernel_rfl) hf⟩
  have k1 := h1
  have lt1 : ∀ x ∈ p1, x.block < W.heap.size := by obtain ⟨m, hm⟩ := k1; exact DataW.trod_lt m _ _ _ hm
  obtain ⟨z1, rfl, c1⟩ : ∃ z : List Value, v1 = .agg z.toArray ∧ CellsOk kdsVV z := by
    have ov := hval 1 42 v1 rfl rfl
    simp only [Value.okWide, Try.underlying42] at ov
    obtain ⟨cs, rfl, _, _⟩ := ov
    obtain ⟨fuel, hf⟩ := h1
    exact ⟨cs.toList, by simp, flatT_ok 9 42 _ fuel _ _ (by kernel_rfl) hf⟩
  clear hA0 hval0
  simp only [List.append_nil] at hW'
  refine (walk z0 z1 W c0 c1).mono fun e W' ⟨he, bel⟩ => ?_
  subst he
  exact ⟨_, rfl, _, _, _, [], _, [], hW', trodAll_mk1 (shut_bool Try.underlying4 _), (trodAll_cons_mk (Below.trod laidOut (by kernel_rfl) (of_decide_eq_true (by kernel_rfl)) k0 bel lt0) (trodAll_cons_mk (Below.trod laidOut (by kernel_rfl) (of_decide_eq_true (by kernel_rfl)) k1 bel lt1) trodAll_mk0)), rfl, bel.frame _, fun h => by cases h⟩

theorem over : Rows.causalNilRow.holds Try.pinned (OpenSpec.ofChange Rows.causalNilSpec) :=
  OpenClaim.holds_of_wide 12 Try.f12 rfl rfl rfl rfl rfl rfl rfl ⟨rfl, rfl, rfl, rfl, rfl⟩ rfl rfl rfl rfl rfl (by kernel_rfl) Try.func12 (by kernel_rfl)
    (of_decide_eq_true (by kernel_rfl)) (by unfold Func.isWrapper; first | (rw [if_pos (by decide +kernel)]; kernel_rfl) | (rw [if_neg (by decide +kernel)]; exact ⟨rfl, rfl⟩))
    (fun os started H enc _ => lifted os started H enc)

theorem proved : Rows.CausalNilSaid := over
#print axioms proved
end Go.Proofs.Ytkhcjedlopiicaa.causalNil
