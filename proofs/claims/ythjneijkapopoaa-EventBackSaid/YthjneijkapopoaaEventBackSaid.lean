/-
  EventBack returns true, for any events.
-/
import Derived.Test.YthjneijkapopoaaEvClaimD
import Derived.WalkKit
import Derived.ProofKit
import Derived.OpenShut
import Derived.ShutString
import Derived.ChangeOld
import Derived.Below
import Derived.SliceStrings
namespace Go.Proofs.Ythjneijkapopoaa.eventBack
open Go.ChangeShapes Go.WideShapes Go.ChangeAt Go.RowKit Go.Free
open Go.ChangeMaps (open_string shut_string)
set_option linter.unusedVariables false

theorem own : ownKnob Try.prog.godebug = none := by kernel_rfl
theorem laidOut : laidOutB Try.prog = true := by kernel_rfl

theorem walk (a0 : List Value) (a1 : Int) (a2 : Int) (w : World) (c0 : CellsOk kdsEvent a0) (w1 : (Lit.int .u64 a1).wf = true) (w2 : (Lit.int .u8 a2).wf = true) :
    Calls Try.prog 11 #[.agg a0.toArray, .int .u64 a1, .int .u8 a2] w fun e w' => e = .returned (.bool true) ∧ Below w.heap.size w w' := by
  have l1 : 0 ≤ a1 ∧ a1 ≤ 18446744073709551615 := by
    have := w1
    have k1 : IntKind.min .u64 = 0 := by decide +kernel
    have k2 : IntKind.max .u64 = 18446744073709551615 := by decide +kernel
    simp [Lit.wf] at this; omega
  have l2 : 0 ≤ a2 ∧ a2 ≤ 255 := by
    have := w2
    have k1 : IntKind.min .u8 = 0 := by decide +kernel
    have k2 : IntKind.max .u8 = 255 := by decide +kernel
    simp [Lit.wf] at this; omega
  refine (eventBackC a0 a1 a2 c0 l1 l2 w [.agg a0.toArray, .int .u64 a1, .int .u8 a2] ?_).mono ?_
  · exact ⟨_, _, rfl, rfl, ⟨_, _, rfl, rfl, ⟨_, _, rfl, rfl, rfl⟩⟩⟩
  · rintro e w' ⟨v, rfl, hb, hR⟩
    have := hR 0 (Nat.zero_le _)
    simp only [Fa.den] at this
    exact ⟨by rw [this], hb⟩

set_option maxRecDepth 100000 in
theorem lifted (os : Os) (started : os.Started) (H : Type) (enc : TypeId × Value → H) :
    ReturnsInHanded {} Try.checked os 11 .any (Rows.eventBackSpec.pre6 enc Try.prog Try.f11 Rows.eventBackRow.domain false) (Rows.eventBackSpec.post enc Try.prog Try.f11 false true false false) := by
  refine returnsInHanded_of_change (C := Try.checked) own started (by kernel_rfl) Try.func11
    (ChangeSpec.witness6 (enc := enc) (C := Try.checked) false ⟨#[], #[.agg (Array.replicate 20 (.int .i64 0) ++ #[.string ByteArray.empty, .string ByteArray.empty, .string ByteArray.empty, .int .i64 0, .int .i64 0, .int .i64 0]), .int .u64 0, .int .u8 0], []⟩ 8 (by kernel_rfl) (by kernel_rfl) (by kernel_rfl) (by kernel_rfl)) ?_
  intro W base args ds gs before hval0 hW hcnd _
  have hval : ∀ (j : Nat) t v, Try.f11.params[j]? = some t → args[j]? = some v → Value.okWide Try.prog W .any base t v := hval0
  have hW' := hW
  obtain ⟨p, q, hA0, hV, rfl, hfz, hnd⟩ := hW
  have hA : DataW.TrodAll enc Try.prog W 0 (fun _ => true) true Try.f11.params.toList args.toList ds p := hA0
  rw [Try.params11] at hA hval
  obtain ⟨v0, vs0, d0, ds0, p0, q0, hargs, rfl, rfl, h0, r0⟩ := trodAll_cons hA
  obtain ⟨v1, vs1, d1, ds1, p1, q1, rfl, rfl, rfl, h1, r1⟩ := trodAll_cons r0
  obtain ⟨v2, vs2, d2, ds2, p2, q2, rfl, rfl, rfl, h2, r2⟩ := trodAll_cons r1
  obtain ⟨rfl, rfl, rfl⟩ := trodAll_nil r2
  obtain rfl : args = #[v0, v1, v2] := by cases args; simp_all
  obtain ⟨rfl, rfl⟩ := trodVars_none hV
  have k0 := h0
  have lt0 : ∀ x ∈ p0, x.block < W.heap.size := by obtain ⟨m, hm⟩ := k0; exact DataW.trod_lt m _ _ _ hm
  obtain ⟨z0, rfl, c0⟩ : ∃ z : List Value, v0 = .agg z.toArray ∧ CellsOk kdsEvent z := by
    have ov := hval 0 31 v0 rfl rfl
    simp only [Value.okWide, Try.underlying31] at ov
    obtain ⟨cs, rfl, _, _⟩ := ov
    obtain ⟨fuel, hf⟩ := h0
    exact ⟨cs.toList, by simp, flatT_ok 9 31 _ fuel _ _ (by kernel_rfl) hf⟩
  obtain ⟨a1, rfl, rfl, rfl, w1⟩ := open_int Try.underlying37 (hval 1 37 v1 rfl rfl) h1
  obtain ⟨a2, rfl, rfl, rfl, w2⟩ := open_int Try.underlying5 (hval 2 5 v2 rfl rfl) h2
  clear hA0 hval0
  simp only [List.append_nil] at hW'
  refine (walk z0 a1 a2 W c0 w1 w2).mono fun e W' ⟨he, bel⟩ => ?_
  subst he
  exact ⟨_, rfl, _, _, _, [], _, [], hW', trodAll_mk1 (shut_bool Try.underlying4 _), (trodAll_cons_mk (Below.trod laidOut (by kernel_rfl) (of_decide_eq_true (by kernel_rfl)) k0 bel lt0) (trodAll_cons_mk (shut_int Try.underlying37 w1) (trodAll_cons_mk (shut_int Try.underlying5 w2) trodAll_mk0))), rfl, bel.frame _, fun h => by cases h⟩

theorem over : Rows.eventBackRow.holds Try.pinned (OpenSpec.ofChange Rows.eventBackSpec) :=
  OpenClaim.holds_of_wide 11 Try.f11 rfl rfl rfl rfl rfl rfl rfl ⟨rfl, rfl, rfl, rfl, rfl⟩ rfl rfl rfl rfl rfl (by kernel_rfl) Try.func11 (by kernel_rfl)
    (of_decide_eq_true (by kernel_rfl)) (by unfold Func.isWrapper; first | (rw [if_pos (by decide +kernel)]; kernel_rfl) | (rw [if_neg (by decide +kernel)]; exact ⟨rfl, rfl⟩))
    (fun os started H enc _ => lifted os started H enc)

theorem proved : Rows.EventBackSaid := over
#print axioms proved
end Go.Proofs.Ythjneijkapopoaa.eventBack
