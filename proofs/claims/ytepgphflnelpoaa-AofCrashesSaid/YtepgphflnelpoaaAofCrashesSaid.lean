/-
  AofCrashes returns true, for any calls, any crash and any event.
-/
import Derived.Test.YtepgphflnelpoaaAofJ
import Derived.WalkKit
import Derived.ProofKit
import Derived.OpenShut
import Derived.ShutString
import Derived.ChangeOld
import Derived.Below
import Derived.SliceStrings
namespace Go.Proofs.Ytepgphflnelpoaa.aofCrashes
open Go.ChangeShapes Go.WideShapes Go.ChangeAt Go.RowKit Go.Free
open Go.ChangeMaps (open_string shut_string)
set_option linter.unusedVariables false

theorem own : ownKnob Try.prog.godebug = none := by kernel_rfl
theorem laidOut : laidOutB Try.prog = true := by kernel_rfl

theorem walk (v0 : Value) (a0 : List (List Value)) (a1 : Int) (a2 : Int) (a3 : Int) (a4 : List Value) (w : World) (u0 : a0.length ≤ 9223372036854775807) (c0 : ∀ c ∈ a0, CellsIn w kns8 c) (w0 : rowH 32 a0.flatten w v0) (w1 : (Lit.int .i64 a1).wf = true) (w2 : (Lit.int .i64 a2).wf = true) (w3 : (Lit.int .i64 a3).wf = true) (c4 : CellsOk kdsEvent a4) :
    Calls Try.prog 6 #[v0, .int .i64 a1, .int .i64 a2, .int .i64 a3, .agg a4.toArray] w fun e w' => e = .returned (.bool true) ∧ Below w.heap.size w w' := by
  obtain ⟨o0, n0, m0, r0⟩ := ops8_of a0 c0
  rw [m0] at w0
  have l1 : -9223372036854775808 ≤ a1 ∧ a1 ≤ 9223372036854775807 := by
    have := w1
    have k1 : IntKind.min .i64 = -9223372036854775808 := by decide +kernel
    have k2 : IntKind.max .i64 = 9223372036854775807 := by decide +kernel
    simp [Lit.wf] at this; omega
  have l2 : -9223372036854775808 ≤ a2 ∧ a2 ≤ 9223372036854775807 := by
    have := w2
    have k1 : IntKind.min .i64 = -9223372036854775808 := by decide +kernel
    have k2 : IntKind.max .i64 = 9223372036854775807 := by decide +kernel
    simp [Lit.wf] at this; omega
  have l3 : -9223372036854775808 ≤ a3 ∧ a3 ≤ 9223372036854775807 := by
    have := w3
    have k1 : IntKind.min .i64 = -9223372036854775808 := by decide +kernel
    have k2 : IntKind.max .i64 = 9223372036854775807 := by decide +kernel
    simp [Lit.wf] at this; omega
  refine (lawCrC o0 a1 a2 a3 a4 (by omega) (fun x hx => (r0 x hx).1) l1 l2 l3 c4 w [v0, .int .i64 a1, .int .i64 a2, .int .i64 a3, .agg a4.toArray] ?_).mono ?_
  · exact ⟨_, _, rfl, (show opsH o0 w v0 from ⟨w0, fun x hx => (r0 x hx).2⟩), ⟨_, _, rfl, rfl, ⟨_, _, rfl, rfl, ⟨_, _, rfl, rfl, ⟨_, _, rfl, rfl, rfl⟩⟩⟩⟩⟩
  · rintro e w' ⟨v, rfl, hb, hR⟩
    have := hR 0 (Nat.zero_le _)
    simp only [Fa.den] at this
    exact ⟨by rw [this], hb⟩

set_option maxRecDepth 100000 in
theorem lifted (os : Os) (started : os.Started) (H : Type) (enc : TypeId × Value → H) :
    ReturnsInHanded {} Try.checked os 6 .any (Rows.aofCrashesSpec.pre6 enc Try.prog Try.f6 Rows.aofCrashesRow.domain false) (Rows.aofCrashesSpec.post enc Try.prog Try.f6 false true false false) := by
  refine returnsInHanded_of_change (C := Try.checked) own started (by kernel_rfl) Try.func6
    (ChangeSpec.witness6 (enc := enc) (C := Try.checked) false ⟨#[], #[.slice none 0 0, .int .i64 0, .int .i64 0, .int .i64 0, .agg (Array.replicate 20 (.int .i64 0) ++ #[.string ByteArray.empty, .string ByteArray.empty, .string ByteArray.empty, .int .i64 0, .int .i64 0, .int .i64 0])], []⟩ 8 (by kernel_rfl) (by kernel_rfl) (by kernel_rfl) (by kernel_rfl)) ?_
  intro W base args ds gs before hval0 hW hcnd _
  have hval : ∀ (j : Nat) t v, Try.f6.params[j]? = some t → args[j]? = some v → Value.okWide Try.prog W .any base t v := hval0
  have hW' := hW
  obtain ⟨p, q, hA0, hV, rfl, hfz, hnd⟩ := hW
  have hA : DataW.TrodAll enc Try.prog W 0 (fun _ => true) true Try.f6.params.toList args.toList ds p := hA0
  rw [Try.params6] at hA hval
  obtain ⟨v0, vs0, d0, ds0, p0, q0, hargs, rfl, rfl, h0, r0⟩ := trodAll_cons hA
  obtain ⟨v1, vs1, d1, ds1, p1, q1, rfl, rfl, rfl, h1, r1⟩ := trodAll_cons r0
  obtain ⟨v2, vs2, d2, ds2, p2, q2, rfl, rfl, rfl, h2, r2⟩ := trodAll_cons r1
  obtain ⟨v3, vs3, d3, ds3, p3, q3, rfl, rfl, rfl, h3, r3⟩ := trodAll_cons r2
  obtain ⟨v4, vs4, d4, ds4, p4, q4, rfl, rfl, rfl, h4, r4⟩ := trodAll_cons r3
  obtain ⟨rfl, rfl, rfl⟩ := trodAll_nil r4
  obtain rfl : args = #[v0, v1, v2, v3, v4] := by cases args; simp_all
  obtain ⟨rfl, rfl⟩ := trodVars_none hV
  obtain ⟨s0, len0, cap0, rfl⟩ := okWide_slice Try.underlying53 (hval 0 53 v0 rfl rfl)
  have k0 := h0
  have lt0 : ∀ x ∈ p0, x.block < W.heap.size := by obtain ⟨m, hm⟩ := k0; exact DataW.trod_lt m _ _ _ hm
  obtain ⟨a0, la0, ln0, c0, w0⟩ := deep_row (n := 9) (l := kns8) Try.underlying53 (by kernel_rfl) (by kernel_rfl) h0
  have u0 : a0.length ≤ 9223372036854775807 := by omega
  obtain ⟨a1, rfl, rfl, rfl, w1⟩ := open_int Try.underlying3 (hval 1 3 v1 rfl rfl) h1
  obtain ⟨a2, rfl, rfl, rfl, w2⟩ := open_int Try.underlying3 (hval 2 3 v2 rfl rfl) h2
  obtain ⟨a3, rfl, rfl, rfl, w3⟩ := open_int Try.underlying3 (hval 3 3 v3 rfl rfl) h3
  have k4 := h4
  have lt4 : ∀ x ∈ p4, x.block < W.heap.size := by obtain ⟨m, hm⟩ := k4; exact DataW.trod_lt m _ _ _ hm
  obtain ⟨z4, rfl, c4⟩ : ∃ z : List Value, v4 = .agg z.toArray ∧ CellsOk kdsEvent z := by
    have ov := hval 4 48 v4 rfl rfl
    simp only [Value.okWide, Try.underlying48] at ov
    obtain ⟨cs, rfl, _, _⟩ := ov
    obtain ⟨fuel, hf⟩ := h4
    exact ⟨cs.toList, by simp, flatT_ok 9 48 _ fuel _ _ (by kernel_rfl) hf⟩
  clear hA0 hval0
  simp only [List.append_nil] at hW'
  refine (walk (.slice s0 len0 cap0) a0 a1 a2 a3 z4 W u0 c0 w0 w1 w2 w3 c4).mono fun e W' ⟨he, bel⟩ => ?_
  subst he
  exact ⟨_, rfl, _, _, _, [], _, [], hW', trodAll_mk1 (shut_bool Try.underlying4 _), (trodAll_cons_mk (Below.trod laidOut (by kernel_rfl) (of_decide_eq_true (by kernel_rfl)) k0 bel lt0) (trodAll_cons_mk (shut_int Try.underlying3 w1) (trodAll_cons_mk (shut_int Try.underlying3 w2) (trodAll_cons_mk (shut_int Try.underlying3 w3) (trodAll_cons_mk (Below.trod laidOut (by kernel_rfl) (of_decide_eq_true (by kernel_rfl)) k4 bel lt4) trodAll_mk0))))), rfl, bel.frame _, fun h => by cases h⟩

theorem over : Rows.aofCrashesRow.holds Try.pinned (OpenSpec.ofChange Rows.aofCrashesSpec) :=
  OpenClaim.holds_of_wide 6 Try.f6 rfl rfl rfl rfl rfl rfl rfl ⟨rfl, rfl, rfl, rfl, rfl⟩ rfl rfl rfl rfl rfl (by kernel_rfl) Try.func6 (by kernel_rfl)
    (of_decide_eq_true (by kernel_rfl)) (by unfold Func.isWrapper; first | (rw [if_pos (by decide +kernel)]; kernel_rfl) | (rw [if_neg (by decide +kernel)]; exact ⟨rfl, rfl⟩))
    (fun os started H enc _ => lifted os started H enc)

theorem proved : Rows.AofCrashesSaid := over
#print axioms proved
end Go.Proofs.Ytepgphflnelpoaa.aofCrashes
