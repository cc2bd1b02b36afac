/-
  AofRewrites returns true, for any calls, any text, any events and any crash.
-/
import Derived.Test.YtepgphflnelpoaaAofJ
import Derived.WalkKit
import Derived.ProofKit
import Derived.OpenShut
import Derived.ShutString
import Derived.ChangeOld
import Derived.Below
import Derived.SliceStrings
namespace Go.Proofs.Ytepgphflnelpoaa.aofRewrites
open Go.ChangeShapes Go.WideShapes Go.ChangeAt Go.RowKit Go.Free
open Go.ChangeMaps (open_string shut_string)
set_option linter.unusedVariables false

theorem own : ownKnob Try.prog.godebug = none := by kernel_rfl
theorem laidOut : laidOutB Try.prog = true := by kernel_rfl

theorem walk (v0 : Value) (a0 : List (List Value)) (a1 : ByteArray) (v2 : Value) (a2 : List (List Value)) (a3 : Int) (a4 : Int) (a5 : Int) (w : World) (u0 : a0.length ≤ 9223372036854775807) (c0 : ∀ c ∈ a0, CellsIn w kns8 c) (w0 : rowH 32 a0.flatten w v0) (w1 : a1.size ≤ maxLen) (u2 : a2.length ≤ 9223372036854775807) (c2 : ∀ c ∈ a2, CellsOk kdsEvent c) (w2 : rowH 26 a2.flatten w v2) (w3 : (Lit.int .i64 a3).wf = true) (w4 : (Lit.int .i64 a4).wf = true) (w5 : (Lit.int .i64 a5).wf = true) :
    Calls Try.prog 7 #[v0, .string a1, v2, .int .i64 a3, .int .i64 a4, .int .i64 a5] w fun e w' => e = .returned (.bool true) ∧ Below w.heap.size w w' := by
  obtain ⟨o0, n0, m0, r0⟩ := ops8_of a0 c0
  rw [m0] at w0
  have e1 : (Value.string a1) = str a1.data.toList := by simp [str]
  have l1 : a1.data.toList.length ≤ 9223372036854775807 := by have := w1; simp only [maxLen, ByteArray.size] at this; rw [Array.length_toList]; omega
  have l3 : -9223372036854775808 ≤ a3 ∧ a3 ≤ 9223372036854775807 := by
    have := w3
    have k1 : IntKind.min .i64 = -9223372036854775808 := by decide +kernel
    have k2 : IntKind.max .i64 = 9223372036854775807 := by decide +kernel
    simp [Lit.wf] at this; omega
  have l4 : -9223372036854775808 ≤ a4 ∧ a4 ≤ 9223372036854775807 := by
    have := w4
    have k1 : IntKind.min .i64 = -9223372036854775808 := by decide +kernel
    have k2 : IntKind.max .i64 = 9223372036854775807 := by decide +kernel
    simp [Lit.wf] at this; omega
  have l5 : -9223372036854775808 ≤ a5 ∧ a5 ≤ 9223372036854775807 := by
    have := w5
    have k1 : IntKind.min .i64 = -9223372036854775808 := by decide +kernel
    have k2 : IntKind.max .i64 = 9223372036854775807 := by decide +kernel
    simp [Lit.wf] at this; omega
  refine (lawRwsC o0 (a1.data.toList) a2 a3 a4 a5 (by omega) (fun x hx => (r0 x hx).1) l1 u2 c2 l3 l4 l5 w [v0, .string a1, v2, .int .i64 a3, .int .i64 a4, .int .i64 a5] ?_).mono ?_
  · exact ⟨_, _, rfl, (show opsH o0 w v0 from ⟨w0, fun x hx => (r0 x hx).2⟩), ⟨_, _, rfl, e1, ⟨_, _, rfl, w2, ⟨_, _, rfl, rfl, ⟨_, _, rfl, rfl, ⟨_, _, rfl, rfl, rfl⟩⟩⟩⟩⟩⟩
  · rintro e w' ⟨v, rfl, hb, hR⟩
    have := hR 0 (Nat.zero_le _)
    simp only [Fa.den] at this
    exact ⟨by rw [this], hb⟩

set_option maxRecDepth 100000 in
theorem lifted (os : Os) (started : os.Started) (H : Type) (enc : TypeId × Value → H) :
    ReturnsInHanded {} Try.checked os 7 .any (Rows.aofRewritesSpec.pre6 enc Try.prog Try.f7 Rows.aofRewritesRow.domain false) (Rows.aofRewritesSpec.post enc Try.prog Try.f7 false true false false) := by
  refine returnsInHanded_of_change (C := Try.checked) own started (by kernel_rfl) Try.func7
    (ChangeSpec.witness6 (enc := enc) (C := Try.checked) false ⟨#[], #[.slice none 0 0, .string ByteArray.empty, .slice none 0 0, .int .i64 0, .int .i64 0, .int .i64 0], []⟩ 8 (by kernel_rfl) (by kernel_rfl) (by kernel_rfl) (by kernel_rfl)) ?_
  intro W base args ds gs before hval0 hW hcnd _
  have hval : ∀ (j : Nat) t v, Try.f7.params[j]? = some t → args[j]? = some v → Value.okWide Try.prog W .any base t v := hval0
  have hW' := hW
  obtain ⟨p, q, hA0, hV, rfl, hfz, hnd⟩ := hW
  have hA : DataW.TrodAll enc Try.prog W 0 (fun _ => true) true Try.f7.params.toList args.toList ds p := hA0
  rw [Try.params7] at hA hval
  obtain ⟨v0, vs0, d0, ds0, p0, q0, hargs, rfl, rfl, h0, r0⟩ := trodAll_cons hA
  obtain ⟨v1, vs1, d1, ds1, p1, q1, rfl, rfl, rfl, h1, r1⟩ := trodAll_cons r0
  obtain ⟨v2, vs2, d2, ds2, p2, q2, rfl, rfl, rfl, h2, r2⟩ := trodAll_cons r1
  obtain ⟨v3, vs3, d3, ds3, p3, q3, rfl, rfl, rfl, h3, r3⟩ := trodAll_cons r2
  obtain ⟨v4, vs4, d4, ds4, p4, q4, rfl, rfl, rfl, h4, r4⟩ := trodAll_cons r3
  obtain ⟨v5, vs5, d5, ds5, p5, q5, rfl, rfl, rfl, h5, r5⟩ := trodAll_cons r4
  obtain ⟨rfl, rfl, rfl⟩ := trodAll_nil r5
  obtain rfl : args = #[v0, v1, v2, v3, v4, v5] := by cases args; simp_all
  obtain ⟨rfl, rfl⟩ := trodVars_none hV
  obtain ⟨s0, len0, cap0, rfl⟩ := okWide_slice Try.underlying53 (hval 0 53 v0 rfl rfl)
  have k0 := h0
  have lt0 : ∀ x ∈ p0, x.block < W.heap.size := by obtain ⟨m, hm⟩ := k0; exact DataW.trod_lt m _ _ _ hm
  obtain ⟨a0, la0, ln0, c0, w0⟩ := deep_row (n := 9) (l := kns8) Try.underlying53 (by kernel_rfl) (by kernel_rfl) h0
  have u0 : a0.length ≤ 9223372036854775807 := by omega
  obtain ⟨a1, rfl, rfl, rfl, w1⟩ := open_string Try.underlying9 (hval 1 9 v1 rfl rfl) h1
  obtain ⟨s2, len2, cap2, rfl⟩ := okWide_slice Try.underlying35 (hval 2 35 v2 rfl rfl)
  have k2 := h2
  have lt2 : ∀ x ∈ p2, x.block < W.heap.size := by obtain ⟨m, hm⟩ := k2; exact DataW.trod_lt m _ _ _ hm
  obtain ⟨a2, la2, ln2, c2, w2⟩ := flat_row (n := 9) (l := kdsEvent) Try.underlying35 (by kernel_rfl) (by kernel_rfl) h2
  have u2 : a2.length ≤ 9223372036854775807 := by omega
  obtain ⟨a3, rfl, rfl, rfl, w3⟩ := open_int Try.underlying3 (hval 3 3 v3 rfl rfl) h3
  obtain ⟨a4, rfl, rfl, rfl, w4⟩ := open_int Try.underlying3 (hval 4 3 v4 rfl rfl) h4
  obtain ⟨a5, rfl, rfl, rfl, w5⟩ := open_int Try.underlying3 (hval 5 3 v5 rfl rfl) h5
  clear hA0 hval0
  simp only [List.append_nil] at hW'
  refine (walk (.slice s0 len0 cap0) a0 a1 (.slice s2 len2 cap2) a2 a3 a4 a5 W u0 c0 w0 w1 u2 c2 w2 w3 w4 w5).mono fun e W' ⟨he, bel⟩ => ?_
  subst he
  exact ⟨_, rfl, _, _, _, [], _, [], hW', trodAll_mk1 (shut_bool Try.underlying4 _), (trodAll_cons_mk (Below.trod laidOut (by kernel_rfl) (of_decide_eq_true (by kernel_rfl)) k0 bel lt0) (trodAll_cons_mk (shut_string Try.underlying9 w1) (trodAll_cons_mk (Below.trod laidOut (by kernel_rfl) (of_decide_eq_true (by kernel_rfl)) k2 bel lt2) (trodAll_cons_mk (shut_int Try.underlying3 w3) (trodAll_cons_mk (shut_int Try.underlying3 w4) (trodAll_cons_mk (shut_int Try.underlying3 w5) trodAll_mk0)))))), rfl, bel.frame _, fun h => by cases h⟩

theorem over : Rows.aofRewritesRow.holds Try.pinned (OpenSpec.ofChange Rows.aofRewritesSpec) :=
  OpenClaim.holds_of_wide 7 Try.f7 rfl rfl rfl rfl rfl rfl rfl ⟨rfl, rfl, rfl, rfl, rfl⟩ rfl rfl rfl rfl rfl (by kernel_rfl) Try.func7 (by kernel_rfl)
    (of_decide_eq_true (by kernel_rfl)) (by unfold Func.isWrapper; first | (rw [if_pos (by decide +kernel)]; kernel_rfl) | (rw [if_neg (by decide +kernel)]; exact ⟨rfl, rfl⟩))
    (fun os started H enc _ => lifted os started H enc)

theorem proved : Rows.AofRewritesSaid := over
#print axioms proved
end Go.Proofs.Ytepgphflnelpoaa.aofRewrites
