/-
  What was put is taken as it was, whatever stands about it; cut off it ends too early: for texts of at most 1048576 letters and all numbers.
-/
import Derived.Test.YtpfnclecageleaaVlqBack
import Derived.WalkKit
import Derived.ProofKit
import Derived.OpenShut
import Derived.ShutString
import Derived.ChangeOld
import Derived.Below
import Derived.SliceStrings
import Derived.JoinedCond
namespace Go.Proofs.Ytpfnclecageleaa.vlqBack
open Go.ChangeShapes Go.WideShapes Go.ChangeAt Go.RowKit Go.Free
open Go.ChangeMaps (open_string shut_string)
set_option linter.unusedVariables false

theorem own : ownKnob Try.prog.godebug = none := by kernel_rfl
theorem laidOut : laidOutB Try.prog = true := by kernel_rfl

theorem walk (a0 : ByteArray) (a1 : Int) (a2 : Int) (a3 : ByteArray) (a4 : Int) (w : World) (w0 : a0.size ≤ maxLen) (z0 : a0.data.toList.length ≤ 1048576) (w1 : (Lit.int .u64 a1).wf = true) (w2 : (Lit.int .i64 a2).wf = true) (w3 : a3.size ≤ maxLen) (z3 : a3.data.toList.length ≤ 1048576) (w4 : (Lit.int .u64 a4).wf = true) :
    Calls Try.prog 14 #[.string a0, .int .u64 a1, .int .i64 a2, .string a3, .int .u64 a4] w fun e w' => e = .returned (.bool true) ∧ Below w.heap.size w w' := by
  have e0 : (Value.string a0) = str a0.data.toList := by simp [str]
  have l0 : a0.data.toList.length ≤ 9223372036854775807 := by have := w0; simp only [maxLen, ByteArray.size] at this; rw [Array.length_toList]; omega
  have l1 : 0 ≤ a1 ∧ a1 ≤ 18446744073709551615 := by
    have := w1
    have k1 : IntKind.min .u64 = 0 := by decide +kernel
    have k2 : IntKind.max .u64 = 18446744073709551615 := by decide +kernel
    simp [Lit.wf] at this; omega
  have l2 : -9223372036854775808 ≤ a2 ∧ a2 ≤ 9223372036854775807 := by
    have := w2
    have k1 : IntKind.min .i64 = -9223372036854775808 := by decide +kernel
    have k2 : IntKind.max .i64 = 9223372036854775807 := by decide +kernel
    simp [Lit.wf] at this; omega
  have e3 : (Value.string a3) = str a3.data.toList := by simp [str]
  have l3 : a3.data.toList.length ≤ 9223372036854775807 := by have := w3; simp only [maxLen, ByteArray.size] at this; rw [Array.length_toList]; omega
  have l4 : 0 ≤ a4 ∧ a4 ≤ 18446744073709551615 := by
    have := w4
    have k1 : IntKind.min .u64 = 0 := by decide +kernel
    have k2 : IntKind.max .u64 = 18446744073709551615 := by decide +kernel
    simp [Lit.wf] at this; omega
  refine (lawBack (a0.data.toList) a1 a2 (a3.data.toList) a4 z0 l1 l2 z3 l4 w [.string a0, .int .u64 a1, .int .i64 a2, .string a3, .int .u64 a4] ?_).mono ?_
  · exact ⟨_, _, rfl, e0, ⟨_, _, rfl, rfl, ⟨_, _, rfl, rfl, ⟨_, _, rfl, e3, ⟨_, _, rfl, rfl, rfl⟩⟩⟩⟩⟩
  · rintro e w' ⟨v, rfl, hb, hR⟩
    have := hR 0 (Nat.zero_le _)
    simp only [Fa.den] at this
    exact ⟨by rw [this], hb⟩

theorem contract (H : Type) (enc : TypeId × Value → H) (W : World) (base : Nat) (args : Array Value) (ds gs : List (DataW H)) (before : List MemPlace)
    (hval0 : ∀ (j : Nat) t v, Try.f14.params[j]? = some t → args[j]? = some v → Value.okWide Try.prog W .any base t v)
    (hW : DataW.Whole enc Try.prog Try.f14.params.toList Rows.vlqBackSpec.vars false W args.toList ds gs before) (hk : Rows.uptoSmall H (ds ++ gs) = true) :
    Calls Try.prog 14 args W fun e W' => ∃ v, e = .returned v ∧ Rows.vlqBackSpec.post enc Try.prog Try.f14 false true false false W args v W' := by
  have hval : ∀ (j : Nat) t v, Try.f14.params[j]? = some t → args[j]? = some v → Value.okWide Try.prog W .any base t v := hval0
  have hW' := hW
  obtain ⟨p, q, hA0, hV, rfl, hfz, hnd⟩ := hW
  have hA : DataW.TrodAll enc Try.prog W 0 (fun _ => true) true Try.f14.params.toList args.toList ds p := hA0
  rw [Try.params14] at hA hval
  obtain ⟨v0, vs0, d0, ds0, p0, q0, hargs, rfl, rfl, h0, r0⟩ := trodAll_cons hA
  obtain ⟨v1, vs1, d1, ds1, p1, q1, rfl, rfl, rfl, h1, r1⟩ := trodAll_cons r0
  obtain ⟨v2, vs2, d2, ds2, p2, q2, rfl, rfl, rfl, h2, r2⟩ := trodAll_cons r1
  obtain ⟨v3, vs3, d3, ds3, p3, q3, rfl, rfl, rfl, h3, r3⟩ := trodAll_cons r2
  obtain ⟨v4, vs4, d4, ds4, p4, q4, rfl, rfl, rfl, h4, r4⟩ := trodAll_cons r3
  obtain ⟨rfl, rfl, rfl⟩ := trodAll_nil r4
  obtain rfl : args = #[v0, v1, v2, v3, v4] := by cases args; simp_all
  obtain ⟨rfl, rfl⟩ := trodVars_none hV
  obtain ⟨a0, rfl, rfl, rfl, w0⟩ := open_string Try.underlying9 (hval 0 9 v0 rfl rfl) h0
  obtain ⟨a1, rfl, rfl, rfl, w1⟩ := open_int Try.underlying27 (hval 1 27 v1 rfl rfl) h1
  obtain ⟨a2, rfl, rfl, rfl, w2⟩ := open_int Try.underlying3 (hval 2 3 v2 rfl rfl) h2
  obtain ⟨a3, rfl, rfl, rfl, w3⟩ := open_string Try.underlying9 (hval 3 9 v3 rfl rfl) h3
  obtain ⟨a4, rfl, rfl, rfl, w4⟩ := open_int Try.underlying44 (hval 4 44 v4 rfl rfl) h4
  clear hA0 hval0
  simp only [List.append_nil] at hW' hk
  have hbk := of_decide_eq_true hk
  simp only [Rows.uptoBulkAll, Rows.uptoBulk, List.append_nil] at hbk
  have z0 : a0.data.toList.length ≤ 1048576 := by omega
  have z3 : a3.data.toList.length ≤ 1048576 := by omega
  refine (walk a0 a1 a2 a3 a4 W w0 z0 w1 w2 w3 z3 w4).mono fun e W' ⟨he, bel⟩ => ?_
  subst he
  exact ⟨_, rfl, _, _, _, [], _, [], hW', trodAll_mk1 (shut_bool Try.underlying4 _), (trodAll_cons_mk (shut_string Try.underlying9 w0) (trodAll_cons_mk (shut_int Try.underlying27 w1) (trodAll_cons_mk (shut_int Try.underlying3 w2) (trodAll_cons_mk (shut_string Try.underlying9 w3) (trodAll_cons_mk (shut_int Try.underlying44 w4) trodAll_mk0))))), rfl, bel.frame _, fun h => by cases h⟩

set_option maxRecDepth 100000 in
theorem lifted (os : Os) (started : os.Started) (H : Type) (enc : TypeId × Value → H) (F : Stop.Interp) :
    ReturnsInHanded {} Try.checked os 14 .any ((Rows.OpenSpec.upto Rows.vlqBackSpec).pre6 enc Try.prog Try.f14 Rows.vlqBackUptoRow.domain false) (((Rows.OpenSpec.upto Rows.vlqBackSpec).at F).post enc Try.prog Try.f14 false true false false) := by
  refine returnsInHanded_of_cond (C := Try.checked) (s := Rows.OpenSpec.upto Rows.vlqBackSpec) (k := Rows.uptoSmall) rfl own started (by kernel_rfl) Try.func14
    (OpenSpec.witness (enc := enc) (C := Try.checked) (s := Rows.OpenSpec.upto Rows.vlqBackSpec) (k := Rows.uptoSmall) rfl false ⟨#[], #[.string ByteArray.empty, .int .u64 0, .int .i64 0, .string ByteArray.empty, .int .u64 0], []⟩ 8 (by kernel_rfl) (by kernel_rfl) (by kernel_rfl)
      (x := ([.lit (.string []), .lit (.int .u64 0), .lit (.int .i64 0), .lit (.string []), .lit (.int .u64 0)], [], [])) (by kernel_rfl) rfl (by kernel_rfl)) ?_
  intro W base args ds gs before hval hW _ hk _
  exact contract H enc W base args ds gs before hval hW hk

theorem proved : Rows.VlqBackUptoSaid :=
  OpenClaim.holds_of_cond 14 Try.f14 rfl rfl rfl rfl rfl rfl rfl ⟨rfl, rfl, rfl, rfl, rfl⟩ rfl rfl rfl rfl rfl (by kernel_rfl) Try.func14 (by kernel_rfl)
    (of_decide_eq_true (by kernel_rfl)) (by unfold Func.isWrapper; first | (rw [if_pos (by decide +kernel)]; kernel_rfl) | (rw [if_neg (by decide +kernel)]; exact ⟨rfl, rfl⟩))
    (fun os started H enc _ F => lifted os started H enc F)
#print axioms proved
end Go.Proofs.Ytpfnclecageleaa.vlqBack
