/-
  An event that has seen all, and takes an item away, takes just that one away.
-/
import Derived.Test.YtfglecmimoeinaaRRemH
import Derived.WalkKit
import Derived.ProofKit
import Derived.OpenShut
import Derived.ShutString
import Derived.ChangeOld
import Derived.Below
import Derived.SliceStrings
namespace Go.Proofs.Ytfglecmimoeinaa.rgaRemoves
open Go.ChangeShapes Go.WideShapes Go.ChangeAt Go.RowKit Go.Free
open Go.ChangeMaps (open_string shut_string)
set_option linter.unusedVariables false

theorem own : ownKnob Try.prog.godebug = none := by kernel_rfl
theorem laidOut : laidOutB Try.prog = true := by kernel_rfl

theorem walk (v0 : Value) (a0 : List (List Value)) (a1 : ByteArray) (a2 : Int) (w : World) (u0 : a0.length ≤ 9223372036854775807) (c0 : ∀ c ∈ a0, CellsOk kdsEvent c) (w0 : rowH 26 a0.flatten w v0) (w1 : a1.size ≤ maxLen) (w2 : (Lit.int .u64 a2).wf = true) :
    Calls Try.prog 8 #[v0, .string a1, .int .u64 a2] w fun e w' => e = .returned (.bool true) ∧ Below w.heap.size w w' := by
  have e1 : (Value.string a1) = str a1.data.toList := by simp [str]
  have l1 : a1.data.toList.length ≤ 9223372036854775807 := by have := w1; simp only [maxLen, ByteArray.size] at this; rw [Array.length_toList]; omega
  have l2 : 0 ≤ a2 ∧ a2 ≤ 18446744073709551615 := by
    have := w2
    have k1 : IntKind.min .u64 = 0 := by decide +kernel
    have k2 : IntKind.max .u64 = 18446744073709551615 := by decide +kernel
    simp [Lit.wf] at this; omega
  refine (lawRemovesC a0 (a1.data.toList) a2 u0 c0 l1 l2 w [v0, .string a1, .int .u64 a2] ?_).mono ?_
  · exact ⟨_, _, rfl, w0, ⟨_, _, rfl, e1, ⟨_, _, rfl, rfl, rfl⟩⟩⟩
  · rintro e w' ⟨v, rfl, hb, hR⟩
    have := hR 0 (Nat.zero_le _)
    simp only [Fa.den] at this
    exact ⟨by rw [this], hb⟩

set_option maxRecDepth 100000 in
theorem lifted (os : Os) (started : os.Started) (H : Type) (enc : TypeId × Value → H) :
    ReturnsInHanded {} Try.checked os 8 .any (Rows.rgaRemovesSpec.pre6 enc Try.prog Try.f8 Rows.rgaRemovesRow.domain false) (Rows.rgaRemovesSpec.post enc Try.prog Try.f8 false true false false) := by
  refine returnsInHanded_of_change (C := Try.checked) own started (by kernel_rfl) Try.func8
    (ChangeSpec.witness6 (enc := enc) (C := Try.checked) false ⟨#[], #[.slice none 0 0, .string ByteArray.empty, .int .u64 0], []⟩ 8 (by kernel_rfl) (by kernel_rfl) (by kernel_rfl) (by kernel_rfl)) ?_
  intro W base args ds gs before hval0 hW hcnd _
  have hval : ∀ (j : Nat) t v, Try.f8.params[j]? = some t → args[j]? = some v → Value.okWide Try.prog W .any base t v := hval0
  have hW' := hW
  obtain ⟨p, q, hA0, hV, rfl, hfz, hnd⟩ := hW
  have hA : DataW.TrodAll enc Try.prog W 0 (fun _ => true) true Try.f8.params.toList args.toList ds p := hA0
  rw [Try.params8] at hA hval
  obtain ⟨v0, vs0, d0, ds0, p0, q0, hargs, rfl, rfl, h0, r0⟩ := trodAll_cons hA
  obtain ⟨v1, vs1, d1, ds1, p1, q1, rfl, rfl, rfl, h1, r1⟩ := trodAll_cons r0
  obtain ⟨v2, vs2, d2, ds2, p2, q2, rfl, rfl, rfl, h2, r2⟩ := trodAll_cons r1
  obtain ⟨rfl, rfl, rfl⟩ := trodAll_nil r2
  obtain rfl : args = #[v0, v1, v2] := by cases args; simp_all
  obtain ⟨rfl, rfl⟩ := trodVars_none hV
  obtain ⟨s0, len0, cap0, rfl⟩ := okWide_slice Try.underlying22 (hval 0 22 v0 rfl rfl)
  have k0 := h0
  have lt0 : ∀ x ∈ p0, x.block < W.heap.size := by obtain ⟨m, hm⟩ := k0; exact DataW.trod_lt m _ _ _ hm
  obtain ⟨a0, la0, ln0, c0, w0⟩ := flat_row (n := 9) (l := kdsEvent) Try.underlying22 (by kernel_rfl) (by kernel_rfl) h0
  have u0 : a0.length ≤ 9223372036854775807 := by omega
  obtain ⟨a1, rfl, rfl, rfl, w1⟩ := open_string Try.underlying9 (hval 1 9 v1 rfl rfl) h1
  obtain ⟨a2, rfl, rfl, rfl, w2⟩ := open_int Try.underlying35 (hval 2 35 v2 rfl rfl) h2
  clear hA0 hval0
  simp only [List.append_nil] at hW'
  refine (walk (.slice s0 len0 cap0) a0 a1 a2 W u0 c0 w0 w1 w2).mono fun e W' ⟨he, bel⟩ => ?_
  subst he
  exact ⟨_, rfl, _, _, _, [], _, [], hW', trodAll_mk1 (shut_bool Try.underlying4 _), (trodAll_cons_mk (Below.trod laidOut (by kernel_rfl) (of_decide_eq_true (by kernel_rfl)) k0 bel lt0) (trodAll_cons_mk (shut_string Try.underlying9 w1) (trodAll_cons_mk (shut_int Try.underlying35 w2) trodAll_mk0))), rfl, bel.frame _, fun h => by cases h⟩

theorem over : Rows.rgaRemovesRow.holds Try.pinned (OpenSpec.ofChange Rows.rgaRemovesSpec) :=
  OpenClaim.holds_of_wide 8 Try.f8 rfl rfl rfl rfl rfl rfl rfl ⟨rfl, rfl, rfl, rfl, rfl⟩ rfl rfl rfl rfl rfl (by kernel_rfl) Try.func8 (by kernel_rfl)
    (of_decide_eq_true (by kernel_rfl)) (by unfold Func.isWrapper; first | (rw [if_pos (by decide +kernel)]; kernel_rfl) | (rw [if_neg (by decide +kernel)]; exact ⟨rfl, rfl⟩))
    (fun os started H enc _ => lifted os started H enc)

theorem proved : Rows.RgaRemovesSaid := over
#print axioms proved
end Go.Proofs.Ytfglecmimoeinaa.rgaRemoves
