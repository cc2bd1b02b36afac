/-
  AofPlays returns true, for any room and any calls.
-/
import Derived.Test.YtepgphflnelpoaaAofL
import Derived.WalkKit
import Derived.ProofKit
import Derived.OpenShut
import Derived.ShutString
import Derived.ChangeOld
import Derived.Below
import Derived.SliceStrings
namespace Go.Proofs.Ytepgphflnelpoaa.aofPlays
open Go.ChangeShapes Go.WideShapes Go.ChangeAt Go.RowKit Go.Free
open Go.ChangeMaps (open_string shut_string)
set_option linter.unusedVariables false

theorem own : ownKnob Try.prog.godebug = none := by kernel_rfl
theorem laidOut : laidOutB Try.prog = true := by kernel_rfl

theorem walk (a0 : Int) (v1 : Value) (a1 : List (List Value)) (w : World) (w0 : (Lit.int .i64 a0).wf = true) (u1 : a1.length ≤ 9223372036854775807) (c1 : ∀ c ∈ a1, CellsIn w kns8 c) (w1 : rowH 32 a1.flatten w v1) :
    Calls Try.prog 8 #[.int .i64 a0, v1] w fun e w' => e = .returned (.bool true) ∧ Below w.heap.size w w' := by
  have l0 : -9223372036854775808 ≤ a0 ∧ a0 ≤ 9223372036854775807 := by
    have := w0
    have k1 : IntKind.min .i64 = -9223372036854775808 := by decide +kernel
    have k2 : IntKind.max .i64 = 9223372036854775807 := by decide +kernel
    simp [Lit.wf] at this; omega
  obtain ⟨o1, n1, m1, r1⟩ := ops8_of a1 c1
  rw [m1] at w1
  refine (lawPls a0 o1 l0 (by omega) (fun x hx => (r1 x hx).1) w [.int .i64 a0, v1] ?_).mono ?_
  · exact ⟨_, _, rfl, rfl, ⟨_, _, rfl, (show opsH o1 w v1 from ⟨w1, fun x hx => (r1 x hx).2⟩), rfl⟩⟩
  · rintro e w' ⟨v, rfl, hb, hR⟩
    have := hR 0 (Nat.zero_le _)
    simp only [Fa.den] at this
    exact ⟨by rw [this], hb⟩

set_option maxRecDepth 100000 in
theorem lifted (os : Os) (started : os.Started) (H : Type) (enc : TypeId × Value → H) :
    ReturnsInHanded {} Try.checked os 8 .any (Rows.aofPlaysSpec.pre6 enc Try.prog Try.f8 Rows.aofPlaysRow.domain false) (Rows.aofPlaysSpec.post enc Try.prog Try.f8 false true false false) := by
  refine returnsInHanded_of_change (C := Try.checked) own started (by kernel_rfl) Try.func8
    (ChangeSpec.witness6 (enc := enc) (C := Try.checked) false ⟨#[], #[.int .i64 0, .slice none 0 0], []⟩ 8 (by kernel_rfl) (by kernel_rfl) (by kernel_rfl) (by kernel_rfl)) ?_
  intro W base args ds gs before hval0 hW hcnd _
  have hval : ∀ (j : Nat) t v, Try.f8.params[j]? = some t → args[j]? = some v → Value.okWide Try.prog W .any base t v := hval0
  have hW' := hW
  obtain ⟨p, q, hA0, hV, rfl, hfz, hnd⟩ := hW
  have hA : DataW.TrodAll enc Try.prog W 0 (fun _ => true) true Try.f8.params.toList args.toList ds p := hA0
  rw [Try.params8] at hA hval
  obtain ⟨v0, vs0, d0, ds0, p0, q0, hargs, rfl, rfl, h0, r0⟩ := trodAll_cons hA
  obtain ⟨v1, vs1, d1, ds1, p1, q1, rfl, rfl, rfl, h1, r1⟩ := trodAll_cons r0
  obtain ⟨rfl, rfl, rfl⟩ := trodAll_nil r1
  obtain rfl : args = #[v0, v1] := by cases args; simp_all
  obtain ⟨rfl, rfl⟩ := trodVars_none hV
  obtain ⟨a0, rfl, rfl, rfl, w0⟩ := open_int Try.underlying3 (hval 0 3 v0 rfl rfl) h0
  obtain ⟨s1, len1, cap1, rfl⟩ := okWide_slice Try.underlying53 (hval 1 53 v1 rfl rfl)
  have k1 := h1
  have lt1 : ∀ x ∈ p1, x.block < W.heap.size := by obtain ⟨m, hm⟩ := k1; exact DataW.trod_lt m _ _ _ hm
  obtain ⟨a1, la1, ln1, c1, w1⟩ := deep_row (n := 9) (l := kns8) Try.underlying53 (by kernel_rfl) (by kernel_rfl) h1
  have u1 : a1.length ≤ 9223372036854775807 := by omega
  clear hA0 hval0
  simp only [List.append_nil] at hW'
  refine (walk a0 (.slice s1 len1 cap1) a1 W w0 u1 c1 w1).mono fun e W' ⟨he, bel⟩ => ?_
  subst he
  exact ⟨_, rfl, _, _, _, [], _, [], hW', trodAll_mk1 (shut_bool Try.underlying4 _), (trodAll_cons_mk (shut_int Try.underlying3 w0) (trodAll_cons_mk (Below.trod laidOut (by kernel_rfl) (of_decide_eq_true (by kernel_rfl)) k1 bel lt1) trodAll_mk0)), rfl, bel.frame _, fun h => by cases h⟩

theorem over : Rows.aofPlaysRow.holds Try.pinned (OpenSpec.ofChange Rows.aofPlaysSpec) :=
  OpenClaim.holds_of_wide 8 Try.f8 rfl rfl rfl rfl rfl rfl rfl ⟨rfl, rfl, rfl, rfl, rfl⟩ rfl rfl rfl rfl rfl (by kernel_rfl) Try.func8 (by kernel_rfl)
    (of_decide_eq_true (by kernel_rfl)) (by unfold Func.isWrapper; first | (rw [if_pos (by decide +kernel)]; kernel_rfl) | (rw [if_neg (by decide +kernel)]; exact ⟨rfl, rfl⟩))
    (fun os started H enc _ => lifted os started H enc)

theorem proved : Rows.AofPlaysSaid := over
#print axioms proved
end Go.Proofs.Ytepgphflnelpoaa.aofPlays
