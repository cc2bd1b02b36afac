/-
  What is logged is what is: events that a space sees are logged, the log crashes and is opened, and a new space sees what is left: TopLogs returns true for every list of events, every number of when it is synced, and every crash.
-/
import Derived.Test.YtmljgobenlpnfaaGreatTLPL
import Derived.WalkKit
import Derived.ProofKit
import Derived.OpenShut
import Derived.ShutString
import Derived.ChangeOld
import Derived.Below
import Derived.SliceStrings
namespace Go.Proofs.YtmljgobenlpnfaaGreat.topLogs
open Go.ChangeShapes Go.WideShapes Go.ChangeAt Go.RowKit Go.Free
open Go.ChangeMaps (open_string shut_string)
set_option linter.unusedVariables false

theorem own : ownKnob Tryz.prog.godebug = none := by kernel_rfl
theorem laidOut : laidOutB Tryz.prog = true := by kernel_rfl

theorem walk (v0 : Value) (a0 : List (List Value)) (a1 : Int) (a2 : Int) (a3 : Int) (a4 : Int) (w : World) (u0 : a0.length ≤ 9223372036854775807) (c0 : ∀ c ∈ a0, CellsOk kdsEvent c) (w0 : rowH 26 a0.flatten w v0) (w1 : (Lit.int .u64 a1).wf = true) (w2 : (Lit.int .i64 a2).wf = true) (w3 : (Lit.int .i64 a3).wf = true) (w4 : (Lit.int .i64 a4).wf = true) :
    Calls Tryz.prog 3 #[v0, .int .u64 a1, .int .i64 a2, .int .i64 a3, .int .i64 a4] w fun e w' => e = .returned (.bool true) ∧ Below w.heap.size w w' := by
  have l1 : 0 ≤ a1 ∧ a1 ≤ 18446744073709551615 := by
    have := w1
    have k1 : IntKind.min .u64 = 0 := by decide +kernel
    have k2 : IntKind.max .u64 = 18446744073709551615 := by decide +kernel
    simp [Lit.wf] at this; omega
  have l2 : -9223372036854775808 ≤ a2 ∧ a2 ≤ 9223372036854775807 := by
    have := w2
    have k1 : IntKind.min .i64 = -9223372036854775808 := by decide +kernel
    have k2 : IntKind.max .i64 = 9223372036854775807 := by decide +kernel
    simp [Lit.wf] at this; omega
  have l3 : -9223372036854775808 ≤ a3 ∧ a3 ≤ 9223372036854775807 := by
    have := w3
    have k1 : IntKind.min .i64 = -9223372036854775808 := by decide +kernel
    have k2 : IntKind.max .i64 = 9223372036854775807 := by decide +kernel
    simp [Lit.wf] at this; omega
  have l4 : -9223372036854775808 ≤ a4 ∧ a4 ≤ 9223372036854775807 := by
    have := w4
    have k1 : IntKind.min .i64 = -9223372036854775808 := by decide +kernel
    have k2 : IntKind.max .i64 = 9223372036854775807 := by decide +kernel
    simp [Lit.wf] at this; omega
  refine (lawTopC a0 a1 a2 a3 a4 u0 c0 l1 l2 l3 l4 w [v0, .int .u64 a1, .int .i64 a2, .int .i64 a3, .int .i64 a4] ?_).mono ?_
  · exact ⟨_, _, rfl, w0, ⟨_, _, rfl, rfl, ⟨_, _, rfl, rfl, ⟨_, _, rfl, rfl, ⟨_, _, rfl, rfl, rfl⟩⟩⟩⟩⟩
  · rintro e w' ⟨v, rfl, hb, hR⟩
    have := hR 0 (Nat.zero_le _)
    simp only [Fa.den] at this
    exact ⟨by rw [this], hb⟩

set_option maxRecDepth 100000 in
theorem lifted (os : Os) (started : os.Started) (H : Type) (enc : TypeId × Value → H) :
    ReturnsInHanded {} Tryz.checked os 3 .any (Rows.topLogsSpec.pre6 enc Tryz.prog Tryz.f3 Rows.topLogsRow.domain false) (Rows.topLogsSpec.post enc Tryz.prog Tryz.f3 false true false false) := by
  refine returnsInHanded_of_change (C := Tryz.checked) own started (by kernel_rfl) Tryz.func3
    (ChangeSpec.witness6 (enc := enc) (C := Tryz.checked) false ⟨#[], #[.slice none 0 0, .int .u64 0, .int .i64 0, .int .i64 0, .int .i64 0], []⟩ 8 (by kernel_rfl) (by kernel_rfl) (by kernel_rfl) (by kernel_rfl)) ?_
  intro W base args ds gs before hval0 hW hcnd _
  have hval : ∀ (j : Nat) t v, Tryz.f3.params[j]? = some t → args[j]? = some v → Value.okWide Tryz.prog W .any base t v := hval0
  have hW' := hW
  obtain ⟨p, q, hA0, hV, rfl, hfz, hnd⟩ := hW
  have hA : DataW.TrodAll enc Tryz.prog W 0 (fun _ => true) true Tryz.f3.params.toList args.toList ds p := hA0
  rw [Tryz.params3] at hA hval
  obtain ⟨v0, vs0, d0, ds0, p0, q0, hargs, rfl, rfl, h0, r0⟩ := trodAll_cons hA
  obtain ⟨v1, vs1, d1, ds1, p1, q1, rfl, rfl, rfl, h1, r1⟩ := trodAll_cons r0
  obtain ⟨v2, vs2, d2, ds2, p2, q2, rfl, rfl, rfl, h2, r2⟩ := trodAll_cons r1
  obtain ⟨v3, vs3, d3, ds3, p3, q3, rfl, rfl, rfl, h3, r3⟩ := trodAll_cons r2
  obtain ⟨v4, vs4, d4, ds4, p4, q4, rfl, rfl, rfl, h4, r4⟩ := trodAll_cons r3
  obtain ⟨rfl, rfl, rfl⟩ := trodAll_nil r4
  obtain rfl : args = #[v0, v1, v2, v3, v4] := by cases args; simp_all
  obtain ⟨rfl, rfl⟩ := trodVars_none hV
  obtain ⟨s0, len0, cap0, rfl⟩ := okWide_slice Tryz.underlying22 (hval 0 22 v0 rfl rfl)
  have k0 := h0
  have lt0 : ∀ x ∈ p0, x.block < W.heap.size := by obtain ⟨m, hm⟩ := k0; exact DataW.trod_lt m _ _ _ hm
  obtain ⟨a0, la0, ln0, c0, w0⟩ := flat_row (n := 9) (l := kdsEvent) Tryz.underlying22 (by kernel_rfl) (by kernel_rfl) h0
  have u0 : a0.length ≤ 9223372036854775807 := by omega
  obtain ⟨a1, rfl, rfl, rfl, w1⟩ := open_int Tryz.underlying23 (hval 1 23 v1 rfl rfl) h1
  obtain ⟨a2, rfl, rfl, rfl, w2⟩ := open_int Tryz.underlying3 (hval 2 3 v2 rfl rfl) h2
  obtain ⟨a3, rfl, rfl, rfl, w3⟩ := open_int Tryz.underlying3 (hval 3 3 v3 rfl rfl) h3
  obtain ⟨a4, rfl, rfl, rfl, w4⟩ := open_int Tryz.underlying3 (hval 4 3 v4 rfl rfl) h4
  clear hA0 hval0
  simp only [List.append_nil] at hW'
  refine (walk (.slice s0 len0 cap0) a0 a1 a2 a3 a4 W u0 c0 w0 w1 w2 w3 w4).mono fun e W' ⟨he, bel⟩ => ?_
  subst he
  exact ⟨_, rfl, _, _, _, [], _, [], hW', trodAll_mk1 (shut_bool Tryz.underlying4 _), (trodAll_cons_mk (Below.trod laidOut (by kernel_rfl) (of_decide_eq_true (by kernel_rfl)) k0 bel lt0) (trodAll_cons_mk (shut_int Tryz.underlying23 w1) (trodAll_cons_mk (shut_int Tryz.underlying3 w2) (trodAll_cons_mk (shut_int Tryz.underlying3 w3) (trodAll_cons_mk (shut_int Tryz.underlying3 w4) trodAll_mk0))))), rfl, bel.frame _, fun h => by cases h⟩

theorem over : Rows.topLogsRow.holds Tryz.pinned (OpenSpec.ofChange Rows.topLogsSpec) :=
  OpenClaim.holds_of_wide 3 Tryz.f3 rfl rfl rfl rfl rfl rfl rfl ⟨rfl, rfl, rfl, rfl, rfl⟩ rfl rfl rfl rfl rfl (by kernel_rfl) Tryz.func3 (by kernel_rfl)
    (of_decide_eq_true (by kernel_rfl)) (by unfold Func.isWrapper; first | (rw [if_pos (by decide +kernel)]; kernel_rfl) | (rw [if_neg (by decide +kernel)]; exact ⟨rfl, rfl⟩))
    (fun os started H enc _ => lifted os started H enc)

theorem proved : Rows.TopLogsSaid := over
#print axioms proved
end Go.Proofs.YtmljgobenlpnfaaGreat.topLogs
