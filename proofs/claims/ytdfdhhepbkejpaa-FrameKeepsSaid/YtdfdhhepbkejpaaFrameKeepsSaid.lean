/-
  FrameKeeps returns true, for any list of texts.
-/
import Derived.Test.YtdfdhhepbkejpaaFrameKeeps
import Derived.WalkKit
import Derived.ProofKit
import Derived.OpenShut
import Derived.ShutString
import Derived.ChangeOld
import Derived.Below
import Derived.SliceStrings
namespace Go.Proofs.Ytdfdhhepbkejpaa.frameKeeps
open Go.ChangeShapes Go.WideShapes Go.ChangeAt Go.RowKit Go.Free
open Go.ChangeMaps (open_string shut_string)
set_option linter.unusedVariables false

theorem own : ownKnob Try.prog.godebug = none := by kernel_rfl
theorem laidOut : laidOutB Try.prog = true := by kernel_rfl

theorem walk (v0 : Value) (a0 : List (List UInt8)) (w : World) (u0 : a0.length ≤ 9223372036854775807) (w0 : rowH 1 (ss a0) w v0) :
    Calls Try.prog 11 #[v0] w fun e w' => e = .returned (.bool true) ∧ Below w.heap.size w w' := by
  refine (lawFKeeps a0 u0 w [v0] ?_).mono ?_
  · exact ⟨_, _, rfl, w0, rfl⟩
  · rintro e w' ⟨v, rfl, hb, hR⟩
    have := hR 0 (Nat.zero_le _)
    simp only [Fa.den] at this
    exact ⟨by rw [this], hb⟩

set_option maxRecDepth 100000 in
theorem lifted (os : Os) (started : os.Started) (H : Type) (enc : TypeId × Value → H) :
    ReturnsInHanded {} Try.checked os 11 .any (Rows.frameKeepsSpec.pre6 enc Try.prog Try.f11 Rows.frameKeepsRow.domain false) (Rows.frameKeepsSpec.post enc Try.prog Try.f11 false true false false) := by
  refine returnsInHanded_of_change (C := Try.checked) own started (by kernel_rfl) Try.func11
    (ChangeSpec.witness6 (enc := enc) (C := Try.checked) false ⟨#[], #[.slice none 0 0], []⟩ 8 (by kernel_rfl) (by kernel_rfl) (by kernel_rfl) (by kernel_rfl)) ?_
  intro W base args ds gs before hval0 hW hcnd _
  have hval : ∀ (j : Nat) t v, Try.f11.params[j]? = some t → args[j]? = some v → Value.okWide Try.prog W .any base t v := hval0
  have hW' := hW
  obtain ⟨p, q, hA0, hV, rfl, hfz, hnd⟩ := hW
  have hA : DataW.TrodAll enc Try.prog W 0 (fun _ => true) true Try.f11.params.toList args.toList ds p := hA0
  rw [Try.params11] at hA hval
  obtain ⟨v0, vs0, d0, ds0, p0, q0, hargs, rfl, rfl, h0, r0⟩ := trodAll_cons hA
  obtain ⟨rfl, rfl, rfl⟩ := trodAll_nil r0
  obtain rfl : args = #[v0] := by cases args; simp_all
  obtain ⟨rfl, rfl⟩ := trodVars_none hV
  obtain ⟨s0, len0, cap0, rfl⟩ := okWide_slice Try.underlying48 (hval 0 48 v0 rfl rfl)
  have k0 := h0
  have lt0 : ∀ x ∈ p0, x.block < W.heap.size := by obtain ⟨m, hm⟩ := k0; exact DataW.trod_lt m _ _ _ hm
  obtain ⟨a0, u0, w0⟩ : ∃ l, l.length ≤ 9223372036854775807 ∧ rowH 1 (ss l) W (.slice s0 len0 cap0) := by
    obtain ⟨fuel, hf⟩ := h0
    rcases open_strings Try.underlying48 Try.underlying9 (by kernel_rfl) hf with ⟨hcs, _⟩ | ⟨x, l, c, zs, hcs, _, hl, hm, hz, _, hcell, _⟩
    · simp [Value.cells] at hcs
      obtain ⟨rfl, rfl, rfl⟩ := hcs
      exact ⟨[], by simp, none, 0, 0, rfl, by omega, by omega, rfl, fun _ => rfl, fun j u hu => by simp [ss] at hu⟩
    · simp [Value.cells] at hcs
      obtain ⟨rfl, rfl, rfl⟩ := hcs
      have hmm : maxLen = 9223372036854775807 := rfl
      have hz' : zs.length = cap0 := by simpa using hz
      refine ⟨(zs.take len0).map fun b => b.data.toList, by rw [List.length_map, List.length_take]; omega, _, _, _, rfl, hl, by omega, by rw [ss_length, List.length_map, List.length_take]; omega, (fun h => by cases h), ?_⟩
      intro j u hu
      refine ⟨x, rfl, ?_⟩
      simp only [ss, List.map_map, List.getElem?_map, List.getElem?_take] at hu
      split at hu
      · rename_i hj
        have hz2 : j < zs.length := by omega
        rw [List.getElem?_eq_getElem hz2] at hu
        simp only [Option.map_some, Option.some.injEq, Function.comp] at hu
        subst hu
        rw [hcell j hz2, List.getD_eq_getElem?_getD, List.getElem?_eq_getElem hz2]
        simp [str]
      · cases hu
  clear hA0 hval0
  simp only [List.append_nil] at hW'
  refine (walk (.slice s0 len0 cap0) a0 W u0 w0).mono fun e W' ⟨he, bel⟩ => ?_
  subst he
  exact ⟨_, rfl, _, _, _, [], _, [], hW', trodAll_mk1 (shut_bool Try.underlying4 _), (trodAll_cons_mk (Below.trod laidOut (by kernel_rfl) (of_decide_eq_true (by kernel_rfl)) k0 bel lt0) trodAll_mk0), rfl, bel.frame _, fun h => by cases h⟩

theorem over : Rows.frameKeepsRow.holds Try.pinned (OpenSpec.ofChange Rows.frameKeepsSpec) :=
  OpenClaim.holds_of_wide 11 Try.f11 rfl rfl rfl rfl rfl rfl rfl ⟨rfl, rfl, rfl, rfl, rfl⟩ rfl rfl rfl rfl rfl (by kernel_rfl) Try.func11 (by kernel_rfl)
    (of_decide_eq_true (by kernel_rfl)) (by unfold Func.isWrapper; first | (rw [if_pos (by decide +kernel)]; kernel_rfl) | (rw [if_neg (by decide +kernel)]; exact ⟨rfl, rfl⟩))
    (fun os started H enc _ => lifted os started H enc)

theorem proved : Rows.FrameKeepsSaid := over
#print axioms proved
end Go.Proofs.Ytdfdhhepbkejpaa.frameKeeps
