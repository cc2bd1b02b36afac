/-
  VlqRuns: the statement, round the law that returns true.
-/
import Derived.Test.YtpfnclecageleaaVlqRuns
import Derived.WalkKit
import Derived.ProofKit
import Derived.OpenShut
import Derived.ShutString
import Derived.ChangeOld
import Derived.Below
namespace Go.Proofs.Ytpfnclecageleaa.vlqRuns
open Go.Free Go.ChangeShapes Go.WideShapes Go.ChangeAt Go.RowKit
open Go.ChangeMaps (open_string shut_string)
set_option linter.unusedVariables false

theorem own : ownKnob Try.prog.godebug = none := by kernel_rfl
theorem laidOut : laidOutB Try.prog = true := by kernel_rfl

/-- WHAT THE WALK IS TOLD OF A SLICE OF INTEGERS THAT CAME IN: it is nil; or it leads to a row of 'cap' cells, the numbers 'zs' (the first 'len' are its elements, the rest its spare room), each fitting its kind. -/
def IsRow (k : IntKind) (w : World) (a : Option Addr) (len cap : Nat) (zs : List Int) : Prop :=
  (a = none ∧ len = 0 ∧ cap = 0 ∧ zs = []) ∨
  ∃ x, a = some x ∧ len ≤ cap ∧ cap ≤ maxLen ∧ zs.length = cap ∧ (∀ i, i < zs.length → w.cell? (x.add i) = some (.int k (zs.getD i 0))) ∧ ∀ n ∈ zs, (Lit.int k n).wf = true

/-! ### STEP 1: THE WALK: the Go text returns true, AND WRITES NOTHING THAT WAS THERE: 'Below w.heap.size w w'' (Derived/Below.lean: '.refl', '.alloc', '.drew', '.setCell' at a new block, '.trans'). Open each 'IsRow' by 'rcases' AHEAD of 'go_enter'; part every test ahead of the walk. -/
theorem walk (a0 : Option Addr) (len0 cap0 : Nat) (z0 : List Int) (w : World) (w0 : IsRow .u64 w a0 len0 cap0 z0) :
    Calls Try.prog 12 #[.slice a0 len0 cap0] w fun e w' => e = .returned (.bool true) ∧ Below w.heap.size w w' := by
  have key : ∃ l : List Nat, (∀ u ∈ l, u < 2 ^ 64) ∧ l.length ≤ 9223372036854775807 ∧ rowH 1 (us l) w (.slice a0 len0 cap0) := by
    rcases w0 with ⟨rfl, rfl, rfl, rfl⟩ | ⟨x, rfl, h1, h2, h3, h4, h5⟩
    · exact ⟨[], by simp, by simp, none, 0, 0, rfl, by omega, by omega, rfl, fun _ => rfl, fun j u hu => by simp [us] at hu⟩
    · have hm : maxLen = 9223372036854775807 := rfl
      have hb : ∀ n ∈ z0, 0 ≤ n ∧ n ≤ 18446744073709551615 := fun n hn => by
        have := h5 n hn
        have k1 : IntKind.min .u64 = 0 := by decide +kernel
        have k2 : IntKind.max .u64 = 18446744073709551615 := by decide +kernel
        simp [Lit.wf] at this; omega
      refine ⟨(z0.take len0).map Int.toNat, ?_, ?_, _, _, _, rfl, h1, by omega, ?_, fun h => (by cases h), ?_⟩
      · intro u hu
        obtain ⟨n, hn, rfl⟩ := List.mem_map.1 hu
        have := hb n (List.mem_of_mem_take hn); omega
      · rw [List.length_map, List.length_take]; omega
      · rw [us_length, List.length_map, List.length_take]; omega
      · intro j u hu
        refine ⟨x, rfl, ?_⟩
        have hus : ∀ l : List Nat, us l = l.map fun n : Nat => .int .u64 n := fun l => by
          unfold us; induction l with
          | nil => rfl
          | cons a l ih => simp [ih]
        rw [hus, List.map_map, List.getElem?_map, List.getElem?_take] at hu
        split at hu
        · rename_i hj
          have hz : j < z0.length := by omega
          rw [List.getElem?_eq_getElem hz] at hu
          simp only [Option.map_some, Option.some.injEq, Function.comp] at hu
          subst hu
          rw [h4 j hz, List.getD_eq_getElem?_getD, List.getElem?_eq_getElem hz]
          have := hb _ (List.getElem_mem hz)
          simp only [Option.getD_some]
          congr 2
          omega
        · cases hu
  obtain ⟨l, hl1, hl2, hl3⟩ := key
  refine (lawRuns l hl1 hl2 w [.slice a0 len0 cap0] ⟨_, _, rfl, hl3, rfl⟩).mono ?_
  rintro e w' ⟨v, rfl, hb, hR⟩
  have := hR 0 (Nat.zero_le _)
  simp only [Fa.den] at this
  exact ⟨by rw [this], hb⟩

/-! ### THE ROW's STEP: WRITTEN OUT: LEAVE IT -/
set_option maxRecDepth 100000 in
theorem lifted (os : Os) (started : os.Started) (H : Type) (enc : TypeId × Value → H) :
    ReturnsInHanded {} Try.checked os 12 .any (Rows.vlqRunsSpec.pre6 enc Try.prog Try.f12 Rows.vlqRunsRow.domain false) (Rows.vlqRunsSpec.post enc Try.prog Try.f12 false true false false) := by
  refine returnsInHanded_of_change (C := Try.checked) own started (by kernel_rfl) Try.func12
    (ChangeSpec.witness6 (enc := enc) (C := Try.checked) false ⟨#[], #[.slice none 0 0], []⟩ 8 (by kernel_rfl) (by kernel_rfl) (by kernel_rfl) (by kernel_rfl)) ?_
  intro W base args ds gs before hval0 hW hcnd _
  have hval : ∀ (j : Nat) t v, Try.f12.params[j]? = some t → args[j]? = some v → Value.okWide Try.prog W .any base t v := hval0
  have hW' := hW
  obtain ⟨p, q, hA0, hV, rfl, hfz, hnd⟩ := hW
  have hA : DataW.TrodAll enc Try.prog W 0 (fun _ => true) true Try.f12.params.toList args.toList ds p := hA0
  rw [Try.params12] at hA hval
  obtain ⟨v0, vs0, d0, ds0, p0, q0, hargs, rfl, rfl, h0, r0⟩ := trodAll_cons hA
  obtain ⟨rfl, rfl, rfl⟩ := trodAll_nil r0
  obtain rfl : args = #[v0] := by cases args; simp_all
  obtain ⟨rfl, rfl⟩ := trodVars_none hV
  obtain ⟨a0, len0, cap0, rfl⟩ := okWide_slice Try.underlying50 (hval 0 50 v0 rfl rfl)
  have k0 := h0
  have lt0 : ∀ x ∈ p0, x.block < W.heap.size := by obtain ⟨m, hm⟩ := k0; exact DataW.trod_lt m _ _ _ hm
  obtain ⟨z0, w0⟩ : ∃ zs, IsRow .u64 W a0 len0 cap0 zs := by
    obtain ⟨fuel, hf⟩ := h0
    rcases open_ints Try.underlying50 Try.underlying27 (by kernel_rfl) hf with ⟨hcs, _⟩ | ⟨x, l, c, zs, hcs, _, hl, hm, hz, _, hcell, hwz⟩
    · simp [Value.cells] at hcs
      obtain ⟨rfl, rfl, rfl⟩ := hcs
      exact ⟨[], .inl ⟨rfl, rfl, rfl, rfl⟩⟩
    · simp [Value.cells] at hcs
      obtain ⟨rfl, rfl, rfl⟩ := hcs
      exact ⟨zs, .inr ⟨_, rfl, hl, hm, by simpa using hz, hcell, hwz⟩⟩
  clear hA0 hval0
  refine (walk a0 len0 cap0 z0 W w0).mono fun e W' ⟨he, bel⟩ => ?_
  subst he
  exact ⟨_, rfl, _, _, _, [], _, [], hW', trodAll_mk1 (shut_bool Try.underlying4 _), (trodAll_cons_mk (Below.trod laidOut (by kernel_rfl) (of_decide_eq_true (by kernel_rfl)) k0 bel lt0) trodAll_mk0), rfl, bel.frame _, fun h => by cases h⟩

theorem over : Rows.vlqRunsRow.holds Try.pinned (OpenSpec.ofChange Rows.vlqRunsSpec) :=
  OpenClaim.holds_of_wide 12 Try.f12 rfl rfl rfl rfl rfl rfl rfl ⟨rfl, rfl, rfl, rfl, rfl⟩ rfl rfl rfl rfl rfl (by kernel_rfl) Try.func12 (by kernel_rfl)
    (of_decide_eq_true (by kernel_rfl)) (by unfold Func.isWrapper; first | (rw [if_pos (by decide +kernel)]; kernel_rfl) | (rw [if_neg (by decide +kernel)]; exact ⟨rfl, rfl⟩))
    (fun os started H enc _ => lifted os started H enc)

/-- ████ THE STATEMENT ████ -/
theorem proved : Rows.VlqRunsSaid := over
#print axioms proved
end Go.Proofs.Ytpfnclecageleaa.vlqRuns
