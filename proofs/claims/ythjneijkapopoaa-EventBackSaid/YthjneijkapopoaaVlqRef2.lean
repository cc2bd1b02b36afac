/-
  The reference that takes numbers and texts, vlq.TakeText, and the laws' own awake, return what the plain functions say.
-/
import Derived.Test.YthjneijkapopoaaVlqRef
set_option linter.unusedSimpArgs false
set_option linter.unusedVariables false
set_option maxRecDepth 20000
namespace Go.Proofs.Ythjneijkapopoaa
open Go.Free Go.RowKit Go.Proofs

theorem mod128 (c : UInt8) : (c.toNat : Int).tmod 128 = ((c.toNat % 128 : Nat) : Int) := by rw [Int.tmod_eq_emod_of_nonneg (by omega)]; omega
theorem beq128 (c : UInt8) : ((c.toNat : Int) == 128) = decide (c = 128) := by
  by_cases h : c = 128
  · subst h; rfl
  · have : ¬ c.toNat = 128 := fun e => h (UInt8.toNat_inj.1 e)
    simp only [h, decide_false, beq_eq_false_iff_ne, ne_eq]
    omega

def rtEnv (l : List UInt8) (p : Int) (s : Nat × Nat) : Env :=
  [(0, .ex (str l)), (1, .ex (.int .i64 p)), (7, .ex (.int .u64 s.1)), (8, .ex (.int .i64 ((p.toNat + s.2 : Nat) : Int)))]
def takeResI (l : List UInt8) (p : Int) : Fa := .tup [.ex (.int .u64 (vTake l p).1), .ex (.int .i64 (vTake l p).2.1), .ex (.int .i64 (vTake l p).2.2)]

theorem ref_Take (l : List UInt8) (p : Int) (hp : -9223372036854775808 ≤ p ∧ p ≤ 9223372036854775807) (hl : l.length ≤ 9223372036854775807) : Spc Try.prog 64 [.ex (str l), .ex (.int .i64 p)] fun _ => takeResI l p := by
  refine Spc.intro Try.func64 rfl (Nat.le_of_ble_eq_true rfl) fun w0 => ?_
  have hI := hIb w0
  refine J.seq (J.region mixed hI (by kernel_rfl) ?_)
  repeat (refine Plan.assign rfl rfl rfl rfl ?_)
  refine J.seq (J.seq (J.region mixed hI (by kernel_rfl) ?_))
  refine Plan.move rfl rfl rfl rfl ?_
  refine Plan.ints rfl rfl rfl rfl rfl rfl ?_
  by_cases h0 : p < 0
  · have hv : vTake l p = (0, 0, 1) := by unfold vTake; rw [if_pos (.inl h0)]
    refine Plan.boolv (y := true) (by simp; omega) ?_
    repeat (first | refine Plan.move rfl rfl rfl rfl ?_ | refine Plan.skip rfl rfl ?_ | refine Plan.pick rfl rfl rfl rfl rfl ?_)
    refine J.cond rfl (fun _ => ?_) (fun h => by cases h)
    refine J.seq (J.region mixed hI (by kernel_rfl) ?_)
    repeat (refine Plan.assign rfl rfl rfl rfl ?_)
    exact J.ret (Nrm.ret3 rfl (fun _ h => h) fun B _ => ⟨_, rfl, Ress.cons rfl (Sub.of_eq (by rw [hv]; rfl)) (Ress.cons rfl (Sub.of_eq (by rw [hv]; rfl)) (Ress.cons rfl (Sub.of_eq (by rw [hv]; rfl)) Ress.nil))⟩)
  refine Plan.boolv (y := false) (by simp; omega) ?_
  repeat (first | refine Plan.move rfl rfl rfl rfl ?_ | refine Plan.pick rfl rfl rfl rfl rfl ?_ | refine Plan.ints rfl rfl rfl rfl rfl rfl ?_ | refine Plan.lenStr rfl rfl rfl rfl Try.underlying9 ?_)
  by_cases h1 : (l.length : Int) < p
  · have hv : vTake l p = (0, 0, 1) := by unfold vTake; rw [if_pos (.inr h1)]
    refine J.cond rfl (fun _ => ?_) (fun h => absurd h (by simp; omega))
    refine J.seq (J.region mixed hI (by kernel_rfl) ?_)
    repeat (refine Plan.assign rfl rfl rfl rfl ?_)
    exact J.ret (Nrm.ret3 rfl (fun _ h => h) fun B _ => ⟨_, rfl, Ress.cons rfl (Sub.of_eq (by rw [hv]; rfl)) (Ress.cons rfl (Sub.of_eq (by rw [hv]; rfl)) (Ress.cons rfl (Sub.of_eq (by rw [hv]; rfl)) Ress.nil))⟩)
  refine J.cond rfl (fun h => absurd h (by simp; omega)) (fun _ => ?_)
  have hlen : (l.drop p.toNat).length = l.length - p.toNat := List.length_drop
  have hnn : ¬ (p < 0 ∨ (l.length : Int) < p) := by omega
  refine J.skip ?_
  refine J.seq (J.region mixed hI (by kernel_rfl) ?_)
  repeat (refine Plan.assign rfl rfl rfl rfl ?_)
  refine J.seq (J.seq (J.region mixed hI (by kernel_rfl) ?_))
  refine Plan.move rfl rfl rfl rfl ?_
  refine Plan.int (y := ((p.toNat + 0 : Nat) : Int)) (by omega) ?_
  repeat (refine Plan.assign rfl rfl rfl rfl ?_)
  refine J.block (J.loop (rtEnv l p) (fun s => s.2 ≤ (l.drop p.toNat).length ∧ s.1 < 2 ^ 64 ∧ takeL 0 0 (l.drop p.toNat) = takeL s.1 s.2 ((l.drop p.toNat).drop s.2)) (fun s => (l.drop p.toNat).length - s.2) (0, 0) ⟨Nat.zero_le _, by decide, rfl⟩ ?_ ?_)
  · exact Weak.cons rfl (Sub.refl _) (Weak.cons rfl (Sub.refl _) (Weak.cons rfl (Sub.refl _) (Weak.cons rfl (Sub.refl _) Weak.nil)))
  rintro ⟨m, i⟩ ⟨hi, hm, ht⟩
  simp only at hi hm ht
  refine J.seq (J.seq (J.region mixed hI (by kernel_rfl) ?_))
  repeat (first | refine Plan.move rfl rfl rfl rfl ?_ | refine Plan.ints rfl rfl rfl rfl rfl rfl ?_ | refine Plan.lenStr rfl rfl rfl rfl Try.underlying9 ?_)
  refine J.cond rfl (fun hc => ?_) (fun hc => ?_)
  · have hlt : i < (l.drop p.toNat).length := by
      have : ((p.toNat + i : Nat) : Int) < l.length := of_decide_eq_true hc
      omega
    rw [takeL_at _ _ _ hlt] at ht
    obtain ⟨c, hcdef⟩ : ∃ c, c = (l.drop p.toNat).getD i 0 := ⟨_, rfl⟩
    have hcl : l.getD (p.toNat + i) 0 = c := by rw [hcdef]; simp [List.getD_eq_getElem?_getD, List.getElem?_drop]
    rw [← hcdef] at ht
    have hc256 := c.toNat_lt
    refine J.skip ?_
    refine J.seq (J.block ?_)
    refine J.seqMid (fun _ : Unit => rtEnv l p (m, i)) (fun _ => ¬ (i = 0 ∧ c = 128)) ?_ ?_
    · refine J.seq (J.region mixed hI (by kernel_rfl) ?_)
      refine Plan.move rfl rfl rfl rfl ?_
      refine Plan.move rfl rfl rfl rfl ?_
      refine Plan.ints rfl rfl rfl rfl rfl rfl ?_
      by_cases hi0 : i = 0
      · refine Plan.boolv (y := true) (by subst hi0; simp; omega) ?_
        repeat (refine Plan.move rfl rfl rfl rfl ?_)
        refine Plan.index rfl rfl rfl rfl rfl Try.underlying9 (by omega) (by omega) ?_
        rw [Int.toNat_natCast, hcl]
        refine Plan.ints rfl rfl rfl rfl rfl rfl ?_
        refine Plan.boolv (beq128 c) ?_
        repeat (refine Plan.pick rfl rfl rfl rfl rfl ?_)
        refine J.cond rfl (fun h => ?_) (fun h => ?_)
        · have hform : i = 0 ∧ c = 128 := ⟨hi0, of_decide_eq_true h⟩
          have hv : vTake l p = (0, 0, 3) := by unfold vTake; rw [if_neg hnn, ht, if_pos hform]; rfl
          refine J.seq (J.region mixed hI (by kernel_rfl) ?_)
          repeat (refine Plan.assign rfl rfl rfl rfl ?_)
          exact J.ret (Nrm.ret3 rfl (fun _ h => h) fun B _ => ⟨_, rfl, Ress.cons rfl (Sub.of_eq (by rw [hv]; rfl)) (Ress.cons rfl (Sub.of_eq (by rw [hv]; rfl)) (Ress.cons rfl (Sub.of_eq (by rw [hv]; rfl)) Ress.nil))⟩)
        · refine J.skip ?_
          exact Nrm.mid () (fun hf => absurd hf.2 (of_decide_eq_false h)) (Weak.cons rfl (Sub.refl _) (Weak.cons rfl (Sub.refl _) (Weak.cons rfl (Sub.refl _) (Weak.cons rfl (Sub.refl _) Weak.nil))))
      · refine Plan.boolv (y := false) (by simp; omega) ?_
        repeat (first | refine Plan.move rfl rfl rfl rfl ?_ | refine Plan.skip rfl rfl ?_ | refine Plan.pick rfl rfl rfl rfl rfl ?_)
        refine J.cond rfl (fun h => by cases h) (fun _ => ?_)
        refine J.skip ?_
        exact Nrm.mid () (fun hf => hi0 hf.1) (Weak.cons rfl (Sub.refl _) (Weak.cons rfl (Sub.refl _) (Weak.cons rfl (Sub.refl _) (Weak.cons rfl (Sub.refl _) Weak.nil))))
    intro _ hform
    rw [if_neg hform] at ht
    refine J.seq (J.seq (J.region mixed hI (by kernel_rfl) ?_))
    repeat (first | refine Plan.move rfl rfl rfl rfl ?_ | refine Plan.ints rfl rfl rfl rfl rfl rfl ?_)
    refine J.cond rfl (fun h4 => ?_) (fun h4 => ?_)
    · have h4' : 144115188075855872 ≤ m := by
        have : (144115188075855871 : Int) < m := of_decide_eq_true h4
        omega
      have hv : vTake l p = (0, 0, 4) := by unfold vTake; rw [if_neg hnn, ht, if_pos h4']; rfl
      refine J.seq (J.region mixed hI (by kernel_rfl) ?_)
      repeat (refine Plan.assign rfl rfl rfl rfl ?_)
      exact J.ret (Nrm.ret3 rfl (fun _ h => h) fun B _ => ⟨_, rfl, Ress.cons rfl (Sub.of_eq (by rw [hv]; rfl)) (Ress.cons rfl (Sub.of_eq (by rw [hv]; rfl)) (Ress.cons rfl (Sub.of_eq (by rw [hv]; rfl)) Ress.nil))⟩)
    have h4' : ¬ 144115188075855872 ≤ m := by
      have : ¬ (144115188075855871 : Int) < m := of_decide_eq_false h4
      omega
    rw [if_neg h4'] at ht
    refine J.skip ?_
    refine J.seq (J.region mixed hI (by kernel_rfl) ?_)
    refine Plan.move rfl rfl rfl rfl ?_
    refine Plan.ints rfl rfl rfl rfl rfl rfl ?_
    refine Plan.int (y := ((m * 128 : Nat) : Int)) (by rw [IntKind.wrap_u64]; omega) ?_
    repeat (refine Plan.move rfl rfl rfl rfl ?_)
    refine Plan.index rfl rfl rfl rfl rfl Try.underlying9 (by omega) (by omega) ?_
    rw [Int.toNat_natCast, hcl]
    refine Plan.ints rfl rfl rfl rfl rfl rfl ?_
    refine Plan.int (mod128 c) ?_
    refine Plan.convInt rfl rfl rfl rfl Try.underlying5 Try.underlying59 ?_
    refine Plan.int (u64n (by omega)) ?_
    refine Plan.ints rfl rfl rfl rfl rfl rfl ?_
    refine Plan.int (y := ((m * 128 + c.toNat % 128 : Nat) : Int)) (by rw [IntKind.wrap_u64]; omega) ?_
    repeat (refine Plan.assign rfl rfl rfl rfl ?_)
    refine J.seq (J.region mixed hI (by kernel_rfl) ?_)
    repeat (refine Plan.move rfl rfl rfl rfl ?_)
    refine Plan.index rfl rfl rfl rfl rfl Try.underlying9 (by omega) (by omega) ?_
    rw [Int.toNat_natCast, hcl]
    refine Plan.ints rfl rfl rfl rfl rfl rfl ?_
    refine J.cond rfl (fun h5 => ?_) (fun h5 => ?_)
    · have h5' : c.toNat < 128 := by have : (c.toNat : Int) < 128 := of_decide_eq_true h5
                                     omega
      rw [if_pos h5'] at ht
      have hv : vTake l p = (m * 128 + c.toNat % 128, p.toNat + (i + 1), 0) := by unfold vTake; rw [if_neg hnn, ht]; rfl
      refine J.seq (J.region mixed hI (by kernel_rfl) ?_)
      refine Plan.move rfl rfl rfl rfl ?_
      refine Plan.move rfl rfl rfl rfl ?_
      refine Plan.ints rfl rfl rfl rfl rfl rfl ?_
      refine Plan.int (y := ((p.toNat + (i + 1) : Nat) : Int)) (by rw [i64r (by omega)]; omega) ?_
      repeat (refine Plan.assign rfl rfl rfl rfl ?_)
      exact J.ret (Nrm.ret3 rfl (fun _ h => h) fun B _ => ⟨_, rfl, Ress.cons rfl (Sub.of_eq (by rw [hv])) (Ress.cons rfl (Sub.of_eq (by rw [hv])) (Ress.cons rfl (Sub.of_eq (by rw [hv]; rfl)) Ress.nil))⟩)
    · have h5' : ¬ c.toNat < 128 := by have : ¬ (c.toNat : Int) < 128 := of_decide_eq_false h5
                                       omega
      rw [if_neg h5'] at ht
      refine J.skip ?_
      refine (J.region mixed hI (by kernel_rfl) ?_)
      refine Plan.move rfl rfl rfl rfl ?_
      refine Plan.ints rfl rfl rfl rfl rfl rfl ?_
      refine Plan.int (y := ((p.toNat + (i + 1) : Nat) : Int)) (by rw [i64r (by omega)]; omega) ?_
      repeat (refine Plan.assign rfl rfl rfl rfl ?_)
      refine Nrm.weak (rtEnv l p (m * 128 + c.toNat % 128, i + 1)) ?_ fun a w h1 h2 h3 => ⟨(m * 128 + c.toNat % 128, i + 1), ⟨by show i + 1 ≤ _; omega, by show m * 128 + c.toNat % 128 < 2 ^ 64; omega, ht⟩, by show _ - (i + 1) < _ - i; omega, h1, h2, h3⟩
      exact Weak.cons rfl (Sub.refl _) (Weak.cons rfl (Sub.refl _) (Weak.cons rfl (Sub.refl _) (Weak.cons rfl (Sub.refl _) Weak.nil)))
  · have hge : i = (l.drop p.toNat).length := by
      have : ¬ ((p.toNat + i : Nat) : Int) < l.length := of_decide_eq_false hc
      omega
    have hv : vTake l p = (0, 0, 2) := by
      unfold vTake; rw [if_neg hnn, ht, hge, List.drop_length]; rfl
    refine J.exit ?_
    refine J.seq (J.region mixed hI (by kernel_rfl) ?_)
    repeat (refine Plan.assign rfl rfl rfl rfl ?_)
    exact J.ret (Nrm.ret3 rfl (fun _ h => h) fun B _ => ⟨_, rfl, Ress.cons rfl (Sub.of_eq (by rw [hv]; rfl)) (Ress.cons rfl (Sub.of_eq (by rw [hv]; rfl)) (Ress.cons rfl (Sub.of_eq (by rw [hv]; rfl)) Ress.nil))⟩)
end Go.Proofs.Ythjneijkapopoaa
