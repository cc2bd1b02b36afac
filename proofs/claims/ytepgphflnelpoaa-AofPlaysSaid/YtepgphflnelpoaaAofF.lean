/-
  Laid together: VlqRef2, VlqText, EvDec, EvDec2, AofPlain, FreeDeep, EvRead, EvOp.
-/
import Derived.Test.YtepgphflnelpoaaAofE

section
set_option linter.unusedSimpArgs false
set_option linter.unusedVariables false
set_option maxRecDepth 20000
namespace Go.Proofs.Ytepgphflnelpoaa
open Go.Free Go.RowKit Go.Proofs

theorem mod128 (c : UInt8) : (c.toNat : Int).tmod 128 = ((c.toNat % 128 : Nat) : Int) := by rw [Int.tmod_eq_emod_of_nonneg (by omega)]; omega
theorem beq128 (c : UInt8) : ((c.toNat : Int) == 128) = decide (c = 128) := by
  by_cases h : c = 128
  · subst h; rfl
  · have : ¬ c.toNat = 128 := fun e => h (UInt8.toNat_inj.1 e)
    simp only [h, decide_false, beq_eq_false_iff_ne, ne_eq]
    omega

def rtEnv (l : List UInt8) (p : Int) (s : Nat × Nat) : Env :=
  [(0, .ex (str l)), (1, .ex (.int .i64 p)), (7, .ex (.int .u64 s.1)), (8, .ex (.int .i64 ((p.toNat + s.2 : Nat) : Int)))]
def takeResI (l : List UInt8) (p : Int) : Fa := .tup [.ex (.int .u64 (vTake l p).1), .ex (.int .i64 (vTake l p).2.1), .ex (.int .i64 (vTake l p).2.2)]

theorem ref_Take (l : List UInt8) (p : Int) (hp : -9223372036854775808 ≤ p ∧ p ≤ 9223372036854775807) (hl : l.length ≤ 9223372036854775807) : Spc Try.prog 79 [.ex (str l), .ex (.int .i64 p)] fun _ => takeResI l p := by
  refine Spc.intro Try.func79 rfl (Nat.le_of_ble_eq_true rfl) fun w0 => ?_
  have hI := hIb w0
  refine J.seq (J.region mixed hI (by kernel_rfl) ?_)
  repeat (refine Plan.assign rfl rfl rfl rfl ?_)
  refine J.seq (J.seq (J.region mixed hI (by kernel_rfl) ?_))
  refine Plan.move rfl rfl rfl rfl ?_
  refine Plan.ints rfl rfl rfl rfl rfl rfl ?_
  by_cases h0 : p < 0
  · have hv : vTake l p = (0, 0, 1) := by unfold vTake; rw [if_pos (.inl h0)]
    refine Plan.boolv (y := true) (by simp; omega) ?_
    repeat (first | refine Plan.move rfl rfl rfl rfl ?_ | refine Plan.skip rfl rfl ?_ | refine Plan.pick rfl rfl rfl rfl rfl ?_)
    refine J.cond rfl (fun _ => ?_) (fun h => by cases h)
    refine J.seq (J.region mixed hI (by kernel_rfl) ?_)
    repeat (refine Plan.assign rfl rfl rfl rfl ?_)
    exact J.ret (Nrm.ret3 rfl (fun _ h => h) fun B _ => ⟨_, rfl, Ress.cons rfl (Sub.of_eq (by rw [hv]; rfl)) (Ress.cons rfl (Sub.of_eq (by rw [hv]; rfl)) (Ress.cons rfl (Sub.of_eq (by rw [hv]; rfl)) Ress.nil))⟩)
  refine Plan.boolv (y := false) (by simp; omega) ?_
  repeat (first | refine Plan.move rfl rfl rfl rfl ?_ | refine Plan.pick rfl rfl rfl rfl rfl ?_ | refine Plan.ints rfl rfl rfl rfl rfl rfl ?_ | refine Plan.lenStr rfl rfl rfl rfl Try.underlying9 ?_)
  by_cases h1 : (l.length : Int) < p
  · have hv : vTake l p = (0, 0, 1) := by unfold vTake; rw [if_pos (.inr h1)]
    refine J.cond rfl (fun _ => ?_) (fun h => absurd h (by simp; omega))
    refine J.seq (J.region mixed hI (by kernel_rfl) ?_)
    repeat (refine Plan.assign rfl rfl rfl rfl ?_)
    exact J.ret (Nrm.ret3 rfl (fun _ h => h) fun B _ => ⟨_, rfl, Ress.cons rfl (Sub.of_eq (by rw [hv]; rfl)) (Ress.cons rfl (Sub.of_eq (by rw [hv]; rfl)) (Ress.cons rfl (Sub.of_eq (by rw [hv]; rfl)) Ress.nil))⟩)
  refine J.cond rfl (fun h => absurd h (by simp; omega)) (fun _ => ?_)
  have hlen : (l.drop p.toNat).length = l.length - p.toNat := List.length_drop
  have hnn : ¬ (p < 0 ∨ (l.length : Int) < p) := by omega
  refine J.skip ?_
  refine J.seq (J.region mixed hI (by kernel_rfl) ?_)
  repeat (refine Plan.assign rfl rfl rfl rfl ?_)
  refine J.seq (J.seq (J.region mixed hI (by kernel_rfl) ?_))
  refine Plan.move rfl rfl rfl rfl ?_
  refine Plan.int (y := ((p.toNat + 0 : Nat) : Int)) (by omega) ?_
  repeat (refine Plan.assign rfl rfl rfl rfl ?_)
  refine J.block (J.loop (rtEnv l p) (fun s => s.2 ≤ (l.drop p.toNat).length ∧ s.1 < 2 ^ 64 ∧ takeL 0 0 (l.drop p.toNat) = takeL s.1 s.2 ((l.drop p.toNat).drop s.2)) (fun s => (l.drop p.toNat).length - s.2) (0, 0) ⟨Nat.zero_le _, by decide, rfl⟩ ?_ ?_)
  · exact Weak.cons rfl (Sub.refl _) (Weak.cons rfl (Sub.refl _) (Weak.cons rfl (Sub.refl _) (Weak.cons rfl (Sub.refl _) Weak.nil)))
  rintro ⟨m, i⟩ ⟨hi, hm, ht⟩
  simp only at hi hm ht
  refine J.seq (J.seq (J.region mixed hI (by kernel_rfl) ?_))
  repeat (first | refine Plan.move rfl rfl rfl rfl ?_ | refine Plan.ints rfl rfl rfl rfl rfl rfl ?_ | refine Plan.lenStr rfl rfl rfl rfl Try.underlying9 ?_)
  refine J.cond rfl (fun hc => ?_) (fun hc => ?_)
  · have hlt : i < (l.drop p.toNat).length := by
      have : ((p.toNat + i : Nat) : Int) < l.length := of_decide_eq_true hc
      omega
    rw [takeL_at _ _ _ hlt] at ht
    obtain ⟨c, hcdef⟩ : ∃ c, c = (l.drop p.toNat).getD i 0 := ⟨_, rfl⟩
    have hcl : l.getD (p.toNat + i) 0 = c := by rw [hcdef]; simp [List.getD_eq_getElem?_getD, List.getElem?_drop]
    rw [← hcdef] at ht
    have hc256 := c.toNat_lt
    refine J.skip ?_
    refine J.seq (J.block ?_)
    refine J.seqMid (fun _ : Unit => rtEnv l p (m, i)) (fun _ => ¬ (i = 0 ∧ c = 128)) ?_ ?_
    · refine J.seq (J.region mixed hI (by kernel_rfl) ?_)
      refine Plan.move rfl rfl rfl rfl ?_
      refine Plan.move rfl rfl rfl rfl ?_
      refine Plan.ints rfl rfl rfl rfl rfl rfl ?_
      by_cases hi0 : i = 0
      · refine Plan.boolv (y := true) (by subst hi0; simp; omega) ?_
        repeat (refine Plan.move rfl rfl rfl rfl ?_)
        refine Plan.index rfl rfl rfl rfl rfl Try.underlying9 (by omega) (by omega) ?_
        rw [Int.toNat_natCast, hcl]
        refine Plan.ints rfl rfl rfl rfl rfl rfl ?_
        refine Plan.boolv (beq128 c) ?_
        repeat (refine Plan.pick rfl rfl rfl rfl rfl ?_)
        refine J.cond rfl (fun h => ?_) (fun h => ?_)
        · have hform : i = 0 ∧ c = 128 := ⟨hi0, of_decide_eq_true h⟩
          have hv : vTake l p = (0, 0, 3) := by unfold vTake; rw [if_neg hnn, ht, if_pos hform]; rfl
          refine J.seq (J.region mixed hI (by kernel_rfl) ?_)
          repeat (refine Plan.assign rfl rfl rfl rfl ?_)
          exact J.ret (Nrm.ret3 rfl (fun _ h => h) fun B _ => ⟨_, rfl, Ress.cons rfl (Sub.of_eq (by rw [hv]; rfl)) (Ress.cons rfl (Sub.of_eq (by rw [hv]; rfl)) (Ress.cons rfl (Sub.of_eq (by rw [hv]; rfl)) Ress.nil))⟩)
        · refine J.skip ?_
          exact Nrm.mid () (fun hf => absurd hf.2 (of_decide_eq_false h)) (Weak.cons rfl (Sub.refl _) (Weak.cons rfl (Sub.refl _) (Weak.cons rfl (Sub.refl _) (Weak.cons rfl (Sub.refl _) Weak.nil))))
      · refine Plan.boolv (y := false) (by simp; omega) ?_
        repeat (first | refine Plan.move rfl rfl rfl rfl ?_ | refine Plan.skip rfl rfl ?_ | refine Plan.pick rfl rfl rfl rfl rfl ?_)
        refine J.cond rfl (fun h => by cases h) (fun _ => ?_)
        refine J.skip ?_
        exact Nrm.mid () (fun hf => hi0 hf.1) (Weak.cons rfl (Sub.refl _) (Weak.cons rfl (Sub.refl _) (Weak.cons rfl (Sub.refl _) (Weak.cons rfl (Sub.refl _) Weak.nil))))
    intro _ hform
    rw [if_neg hform] at ht
    refine J.seq (J.seq (J.region mixed hI (by kernel_rfl) ?_))
    repeat (first | refine Plan.move rfl rfl rfl rfl ?_ | refine Plan.ints rfl rfl rfl rfl rfl rfl ?_)
    refine J.cond rfl (fun h4 => ?_) (fun h4 => ?_)
    · have h4' : 144115188075855872 ≤ m := by
        have : (144115188075855871 : Int) < m := of_decide_eq_true h4
        omega
      have hv : vTake l p = (0, 0, 4) := by unfold vTake; rw [if_neg hnn, ht, if_pos h4']; rfl
      refine J.seq (J.region mixed hI (by kernel_rfl) ?_)
      repeat (refine Plan.assign rfl rfl rfl rfl ?_)
      exact J.ret (Nrm.ret3 rfl (fun _ h => h) fun B _ => ⟨_, rfl, Ress.cons rfl (Sub.of_eq (by rw [hv]; rfl)) (Ress.cons rfl (Sub.of_eq (by rw [hv]; rfl)) (Ress.cons rfl (Sub.of_eq (by rw [hv]; rfl)) Ress.nil))⟩)
    have h4' : ¬ 144115188075855872 ≤ m := by
      have : ¬ (144115188075855871 : Int) < m := of_decide_eq_false h4
      omega
    rw [if_neg h4'] at ht
    refine J.skip ?_
    refine J.seq (J.region mixed hI (by kernel_rfl) ?_)
    refine Plan.move rfl rfl rfl rfl ?_
    refine Plan.ints rfl rfl rfl rfl rfl rfl ?_
    refine Plan.int (y := ((m * 128 : Nat) : Int)) (by rw [IntKind.wrap_u64]; omega) ?_
    repeat (refine Plan.move rfl rfl rfl rfl ?_)
    refine Plan.index rfl rfl rfl rfl rfl Try.underlying9 (by omega) (by omega) ?_
    rw [Int.toNat_natCast, hcl]
    refine Plan.ints rfl rfl rfl rfl rfl rfl ?_
    refine Plan.int (mod128 c) ?_
    refine Plan.convInt rfl rfl rfl rfl Try.underlying5 Try.underlying122 ?_
    refine Plan.int (u64n (by omega)) ?_
    refine Plan.ints rfl rfl rfl rfl rfl rfl ?_
    refine Plan.int (y := ((m * 128 + c.toNat % 128 : Nat) : Int)) (by rw [IntKind.wrap_u64]; omega) ?_
    repeat (refine Plan.assign rfl rfl rfl rfl ?_)
    refine J.seq (J.region mixed hI (by kernel_rfl) ?_)
    repeat (refine Plan.move rfl rfl rfl rfl ?_)
    refine Plan.index rfl rfl rfl rfl rfl Try.underlying9 (by omega) (by omega) ?_
    rw [Int.toNat_natCast, hcl]
    refine Plan.ints rfl rfl rfl rfl rfl rfl ?_
    refine J.cond rfl (fun h5 => ?_) (fun h5 => ?_)
    · have h5' : c.toNat < 128 := by have : (c.toNat : Int) < 128 := of_decide_eq_true h5
                                     omega
      rw [if_pos h5'] at ht
      have hv : vTake l p = (m * 128 + c.toNat % 128, p.toNat + (i + 1), 0) := by unfold vTake; rw [if_neg hnn, ht]; rfl
      refine J.seq (J.region mixed hI (by kernel_rfl) ?_)
      refine Plan.move rfl rfl rfl rfl ?_
      refine Plan.move rfl rfl rfl rfl ?_
      refine Plan.ints rfl rfl rfl rfl rfl rfl ?_
      refine Plan.int (y := ((p.toNat + (i + 1) : Nat) : Int)) (by rw [i64r (by omega)]; omega) ?_
      repeat (refine Plan.assign rfl rfl rfl rfl ?_)
      exact J.ret (Nrm.ret3 rfl (fun _ h => h) fun B _ => ⟨_, rfl, Ress.cons rfl (Sub.of_eq (by rw [hv])) (Ress.cons rfl (Sub.of_eq (by rw [hv])) (Ress.cons rfl (Sub.of_eq (by rw [hv]; rfl)) Ress.nil))⟩)
    · have h5' : ¬ c.toNat < 128 := by have : ¬ (c.toNat : Int) < 128 := of_decide_eq_false h5
                                       omega
      rw [if_neg h5'] at ht
      refine J.skip ?_
      refine (J.region mixed hI (by kernel_rfl) ?_)
      refine Plan.move rfl rfl rfl rfl ?_
      refine Plan.ints rfl rfl rfl rfl rfl rfl ?_
      refine Plan.int (y := ((p.toNat + (i + 1) : Nat) : Int)) (by rw [i64r (by omega)]; omega) ?_
      repeat (refine Plan.assign rfl rfl rfl rfl ?_)
      refine Nrm.weak (rtEnv l p (m * 128 + c.toNat % 128, i + 1)) ?_ fun a w h1 h2 h3 => ⟨(m * 128 + c.toNat % 128, i + 1), ⟨by show i + 1 ≤ _; omega, by show m * 128 + c.toNat % 128 < 2 ^ 64; omega, ht⟩, by show _ - (i + 1) < _ - i; omega, h1, h2, h3⟩
      exact Weak.cons rfl (Sub.refl _) (Weak.cons rfl (Sub.refl _) (Weak.cons rfl (Sub.refl _) (Weak.cons rfl (Sub.refl _) Weak.nil)))
  · have hge : i = (l.drop p.toNat).length := by
      have : ¬ ((p.toNat + i : Nat) : Int) < l.length := of_decide_eq_false hc
      omega
    have hv : vTake l p = (0, 0, 2) := by
      unfold vTake; rw [if_neg hnn, ht, hge, List.drop_length]; rfl
    refine J.exit ?_
    refine J.seq (J.region mixed hI (by kernel_rfl) ?_)
    repeat (refine Plan.assign rfl rfl rfl rfl ?_)
    exact J.ret (Nrm.ret3 rfl (fun _ h => h) fun B _ => ⟨_, rfl, Ress.cons rfl (Sub.of_eq (by rw [hv]; rfl)) (Ress.cons rfl (Sub.of_eq (by rw [hv]; rfl)) (Ress.cons rfl (Sub.of_eq (by rw [hv]; rfl)) Ress.nil))⟩)
end Go.Proofs.Ytepgphflnelpoaa
end

section
set_option linter.unusedSimpArgs false
set_option linter.unusedVariables false
set_option maxRecDepth 20000
namespace Go.Proofs.Ytepgphflnelpoaa
open Go.Free Go.RowKit Go.Proofs

def vText (l : List UInt8) (p most : Int) : List UInt8 × Nat × Nat :=
  if most < 0 then ([], 0, 1)
  else if (vTake l p).2.2 ≠ 0 then ([], 0, (vTake l p).2.2)
  else if most < (vTake l p).1 then ([], 0, 4)
  else if l.length - (vTake l p).2.1 < (vTake l p).1 then ([], 0, 2)
  else ((l.drop (vTake l p).2.1).take (vTake l p).1, (vTake l p).2.1 + (vTake l p).1, 0)
def textRes (l : List UInt8) (p most : Int) : Fa := .tup [.ex (str (vText l p most).1), .ex (.int .i64 (vText l p most).2.1), .ex (.int .i64 (vText l p most).2.2)]

theorem vlq_TakeText (l : List UInt8) (p most : Int) (hp : -9223372036854775808 ≤ p ∧ p ≤ 9223372036854775807) (hmost : -9223372036854775808 ≤ most ∧ most ≤ 9223372036854775807) (hl : l.length ≤ 9223372036854775807) :
    Spc Try.prog 94 [bytesF l, .ex (.int .i64 p), .ex (.int .i64 most)] fun _ => textRes l p most := by
  refine Spc.intro Try.func94 rfl (Nat.le_of_ble_eq_true rfl) fun w0 => ?_
  have hI := hIb w0
  obtain ⟨hb1, hb2, hb3, hb4, hb5⟩ := vTake_bd l p
  refine J.seq (J.region mixed hI (by kernel_rfl) ?_)
  repeat (refine Plan.assign rfl rfl rfl rfl ?_)
  refine J.seq (J.seq (J.region mixed hI (by kernel_rfl) ?_))
  repeat (first | refine Plan.move rfl rfl rfl rfl ?_ | refine Plan.ints rfl rfl rfl rfl rfl rfl ?_)
  refine J.cond rfl (fun hc => ?_) (fun hc => ?_)
  · have h0 : most < 0 := of_decide_eq_true hc
    have hv : vText l p most = ([], 0, 1) := by unfold vText; rw [if_pos h0]
    refine J.seq (J.region mixed hI (by kernel_rfl) ?_)
    repeat (refine Plan.assign rfl rfl rfl rfl ?_)
    exact J.ret (Nrm.ret3 rfl (fun _ h => h) fun B _ => ⟨_, rfl, Ress.cons rfl (Sub.of_eq (by rw [hv]; rfl)) (Ress.cons rfl (Sub.of_eq (by rw [hv]; rfl)) (Ress.cons rfl (Sub.of_eq (by rw [hv]; rfl)) Ress.nil))⟩)
  have h0 : ¬ most < 0 := of_decide_eq_false hc
  refine J.skip ?_
  refine J.seq (J.region mixed hI (by kernel_rfl) ?_)
  repeat (refine Plan.move rfl rfl rfl rfl ?_)
  refine Plan.call (B := 0) (R := fun _ => takeRes l p) rfl rfl rfl (vlq_Take l p hp hl) Try.func86 rfl rfl (fun _ _ => Nat.zero_le _) (Opnds.cons rfl (Sub.old fun _ h => h) (Opnds.cons rfl (Sub.refl _) Opnds.nil)) ?_
  repeat (first | refine Plan.move rfl rfl rfl rfl ?_ | refine Plan.assign rfl rfl rfl rfl ?_ | refine Plan.extract rfl rfl rfl rfl rfl ?_)
  refine J.seqMid (fun _ : Unit => [(0, .old w0 (bytesF l)), (2, .ex (.int .i64 most)), (9, .ex (.int .u64 (vTake l p).1)), (10, .ex (.int .i64 (vTake l p).2.1))]) (fun _ => (vTake l p).2.2 = 0 ∧ ¬ most < (vTake l p).1 ∧ ¬ l.length - (vTake l p).2.1 < (vTake l p).1) ?_ ?_
  · refine J.block ?_
    refine J.seq (J.region mixed hI (by kernel_rfl) ?_)
    repeat (first | refine Plan.move rfl rfl rfl rfl ?_ | refine Plan.assign rfl rfl rfl rfl ?_ | refine Plan.ints rfl rfl rfl rfl rfl rfl ?_)
    refine J.cond rfl (fun he => ?_) (fun he => ?_)
    · have he' : (vTake l p).2.2 ≠ 0 := by intro e; rw [e] at he; simp at he
      have hv : vText l p most = ([], 0, (vTake l p).2.2) := by unfold vText; rw [if_neg h0, if_pos he']
      refine J.seq (J.region mixed hI (by kernel_rfl) ?_)
      repeat (first | refine Plan.move rfl rfl rfl rfl ?_ | refine Plan.assign rfl rfl rfl rfl ?_)
      exact J.ret (Nrm.ret3 rfl (fun _ h => h) fun B _ => ⟨_, rfl, Ress.cons rfl (Sub.of_eq (by rw [hv]; rfl)) (Ress.cons rfl (Sub.of_eq (by rw [hv]; rfl)) (Ress.cons rfl (Sub.of_eq (by rw [hv])) Ress.nil))⟩)
    have he' : (vTake l p).2.2 = 0 := by
      by_cases hz : (vTake l p).2.2 = 0
      · exact hz
      · exact absurd he (by simp; omega)
    refine J.seq (J.region mixed hI (by kernel_rfl) ?_)
    repeat (refine Plan.move rfl rfl rfl rfl ?_)
    refine Plan.convInt rfl rfl rfl rfl Try.underlying3 Try.underlying122 ?_
    refine Plan.int (y := most) (by rw [IntKind.wrap_u64]; omega) ?_
    repeat (first | refine Plan.assign rfl rfl rfl rfl ?_ | refine Plan.ints rfl rfl rfl rfl rfl rfl ?_)
    refine J.cond rfl (fun h4 => ?_) (fun h4 => ?_)
    · have h4' : most < (vTake l p).1 := of_decide_eq_true h4
      have hv : vText l p most = ([], 0, 4) := by unfold vText; rw [if_neg h0, if_neg (by omega), if_pos h4']
      refine J.seq (J.region mixed hI (by kernel_rfl) ?_)
      repeat (refine Plan.assign rfl rfl rfl rfl ?_)
      exact J.ret (Nrm.ret3 rfl (fun _ h => h) fun B _ => ⟨_, rfl, Ress.cons rfl (Sub.of_eq (by rw [hv]; rfl)) (Ress.cons rfl (Sub.of_eq (by rw [hv]; rfl)) (Ress.cons rfl (Sub.of_eq (by rw [hv]; rfl)) Ress.nil))⟩)
    have h4' : ¬ most < (vTake l p).1 := of_decide_eq_false h4
    refine J.seq (J.region mixed hI (by kernel_rfl) ?_)
    repeat (refine Plan.move rfl rfl rfl rfl ?_)
    refine Plan.lenRow rfl rfl rfl rfl (Sub.old fun _ h => h) Try.underlying27 (m := l.length) (by simp [bs]) (by decide) ?_
    refine Plan.move rfl rfl rfl rfl ?_
    refine Plan.ints rfl rfl rfl rfl rfl rfl ?_
    refine Plan.int (y := ((l.length - (vTake l p).2.1 : Nat) : Int)) (by rw [i64r (by omega)]; omega) ?_
    refine Plan.convInt rfl rfl rfl rfl Try.underlying3 Try.underlying122 ?_
    refine Plan.int (u64n (by omega)) ?_
    repeat (first | refine Plan.assign rfl rfl rfl rfl ?_ | refine Plan.ints rfl rfl rfl rfl rfl rfl ?_)
    refine J.cond rfl (fun h5 => ?_) (fun h5 => ?_)
    · have h5' : l.length - (vTake l p).2.1 < (vTake l p).1 := by
        have : ((l.length - (vTake l p).2.1 : Nat) : Int) < (vTake l p).1 := of_decide_eq_true h5
        omega
      have hv : vText l p most = ([], 0, 2) := by unfold vText; rw [if_neg h0, if_neg (by omega), if_neg h4', if_pos h5']
      refine J.seq (J.region mixed hI (by kernel_rfl) ?_)
      repeat (refine Plan.assign rfl rfl rfl rfl ?_)
      exact J.ret (Nrm.ret3 rfl (fun _ h => h) fun B _ => ⟨_, rfl, Ress.cons rfl (Sub.of_eq (by rw [hv]; rfl)) (Ress.cons rfl (Sub.of_eq (by rw [hv]; rfl)) (Ress.cons rfl (Sub.of_eq (by rw [hv]; rfl)) Ress.nil))⟩)
    have h5' : ¬ l.length - (vTake l p).2.1 < (vTake l p).1 := by
      have : ¬ ((l.length - (vTake l p).2.1 : Nat) : Int) < (vTake l p).1 := of_decide_eq_false h5
      omega
    refine J.skip ?_
    exact Nrm.mid () ⟨he', h4', h5'⟩ (Weak.cons rfl (Sub.refl _) (Weak.cons rfl (Sub.refl _) (Weak.cons rfl (Sub.refl _) (Weak.cons rfl (Sub.refl _) Weak.nil))))
  rintro _ ⟨he', h4', h5'⟩
  have hv : vText l p most = ((l.drop (vTake l p).2.1).take (vTake l p).1, (vTake l p).2.1 + (vTake l p).1, 0) := by unfold vText; rw [if_neg h0, if_neg (by omega), if_neg h4', if_neg h5']
  refine J.seq (J.region mixed hI (by kernel_rfl) ?_)
  repeat (refine Plan.move rfl rfl rfl rfl ?_)
  refine Plan.convInt rfl rfl rfl rfl Try.underlying122 Try.underlying3 ?_
  refine Plan.int (i64r (by omega)) ?_
  refine Plan.ints rfl rfl rfl rfl rfl rfl ?_
  refine Plan.int (y := (((vTake l p).2.1 + (vTake l p).1 : Nat) : Int)) (by rw [i64r (by omega)]; omega) ?_
  refine Plan.sliceRow (m := l.length) (a0 := (vTake l p).2.1) (b0 := (vTake l p).2.1 + (vTake l p).1) rfl rfl rfl rfl (Sub.old fun _ h => h) eltB (by simp [bs]) (.inr ⟨_, _, rfl, rfl⟩) (.inr ⟨_, _, rfl, rfl⟩) (by omega) (by omega) ?_
  refine Plan.convBS (p := (l.drop (vTake l p).2.1).take (vTake l p).1) rfl rfl rfl rfl (Sub.of_eq (by
    simp only [bytesF, bs, Nat.mul_one, ← List.map_take, ← List.map_drop]
    rw [List.drop_take, Nat.add_sub_cancel_left])) Try.underlying27 Try.underlying9 Try.underlying5 ?_
  repeat (refine Plan.move rfl rfl rfl rfl ?_)
  refine Plan.convInt rfl rfl rfl rfl Try.underlying122 Try.underlying3 ?_
  refine Plan.int (i64r (by omega)) ?_
  refine Plan.ints rfl rfl rfl rfl rfl rfl ?_
  refine Plan.int (y := (((vTake l p).2.1 + (vTake l p).1 : Nat) : Int)) (by rw [i64r (by omega)]; omega) ?_
  repeat (refine Plan.assign rfl rfl rfl rfl ?_)
  exact J.ret (Nrm.ret3 rfl (fun _ h => h) fun B _ => ⟨_, rfl, Ress.cons rfl (Sub.of_eq (by rw [hv])) (Ress.cons rfl (Sub.of_eq (by rw [hv])) (Ress.cons rfl (Sub.of_eq (by rw [hv]; rfl)) Ress.nil))⟩)

theorem ref_TakeText (l : List UInt8) (p most : Int) (hp : -9223372036854775808 ≤ p ∧ p ≤ 9223372036854775807) (hmost : -9223372036854775808 ≤ most ∧ most ≤ 9223372036854775807) (hl : l.length ≤ 9223372036854775807) :
    Spc Try.prog 80 [.ex (str l), .ex (.int .i64 p), .ex (.int .i64 most)] fun _ => textRes l p most := by
  refine Spc.intro Try.func80 rfl (Nat.le_of_ble_eq_true rfl) fun w0 => ?_
  have hI := hIb w0
  obtain ⟨hb1, hb2, hb3, hb4, hb5⟩ := vTake_bd l p
  refine J.seq (J.region mixed hI (by kernel_rfl) ?_)
  repeat (refine Plan.assign rfl rfl rfl rfl ?_)
  refine J.seq (J.seq (J.region mixed hI (by kernel_rfl) ?_))
  repeat (first | refine Plan.move rfl rfl rfl rfl ?_ | refine Plan.ints rfl rfl rfl rfl rfl rfl ?_)
  refine J.cond rfl (fun hc => ?_) (fun hc => ?_)
  · have h0 : most < 0 := of_decide_eq_true hc
    have hv : vText l p most = ([], 0, 1) := by unfold vText; rw [if_pos h0]
    refine J.seq (J.region mixed hI (by kernel_rfl) ?_)
    repeat (refine Plan.assign rfl rfl rfl rfl ?_)
    exact J.ret (Nrm.ret3 rfl (fun _ h => h) fun B _ => ⟨_, rfl, Ress.cons rfl (Sub.of_eq (by rw [hv]; rfl)) (Ress.cons rfl (Sub.of_eq (by rw [hv]; rfl)) (Ress.cons rfl (Sub.of_eq (by rw [hv]; rfl)) Ress.nil))⟩)
  have h0 : ¬ most < 0 := of_decide_eq_false hc
  refine J.skip ?_
  refine J.seq (J.region mixed hI (by kernel_rfl) ?_)
  repeat (refine Plan.move rfl rfl rfl rfl ?_)
  refine Plan.call (B := 0) (R := fun _ => takeResI l p) rfl rfl rfl (ref_Take l p hp hl) Try.func79 rfl rfl (fun _ _ => Nat.zero_le _) (Opnds.cons rfl (Sub.refl _) (Opnds.cons rfl (Sub.refl _) Opnds.nil)) ?_
  repeat (first | refine Plan.move rfl rfl rfl rfl ?_ | refine Plan.assign rfl rfl rfl rfl ?_ | refine Plan.extract rfl rfl rfl rfl rfl ?_)
  refine J.seq (J.seq (J.region mixed hI (by kernel_rfl) ?_))
  repeat (first | refine Plan.move rfl rfl rfl rfl ?_ | refine Plan.ints rfl rfl rfl rfl rfl rfl ?_)
  refine J.cond rfl (fun he => ?_) (fun he => ?_)
  · have he' : (vTake l p).2.2 ≠ 0 := by intro e; rw [e] at he; simp at he
    have hv : vText l p most = ([], 0, (vTake l p).2.2) := by unfold vText; rw [if_neg h0, if_pos he']
    refine J.seq (J.region mixed hI (by kernel_rfl) ?_)
    repeat (first | refine Plan.move rfl rfl rfl rfl ?_ | refine Plan.assign rfl rfl rfl rfl ?_)
    exact J.ret (Nrm.ret3 rfl (fun _ h => h) fun B _ => ⟨_, rfl, Ress.cons rfl (Sub.of_eq (by rw [hv]; rfl)) (Ress.cons rfl (Sub.of_eq (by rw [hv]; rfl)) (Ress.cons rfl (Sub.of_eq (by rw [hv])) Ress.nil))⟩)
  have he' : (vTake l p).2.2 = 0 := by
    by_cases hz : (vTake l p).2.2 = 0
    · exact hz
    · exact absurd he (by simp; omega)
  refine J.skip ?_
  refine J.seq (J.seq (J.region mixed hI (by kernel_rfl) ?_))
  repeat (refine Plan.move rfl rfl rfl rfl ?_)
  refine Plan.convInt rfl rfl rfl rfl Try.underlying3 Try.underlying122 ?_
  refine Plan.int (y := most) (by rw [IntKind.wrap_u64]; omega) ?_
  repeat (refine Plan.ints rfl rfl rfl rfl rfl rfl ?_)
  refine J.cond rfl (fun h4 => ?_) (fun h4 => ?_)
  · have h4' : most < (vTake l p).1 := of_decide_eq_true h4
    have hv : vText l p most = ([], 0, 4) := by unfold vText; rw [if_neg h0, if_neg (by omega), if_pos h4']
    refine J.seq (J.region mixed hI (by kernel_rfl) ?_)
    repeat (refine Plan.assign rfl rfl rfl rfl ?_)
    exact J.ret (Nrm.ret3 rfl (fun _ h => h) fun B _ => ⟨_, rfl, Ress.cons rfl (Sub.of_eq (by rw [hv]; rfl)) (Ress.cons rfl (Sub.of_eq (by rw [hv]; rfl)) (Ress.cons rfl (Sub.of_eq (by rw [hv]; rfl)) Ress.nil))⟩)
  have h4' : ¬ most < (vTake l p).1 := of_decide_eq_false h4
  refine J.skip ?_
  refine J.seq (J.seq (J.region mixed hI (by kernel_rfl) ?_))
  refine Plan.move rfl rfl rfl rfl ?_
  refine Plan.lenStr rfl rfl rfl rfl Try.underlying9 ?_
  refine Plan.move rfl rfl rfl rfl ?_
  refine Plan.ints rfl rfl rfl rfl rfl rfl ?_
  refine Plan.int (y := ((l.length - (vTake l p).2.1 : Nat) : Int)) (by rw [i64r (by omega)]; omega) ?_
  refine Plan.convInt rfl rfl rfl rfl Try.underlying3 Try.underlying122 ?_
  refine Plan.int (u64n (by omega)) ?_
  repeat (first | refine Plan.move rfl rfl rfl rfl ?_ | refine Plan.ints rfl rfl rfl rfl rfl rfl ?_)
  refine J.cond rfl (fun h5 => ?_) (fun h5 => ?_)
  · have h5' : l.length - (vTake l p).2.1 < (vTake l p).1 := by
      have : ((l.length - (vTake l p).2.1 : Nat) : Int) < (vTake l p).1 := of_decide_eq_true h5
      omega
    have hv : vText l p most = ([], 0, 2) := by unfold vText; rw [if_neg h0, if_neg (by omega), if_neg h4', if_pos h5']
    refine J.seq (J.region mixed hI (by kernel_rfl) ?_)
    repeat (refine Plan.assign rfl rfl rfl rfl ?_)
    exact J.ret (Nrm.ret3 rfl (fun _ h => h) fun B _ => ⟨_, rfl, Ress.cons rfl (Sub.of_eq (by rw [hv]; rfl)) (Ress.cons rfl (Sub.of_eq (by rw [hv]; rfl)) (Ress.cons rfl (Sub.of_eq (by rw [hv]; rfl)) Ress.nil))⟩)
  have h5' : ¬ l.length - (vTake l p).2.1 < (vTake l p).1 := by
    have : ¬ ((l.length - (vTake l p).2.1 : Nat) : Int) < (vTake l p).1 := of_decide_eq_false h5
    omega
  refine J.skip ?_
  have hv : vText l p most = ((l.drop (vTake l p).2.1).take (vTake l p).1, (vTake l p).2.1 + (vTake l p).1, 0) := by unfold vText; rw [if_neg h0, if_neg (by omega), if_neg h4', if_neg h5']
  refine J.seq (J.region mixed hI (by kernel_rfl) ?_)
  repeat (refine Plan.move rfl rfl rfl rfl ?_)
  refine Plan.convInt rfl rfl rfl rfl Try.underlying122 Try.underlying3 ?_
  refine Plan.int (i64r (by omega)) ?_
  refine Plan.ints rfl rfl rfl rfl rfl rfl ?_
  refine Plan.int (y := (((vTake l p).2.1 + (vTake l p).1 : Nat) : Int)) (by rw [i64r (by omega)]; omega) ?_
  refine Plan.sliceStr (a0 := (vTake l p).2.1) (b0 := (vTake l p).2.1 + (vTake l p).1) rfl rfl rfl rfl Try.underlying9 (.inr ⟨_, _, rfl, rfl⟩) (.inr ⟨_, _, rfl, rfl⟩) (by omega) (by omega) ?_
  repeat (refine Plan.move rfl rfl rfl rfl ?_)
  refine Plan.convInt rfl rfl rfl rfl Try.underlying122 Try.underlying3 ?_
  refine Plan.int (i64r (by omega)) ?_
  refine Plan.ints rfl rfl rfl rfl rfl rfl ?_
  refine Plan.int (y := (((vTake l p).2.1 + (vTake l p).1 : Nat) : Int)) (by rw [i64r (by omega)]; omega) ?_
  repeat (refine Plan.assign rfl rfl rfl rfl ?_)
  exact J.ret (Nrm.ret3 rfl (fun _ h => h) fun B _ => ⟨_, rfl, Ress.cons rfl (Sub.of_eq (by rw [hv, List.drop_take, Nat.add_sub_cancel_left])) (Ress.cons rfl (Sub.of_eq (by rw [hv])) (Ress.cons rfl (Sub.of_eq (by rw [hv]; rfl)) Ress.nil))⟩)

theorem num300 : num 300 = [130, 44] := by
  unfold num
  rw [numHi_pos (by decide), show 300 / 128 / 128 = 0 from rfl, numHi_zero]
  rfl

end Go.Proofs.Ytepgphflnelpoaa
end

section
set_option linter.unusedSimpArgs false
set_option linter.unusedVariables false
set_option maxRecDepth 20000
namespace Go.Proofs.Ytepgphflnelpoaa
open Go.Free Go.RowKit Go.Proofs
set_option maxHeartbeats 4000000

abbrev RS := Nat × Nat
def rNum (l : List UInt8) (s : RS) : Int × RS :=
  if s.2 ≠ 0 then (0, s)
  else if (vTake l s.1).2.2 ≠ 0 then (0, (s.1, (vTake l s.1).2.2))
  else if 4611686018427387904 < (vTake l s.1).1 then (0, (s.1, 3))
  else ((vTake l s.1).1, ((vTake l s.1).2.1, 0))
def rText (l : List UInt8) (s : RS) : List UInt8 × RS := if s.2 ≠ 0 then ([], s) else ((vText l s.1 64).1, ((vText l s.1 64).2.1, (vText l s.1 64).2.2))
def rSig (l : List UInt8) (s : RS) : Int × RS := if s.2 ≠ 0 then (0, s) else (zag (vTake l s.1).1, ((vTake l s.1).2.1, (vTake l s.1).2.2))
def nS (l : List UInt8) : Nat → RS
  | 0 => (0, 0)
  | k + 1 => (rNum l (nS l k)).2
def nV (l : List UInt8) (k : Nat) : Int := (rNum l (nS l k)).1
def kindS (k : Int) (s : RS) : RS := if s.2 = 0 ∧ ¬ kindP k then (s.1, 3) else s
def oK (l : List UInt8) (s : RS) : Int := (rNum l s).1
def oS1 (l : List UInt8) (s : RS) : RS := kindS (oK l s) (rNum l s).2
def oKey (l : List UInt8) (s : RS) : List UInt8 × RS := rText l (oS1 l s)
def oField (l : List UInt8) (s : RS) : List UInt8 × RS := if fieldP (oK l s) then rText l (oKey l s).2 else ([], (oKey l s).2)
def oValue (l : List UInt8) (s : RS) : List UInt8 × RS := if valueP (oK l s) then rText l (oField l s).2 else ([], (oField l s).2)
def oNum (l : List UInt8) (s : RS) : Int × RS := if numP (oK l s) then rSig l (oValue l s).2 else (0, (oValue l s).2)
def oRR (l : List UInt8) (s : RS) : Int × RS := if refP (oK l s) then rNum l (oNum l s).2 else (0, (oNum l s).2)
def oRN (l : List UInt8) (s : RS) : Int × RS := if refP (oK l s) then rNum l (oRR l s).2 else (0, (oRR l s).2)
def decW (l : List UInt8) (s : RS) : EvV := ⟨nV l 0, nV l 1, nV l 2, fun i => nV l (3 + i), oK l s, (oKey l s).1, (oField l s).1, (oValue l s).1, (oNum l s).1, (oRR l s).1, (oRN l s).1⟩
def decV (l : List UInt8) : EvV := decW l (nS l 19)
def decS (l : List UInt8) : RS := (oRN l (nS l 19)).2
def decE (l : List UInt8) : Nat := if (decS l).2 ≠ 0 then (decS l).2 else if (decS l).1 ≠ l.length ∨ ¬ rightP (decV l) then 3 else 0
def decR (l : List UInt8) : EvV := if decE l ≠ 0 then ev0 else decV l

/-! ### Bounds -/
def okS (l : List UInt8) (s : RS) : Prop := s.1 ≤ l.length ∧ s.2 ≤ 4
theorem rNum_ok {l : List UInt8} {s : RS} (h : okS l s) : okS l (rNum l s).2 ∧ 0 ≤ (rNum l s).1 ∧ (rNum l s).1 ≤ 4611686018427387904 := by
  obtain ⟨h1, h2⟩ := h
  have hb := vTake_bd l s.1
  unfold rNum
  split
  · exact ⟨⟨h1, h2⟩, by simp, by simp⟩
  · split
    · exact ⟨⟨h1, hb.2.2.1⟩, by simp, by simp⟩
    · split
      · exact ⟨⟨h1, by simp⟩, by simp, by simp⟩
      · refine ⟨⟨hb.2.1, by simp⟩, ?_, ?_⟩ <;> simp only <;> omega
theorem vText_bd (l : List UInt8) (p : Int) : (vText l p 64).1.length ≤ 64 ∧ (vText l p 64).2.1 ≤ l.length ∧ (vText l p 64).2.2 ≤ 4 := by
  have hb := vTake_bd l p
  unfold vText
  rw [if_neg (by decide)]
  split
  · exact ⟨by simp, by simp, hb.2.2.1⟩
  · split
    · simp
    · split
      · simp
      · refine ⟨?_, ?_, by simp⟩
        · simp only [List.length_take, List.length_drop]; omega
        · simp only; omega
theorem rText_ok {l : List UInt8} {s : RS} (h : okS l s) : okS l (rText l s).2 ∧ (rText l s).1.length ≤ 64 := by
  have hb := vText_bd l s.1
  unfold rText
  split
  · exact ⟨h, by simp⟩
  · exact ⟨⟨hb.2.1, hb.2.2⟩, hb.1⟩
theorem zag_in {u : Nat} (h : u < 2 ^ 64) : in64 (zag u) := by unfold zag in64; split <;> omega
theorem rSig_ok {l : List UInt8} {s : RS} (h : okS l s) : okS l (rSig l s).2 ∧ in64 (rSig l s).1 := by
  have hb := vTake_bd l s.1
  unfold rSig
  split
  · exact ⟨h, by simp [in64]⟩
  · exact ⟨⟨hb.2.1, hb.2.2.1⟩, zag_in hb.1⟩
theorem nS_ok (l : List UInt8) : ∀ k, okS l (nS l k)
  | 0 => by simp [nS, okS]
  | k + 1 => (rNum_ok (nS_ok l k)).1
theorem kindS_ok {l : List UInt8} {s : RS} (k : Int) (h : okS l s) : okS l (kindS k s) := by
  unfold kindS; split
  · exact ⟨h.1, by simp⟩
  · exact h
section
variable {l : List UInt8} {s : RS} (h : okS l s)
include h
theorem oS1_ok : okS l (oS1 l s) := kindS_ok _ (rNum_ok h).1
theorem oKey_ok : okS l (oKey l s).2 ∧ (oKey l s).1.length ≤ 64 := rText_ok (oS1_ok h)
theorem oField_ok : okS l (oField l s).2 ∧ (oField l s).1.length ≤ 64 := by
  unfold oField; split
  · exact rText_ok (oKey_ok h).1
  · exact ⟨(oKey_ok h).1, by simp⟩
theorem oValue_ok : okS l (oValue l s).2 ∧ (oValue l s).1.length ≤ 64 := by
  unfold oValue; split
  · exact rText_ok (oField_ok h).1
  · exact ⟨(oField_ok h).1, by simp⟩
theorem oNum_ok : okS l (oNum l s).2 ∧ in64 (oNum l s).1 := by
  unfold oNum; split
  · exact rSig_ok (oValue_ok h).1
  · exact ⟨(oValue_ok h).1, by simp [in64]⟩
theorem oRR_ok : okS l (oRR l s).2 ∧ in64 (oRR l s).1 := by
  unfold oRR; split
  · have k := rNum_ok (oNum_ok h).1
    exact ⟨k.1, by unfold in64; omega⟩
  · exact ⟨(oNum_ok h).1, by simp [in64]⟩
theorem oRN_ok : okS l (oRN l s).2 ∧ in64 (oRN l s).1 := by
  unfold oRN; split
  · have k := rNum_ok (oRR_ok h).1
    exact ⟨k.1, by unfold in64; omega⟩
  · exact ⟨(oRR_ok h).1, by simp [in64]⟩
end
theorem nV_in (l : List UInt8) (k : Nat) : in64 (nV l k) := by
  have h := (rNum_ok (nS_ok l k)).2
  show in64 (rNum l (nS l k)).1
  unfold in64; omega
theorem decW_ok {l : List UInt8} {s : RS} (h : okS l s) : (decW l s).okV := by
  have hk := (rNum_ok h).2
  have h1 := (oKey_ok h).2
  have h2 := (oField_ok h).2
  have h3 := (oValue_ok h).2
  exact ⟨nV_in l 0, nV_in l 1, nV_in l 2, fun i _ => nV_in l (3 + i), show in64 (rNum l s).1 by unfold in64; omega, show (oKey l s).1.length ≤ 9223372036854775807 by omega, show (oField l s).1.length ≤ 9223372036854775807 by omega, show (oValue l s).1.length ≤ 9223372036854775807 by omega, (oNum_ok h).2, (oRR_ok h).2, (oRN_ok h).2⟩
theorem decV_ok (l : List UInt8) : (decV l).okV := decW_ok (nS_ok l 19)
theorem ev0_ok : ev0.okV := by refine ⟨?_, ?_, ?_, fun i _ => ?_, ?_, ?_, ?_, ?_, ?_, ?_, ?_⟩ <;> simp [ev0, in64]
theorem decR_ok (l : List UInt8) : (decR l).okV := by unfold decR; split; exact ev0_ok; exact decV_ok l

/-! ### What is read is what stands there -/
theorem vTake_mid (a r : List UInt8) {u : Nat} (hu : u < 2 ^ 64) : vTake (a ++ num u ++ r) (a.length : Nat) = (u, a.length + (num u).length, 0) := by
  unfold vTake
  rw [if_neg (by simp; omega), Int.toNat_natCast, List.append_assoc, List.drop_left, takeL_num _ hu]
  rfl
theorem vTake_one (b : List UInt8) (p : Int) (h : (vTake b p).2.2 = 0) : num (vTake b p).1 = (b.take (vTake b p).2.1).drop p.toNat := by
  unfold vTake at h ⊢
  split at h
  · simp at h
  · rename_i g
    rw [if_neg g]
    split at h
    · rename_i g2
      rw [if_pos g2]
      have h1 := takeL_one (b.drop p.toNat) 0 0 (by rw [numHi_zero]; rfl) (by decide) g2
      rw [numHi_zero, List.nil_append, Nat.sub_zero] at h1
      show num (takeL 0 0 (b.drop p.toNat)).1 = _
      rw [← h1, List.drop_take, Nat.add_sub_cancel_left]
    · rename_i g2
      exact absurd h g2
/-- Ahead of what is read stands a, and it is well. -/
def At (l a : List UInt8) (s : RS) : Prop := s = (a.length, 0) ∧ ∃ r, l = a ++ r
theorem rNum_mid {l a r : List UInt8} {x : Int} (h0 : 0 ≤ x) (h1 : x ≤ 4611686018427387904) (h : l = a ++ numI x ++ r) : rNum l (a.length, 0) = (x, ((a ++ numI x).length, 0)) := by
  have k := vTake_mid a r (u := x.toNat) (by omega)
  unfold numI at h ⊢
  unfold rNum
  rw [h, k]
  simp only [ne_eq, not_true, if_false]
  rw [if_neg (by omega), List.length_append, Int.toNat_of_nonneg h0]
theorem rText_mid {l a r t : List UInt8} (ht : t.length ≤ 64) (h : l = a ++ txt t ++ r) : rText l (a.length, 0) = (t, ((a ++ txt t).length, 0)) := by
  have k := vTake_mid a (t ++ r) (u := t.length) (by omega)
  rw [List.append_assoc, ← List.append_assoc (num t.length), ← List.append_assoc] at k
  have kv : vText l a.length 64 = (t, (a ++ txt t).length, 0) := by
    unfold vText
    rw [h]
    show (if (64 : Int) < 0 then _ else _) = _
    unfold txt
    rw [if_neg (by decide), k]
    simp only [ne_eq, not_true, if_false, List.length_append]
    rw [if_neg (by omega), if_neg (by omega)]
    congr 1
    · rw [← List.append_assoc, List.append_assoc (a ++ num t.length), ← List.length_append, List.drop_left, List.take_left]
    · rw [Nat.add_assoc]
  unfold rText
  simp only [ne_eq, not_true, if_false, kv]
theorem rSig_mid {l a r : List UInt8} {x : Int} (hx : in64 x) (h : l = a ++ num (zig x) ++ r) : rSig l (a.length, 0) = (x, ((a ++ num (zig x)).length, 0)) := by
  have k := vTake_mid a r (u := zig x) (zig_lt hx)
  unfold rSig
  rw [h, k]
  simp only [ne_eq, not_true, if_false, zag_zig, List.length_append]

theorem nums_mid {l : List UInt8} {ns : List Int} (hs : ∀ x ∈ ns, 0 ≤ x ∧ x ≤ 4611686018427387904) {r : List UInt8} (h : l = nums ns ++ r) : ∀ k, k ≤ ns.length → nS l k = ((nums (ns.take k)).length, 0)
  | 0, _ => by simp [nS, nums]
  | k + 1, hk => by
    have ih := nums_mid hs h k (by omega)
    have hm := hs _ (List.getElem_mem (show k < ns.length by omega))
    have e : nums ns = nums (ns.take k) ++ numI ns[k] ++ nums (ns.drop (k + 1)) := by
      have := nums_snoc (l := ns) (i := k) (by omega)
      rw [List.getD_eq_getElem?_getD, List.getElem?_eq_getElem (by omega), Option.getD_some] at this
      rw [← this]
      simp only [nums]
      rw [← List.flatMap_append, List.take_append_drop]
    show (rNum l (nS l k)).2 = _
    rw [ih, rNum_mid hm.1 hm.2 (r := nums (ns.drop (k + 1)) ++ r) (by rw [h, e]; simp)]
    have := nums_snoc (l := ns) (i := k) (by omega)
    rw [List.getD_eq_getElem?_getD, List.getElem?_eq_getElem (by omega), Option.getD_some] at this
    rw [this]
theorem nums_val {l : List UInt8} {ns : List Int} (hs : ∀ x ∈ ns, 0 ≤ x ∧ x ≤ 4611686018427387904) {r : List UInt8} (h : l = nums ns ++ r) {k : Nat} (hk : k < ns.length) : nV l k = ns.getD k 0 := by
  have ih := nums_mid hs h k (by omega)
  have hm := hs _ (List.getElem_mem hk)
  have sn := nums_snoc (l := ns) (i := k) hk
  have e : nums ns = nums (ns.take k) ++ numI (ns.getD k 0) ++ nums (ns.drop (k + 1)) := by
    rw [← sn]
    simp only [nums]
    rw [← List.flatMap_append, List.take_append_drop]
  rw [List.getD_eq_getElem?_getD, List.getElem?_eq_getElem hk, Option.getD_some] at e ⊢
  show (rNum l (nS l k)).1 = _
  rw [ih, rNum_mid hm.1 hm.2 (r := nums (ns.drop (k + 1)) ++ r) (by rw [h, e]; simp)]
end Go.Proofs.Ytepgphflnelpoaa
end

section
set_option linter.unusedSimpArgs false
set_option linter.unusedVariables false
set_option maxRecDepth 20000
namespace Go.Proofs.Ytepgphflnelpoaa
open Go.Free Go.RowKit Go.Proofs
set_option maxHeartbeats 4000000

theorem encNs_le {e : EvV} (h : rightP e) : ∀ x ∈ encNs e, 0 ≤ x ∧ x ≤ 4611686018427387904 := by
  obtain ⟨⟨h1, h2, h3, h4⟩, h5, h6, h7, -⟩ := h
  intro x hx
  simp only [encNs, List.mem_cons, List.not_mem_nil, or_false] at hx
  have hd : ∀ i, i < 16 → 0 ≤ e.d i ∧ e.d i ≤ 4611686018427387904 := fun i hi => by have := h7 i hi; omega
  rcases hx with rfl | rfl | rfl | rfl | rfl | rfl | rfl | rfl | rfl | rfl | rfl | rfl | rfl | rfl | rfl | rfl | rfl | rfl | rfl
  · omega
  · omega
  · omega
  all_goals exact hd _ (by decide)
theorem ref_le {e : EvV} (h : rightP e) : (0 ≤ e.rr ∧ e.rr ≤ 4611686018427387904) ∧ 0 ≤ e.rn ∧ e.rn ≤ 4611686018427387904 := by
  obtain ⟨-, -, -, -, -, -, h⟩ := h
  rcases h with ⟨⟨h1, h2, h3, h4⟩, _⟩ | ⟨_, h1, h2⟩
  · omega
  · omega
theorem cut4 {e : EvV} {l r : List UInt8} (h : l = encB e ++ r) : ∃ r', l = encB4 e ++ r' := by
  unfold encB at h; split at h
  · exact ⟨_, by rw [h, List.append_assoc, List.append_assoc]⟩
  · exact ⟨_, h⟩
theorem cut3 {e : EvV} {l r : List UInt8} (h : l = encB4 e ++ r) : ∃ r', l = encB3 e ++ r' := by
  unfold encB4 at h; split at h
  · exact ⟨_, by rw [h, List.append_assoc]⟩
  · exact ⟨_, h⟩
theorem cut2 {e : EvV} {l r : List UInt8} (h : l = encB3 e ++ r) : ∃ r', l = encB2 e ++ r' := by
  unfold encB3 at h; split at h
  · exact ⟨_, by rw [h, List.append_assoc]⟩
  · exact ⟨_, h⟩
theorem cut1 {e : EvV} {l r : List UInt8} (h : l = encB2 e ++ r) : ∃ r', l = encB1 e ++ r' := by
  unfold encB2 at h; split at h
  · exact ⟨_, by rw [h, List.append_assoc]⟩
  · exact ⟨_, h⟩
theorem cut0 {e : EvV} {l r : List UInt8} (h : l = encB1 e ++ r) : ∃ r', l = nums (encNs e) ++ numI e.kind ++ r' := ⟨_, by rw [h, encB1, List.append_assoc]⟩

theorem dec_mid {e : EvV} (hr : rightP e) {l r : List UInt8} (h : l = encB e ++ r) : (decV l).enc = e.enc ∧ decS l = ((encB e).length, 0) := by
  have hs := encNs_le hr
  have hok := enc_okE hr
  obtain ⟨r4, h4⟩ := cut4 h
  obtain ⟨r3, h3⟩ := cut3 h4
  obtain ⟨r2, h2⟩ := cut2 h3
  obtain ⟨r1, h1⟩ := cut1 h2
  obtain ⟨r0, h0⟩ := cut0 h1
  have hN : l = nums (encNs e) ++ (numI e.kind ++ r0) := by rw [h0, List.append_assoc]
  have s19 : nS l 19 = ((nums (encNs e)).length, 0) := by
    have := nums_mid hs hN 19 (Nat.le_of_eq rfl)
    rw [this, List.take_of_length_le (show (encNs e).length ≤ 19 from Nat.le_refl 19)]
  have hv : ∀ k, k < 19 → nV l k = (encNs e).getD k 0 := fun k hk => nums_val hs hN hk
  have lk := hok.kind
  have hk := rNum_mid (a := nums (encNs e)) (x := e.kind) (by omega) (by omega) h0
  have eK : oK l (nS l 19) = e.kind := by show (rNum l (nS l 19)).1 = _; rw [s19, hk]
  have e1 : oS1 l (nS l 19) = ((nums (encNs e) ++ numI e.kind).length, 0) := by
    unfold oS1; rw [eK, s19, hk]; unfold kindS
    rw [if_neg (fun hh => hh.2 hok.kind)]
  have eKey : oKey l (nS l 19) = (e.key, ((encB1 e).length, 0)) := by
    unfold oKey; rw [e1, rText_mid (a := nums (encNs e) ++ numI e.kind) (t := e.key) (r := r1) hok.key h1]; rfl
  have eField : oField l (nS l 19) = (e.field, ((encB2 e).length, 0)) := by
    unfold oField; rw [eK, eKey]; unfold encB2 at h2 ⊢
    split at h2
    · rename_i g
      rw [if_pos g, if_pos g]
      exact rText_mid hok.field h2
    · rename_i g
      rw [if_neg g, if_neg g]
      have : e.field = [] := by
        obtain ⟨-, -, -, -, -, ⟨-, -, -, -, -, -, -, hc, -⟩, -⟩ := hr
        exact hc.resolve_left g
      rw [this]
  have eValue : oValue l (nS l 19) = (e.value, ((encB3 e).length, 0)) := by
    unfold oValue; rw [eK, eField]; unfold encB3 at h3 ⊢
    split at h3
    · rename_i g
      rw [if_pos g, if_pos g]
      exact rText_mid hok.value h3
    · rename_i g
      rw [if_neg g, if_neg g]
      have : e.value = [] := by
        obtain ⟨-, -, -, -, -, ⟨-, -, -, -, -, -, -, -, hc, -⟩, -⟩ := hr
        exact hc.resolve_left g
      rw [this]
  have eNum : oNum l (nS l 19) = (e.num, ((encB4 e).length, 0)) := by
    unfold oNum; rw [eK, eValue]; unfold encB4 at h4 ⊢
    split at h4
    · rename_i g
      rw [if_pos g, if_pos g]
      exact rSig_mid hok.num h4
    · rename_i g
      rw [if_neg g, if_neg g]
      have : e.num = 0 := by
        obtain ⟨-, -, -, -, -, ⟨-, -, -, -, -, -, -, -, -, hc, -⟩, -⟩ := hr
        exact hc.resolve_left g
      rw [this]
  have hlr := ref_le hr
  have eRR : oRR l (nS l 19) = (e.rr, ((if refP e.kind then encB4 e ++ numI e.rr else encB4 e).length, 0)) := by
    unfold oRR; rw [eK, eNum]; unfold encB at h
    split at h
    · rename_i g
      rw [if_pos g, if_pos g]
      exact rNum_mid hlr.1.1 hlr.1.2 (r := numI e.rn ++ r) (by rw [h, List.append_assoc])
    · rename_i g
      rw [if_neg g, if_neg g]
      have : e.rr = 0 := by
        obtain ⟨-, -, -, -, -, ⟨-, -, -, -, -, -, -, -, -, -, hc⟩, -⟩ := hr
        exact (hc.resolve_left g).1
      rw [this]
  have eRN : oRN l (nS l 19) = (e.rn, ((encB e).length, 0)) := by
    unfold oRN; rw [eK, eRR]; unfold encB at h ⊢
    split at h
    · rename_i g
      rw [if_pos g, if_pos g, if_pos g]
      exact rNum_mid hlr.2.1 hlr.2.2 h
    · rename_i g
      rw [if_neg g, if_neg g, if_neg g]
      have : e.rn = 0 := by
        obtain ⟨-, -, -, -, -, ⟨-, -, -, -, -, -, -, -, -, -, hc⟩, -⟩ := hr
        exact (hc.resolve_left g).2
      rw [this]
  refine ⟨?_, by unfold decS; rw [eRN]⟩
  unfold decV decW EvV.enc
  simp only [eK, eKey, eField, eValue, eNum, eRR, eRN, hv _ (show 0 < 19 by decide), hv _ (show 1 < 19 by decide), hv _ (show 2 < 19 by decide)]
  simp only [hv (3 + 0) (by decide), hv (3 + 1) (by decide), hv (3 + 2) (by decide), hv (3 + 3) (by decide), hv (3 + 4) (by decide), hv (3 + 5) (by decide), hv (3 + 6) (by decide), hv (3 + 7) (by decide), hv (3 + 8) (by decide), hv (3 + 9) (by decide), hv (3 + 10) (by decide), hv (3 + 11) (by decide), hv (3 + 12) (by decide), hv (3 + 13) (by decide), hv (3 + 14) (by decide), hv (3 + 15) (by decide)]
  rfl

/-! ### One -/
theorem zig_zag {u : Nat} : zig (zag u) = u := by unfold zag zig; split <;> split <;> omega
theorem take_more {l : List UInt8} {p q : Nat} (h : p ≤ q) : l.take q = l.take p ++ (l.take q).drop p := by
  have := List.take_append_drop p (l.take q)
  rw [List.take_take, Nat.min_eq_left h] at this
  exact this.symm
theorem rNum_one {l : List UInt8} {s : RS} (h : (rNum l s).2.2 = 0) : s.2 = 0 ∧ l.take (rNum l s).2.1 = l.take s.1 ++ numI (rNum l s).1 := by
  unfold rNum at h ⊢
  split at h
  · exact absurd h (by assumption)
  · rename_i g
    rw [if_neg g]
    split at h
    · exact absurd h (by assumption)
    · rename_i g1
      rw [if_neg g1]
      split at h
      · exact absurd h (by simp)
      · rename_i g2
        rw [if_neg g2]
        have g1' : (vTake l s.1).2.2 = 0 := by simpa using g1
        have k := vTake_one l s.1 g1'
        have hb := (vTake_bd l s.1).2.2.2.1 g1'
        rw [Int.toNat_natCast] at k
        refine ⟨by simpa using g, ?_⟩
        show l.take (vTake l s.1).2.1 = l.take s.1 ++ num ((vTake l s.1).1 : Int).toNat
        rw [Int.toNat_natCast, k]
        exact take_more (by omega)
theorem rSig_one {l : List UInt8} {s : RS} (h : (rSig l s).2.2 = 0) : s.2 = 0 ∧ l.take (rSig l s).2.1 = l.take s.1 ++ num (zig (rSig l s).1) := by
  unfold rSig at h ⊢
  split at h
  · exact absurd h (by assumption)
  · rename_i g
    rw [if_neg g]
    have g1' : (vTake l s.1).2.2 = 0 := h
    have k := vTake_one l s.1 g1'
    have hb := (vTake_bd l s.1).2.2.2.1 g1'
    rw [Int.toNat_natCast] at k
    refine ⟨by simpa using g, ?_⟩
    show l.take (vTake l s.1).2.1 = l.take s.1 ++ num (zig (zag (vTake l s.1).1))
    rw [zig_zag, k]
    exact take_more (by omega)
theorem rText_one {l : List UInt8} {s : RS} (h : (rText l s).2.2 = 0) : s.2 = 0 ∧ l.take (rText l s).2.1 = l.take s.1 ++ txt (rText l s).1 := by
  unfold rText at h ⊢
  split at h
  · exact absurd h (by assumption)
  · rename_i g
    rw [if_neg g]
    refine ⟨by simpa using g, ?_⟩
    have h' : (vText l s.1 64).2.2 = 0 := h
    show l.take (vText l s.1 64).2.1 = l.take s.1 ++ txt (vText l s.1 64).1
    unfold vText at h' ⊢
    rw [if_neg (by decide)] at h' ⊢
    split at h'
    · exact absurd h' (by assumption)
    · rename_i g1
      rw [if_neg g1]
      split at h'
      · exact absurd h' (by simp)
      · rename_i g2
        rw [if_neg g2]
        split at h'
        · exact absurd h' (by simp)
        · rename_i g3
          rw [if_neg g3]
          have g1' : (vTake l s.1).2.2 = 0 := by simpa using g1
          have k := vTake_one l s.1 g1'
          have hb := (vTake_bd l s.1).2.2.2.1 g1'
          rw [Int.toNat_natCast] at k
          have hlen : ((l.drop (vTake l s.1).2.1).take (vTake l s.1).1).length = (vTake l s.1).1 := by
            rw [List.length_take, List.length_drop]; omega
          show l.take ((vTake l s.1).2.1 + (vTake l s.1).1) = l.take s.1 ++ (num ((l.drop (vTake l s.1).2.1).take (vTake l s.1).1).length ++ (l.drop (vTake l s.1).2.1).take (vTake l s.1).1)
          rw [hlen, k, List.take_add, ← List.append_assoc, ← take_more (by omega)]
theorem nums_one {l : List UInt8} : ∀ {k : Nat}, (nS l k).2 = 0 → l.take (nS l k).1 = nums ((List.range k).map (nV l))
  | 0, _ => by simp [nS, nums]
  | k + 1, h => by
    have h1 := rNum_one (l := l) (s := nS l k) h
    have ih := nums_one h1.1
    show l.take (rNum l (nS l k)).2.1 = _
    rw [h1.2, ih, List.range_succ, List.map_append]
    simp only [nums, List.flatMap_append, List.map_cons, List.map_nil, List.flatMap_cons, List.flatMap_nil, List.append_nil]
    rfl
theorem range19 (f : Nat → Int) : (List.range 19).map f = [f 0, f 1, f 2, f (3 + 0), f (3 + 1), f (3 + 2), f (3 + 3), f (3 + 4), f (3 + 5), f (3 + 6), f (3 + 7), f (3 + 8), f (3 + 9), f (3 + 10), f (3 + 11), f (3 + 12), f (3 + 13), f (3 + 14), f (3 + 15)] := rfl
theorem dec_oneW {l : List UInt8} {s : RS} (gN' : s.2 = 0 → l.take s.1 = nums ((List.range 19).map (nV l))) (h : (oRN l s).2.2 = 0) : l.take (oRN l s).2.1 = encB (decW l s) := by
  have g6 : (oRR l s).2.2 = 0 ∧ l.take (oRN l s).2.1 = l.take (oRR l s).2.1 ++ (if refP (oK l s) then numI (oRN l s).1 else []) := by
    unfold oRN at h ⊢
    split at h
    · rename_i g; rw [if_pos g, if_pos g]; exact rNum_one h
    · rename_i g; rw [if_neg g, if_neg g]; exact ⟨h, by simp⟩
  have g5 : (oNum l s).2.2 = 0 ∧ l.take (oRR l s).2.1 = l.take (oNum l s).2.1 ++ (if refP (oK l s) then numI (oRR l s).1 else []) := by
    have h := g6.1
    unfold oRR at h ⊢
    split at h
    · rename_i g; rw [if_pos g, if_pos g]; exact rNum_one h
    · rename_i g; rw [if_neg g, if_neg g]; exact ⟨h, by simp⟩
  have g4 : (oValue l s).2.2 = 0 ∧ l.take (oNum l s).2.1 = l.take (oValue l s).2.1 ++ (if numP (oK l s) then num (zig (oNum l s).1) else []) := by
    have h := g5.1
    unfold oNum at h ⊢
    split at h
    · rename_i g; rw [if_pos g, if_pos g]; exact rSig_one h
    · rename_i g; rw [if_neg g, if_neg g]; exact ⟨h, by simp⟩
  have g3 : (oField l s).2.2 = 0 ∧ l.take (oValue l s).2.1 = l.take (oField l s).2.1 ++ (if valueP (oK l s) then txt (oValue l s).1 else []) := by
    have h := g4.1
    unfold oValue at h ⊢
    split at h
    · rename_i g; rw [if_pos g, if_pos g]; exact rText_one h
    · rename_i g; rw [if_neg g, if_neg g]; exact ⟨h, by simp⟩
  have g2 : (oKey l s).2.2 = 0 ∧ l.take (oField l s).2.1 = l.take (oKey l s).2.1 ++ (if fieldP (oK l s) then txt (oField l s).1 else []) := by
    have h := g3.1
    unfold oField at h ⊢
    split at h
    · rename_i g; rw [if_pos g, if_pos g]; exact rText_one h
    · rename_i g; rw [if_neg g, if_neg g]; exact ⟨h, by simp⟩
  have g1 := rText_one (l := l) (s := oS1 l s) g2.1
  have g0 : (rNum l s).2.2 = 0 ∧ (oS1 l s).1 = (rNum l s).2.1 := by
    have h := g1.1
    unfold oS1 kindS at h ⊢
    split at h
    · exact absurd h (by simp)
    · rename_i g; rw [if_neg g]; exact ⟨h, rfl⟩
  have gK := rNum_one g0.1
  have gN := gN' gK.1
  have eNs : encNs (decW l s) = (List.range 19).map (nV l) := by
    simp only [encNs, decW]
    exact (range19 (nV l)).symm
  have f1 : l.take (oKey l s).2.1 = encB1 (decW l s) := by
    unfold encB1
    rw [eNs, ← gN]
    show l.take (rText l (oS1 l s)).2.1 = l.take s.1 ++ numI (rNum l s).1 ++ txt (rText l (oS1 l s)).1
    rw [g1.2, g0.2, gK.2]
  have f2 : l.take (oField l s).2.1 = encB2 (decW l s) := by
    unfold encB2
    rw [← f1, g2.2]
    show _ = if fieldP (oK l s) then l.take (oKey l s).2.1 ++ txt (oField l s).1 else l.take (oKey l s).2.1
    split <;> simp
  have f3 : l.take (oValue l s).2.1 = encB3 (decW l s) := by
    unfold encB3
    rw [← f2, g3.2]
    show _ = if valueP (oK l s) then l.take (oField l s).2.1 ++ txt (oValue l s).1 else l.take (oField l s).2.1
    split <;> simp
  have f4 : l.take (oNum l s).2.1 = encB4 (decW l s) := by
    unfold encB4
    rw [← f3, g4.2]
    show _ = if numP (oK l s) then l.take (oValue l s).2.1 ++ num (zig (oNum l s).1) else l.take (oValue l s).2.1
    split <;> simp
  unfold encB
  rw [← f4]
  show l.take (oRN l s).2.1 = if refP (oK l s) then l.take (oNum l s).2.1 ++ numI (oRR l s).1 ++ numI (oRN l s).1 else l.take (oNum l s).2.1
  rw [g6.2, g5.2]
  split <;> simp

theorem dec_one {l : List UInt8} (h : (decS l).2 = 0) : l.take (decS l).1 = encB (decV l) := by
  unfold decS at h ⊢
  unfold decV
  exact dec_oneW (fun hz => nums_one hz) h
/-! ### The laws -/
theorem rightP_enc {e f : EvV} (h : e.enc = f.enc) : rightP e ↔ rightP f := by
  simp only [EvV.enc, List.cons.injEq, Value.int.injEq, true_and, and_true] at h
  obtain ⟨h1, h2, h3, d0, d1, d2, d3, d4, d5, d6, d7, d8, d9, d10, d11, d12, d13, d14, d15, h4, h5, h6, h7, h8, h9, h10⟩ := h
  have hst : ∀ {a b : List UInt8}, str a = str b → a = b := fun {a b} h => by
    simp only [str, Value.string.injEq, ByteArray.mk.injEq] at h
    simpa using congrArg Array.toList h
  have hd : ∀ i, i < 16 → e.d i = f.d i := by
    intro i hi
    match i, hi with
    | 0, _ => exact d0 | 1, _ => exact d1 | 2, _ => exact d2 | 3, _ => exact d3 | 4, _ => exact d4 | 5, _ => exact d5 | 6, _ => exact d6 | 7, _ => exact d7
    | 8, _ => exact d8 | 9, _ => exact d9 | 10, _ => exact d10 | 11, _ => exact d11 | 12, _ => exact d12 | 13, _ => exact d13 | 14, _ => exact d14 | 15, _ => exact d15
    | _ + 16, h => exact absurd h (by omega)
  have hh : ∀ r n : Int, hasP e.d r n ↔ hasP f.d r n := fun r n => by
    unfold hasP dotP
    constructor
    · rintro ⟨⟨a, b, c, d⟩, g⟩; exact ⟨⟨a, b, c, d⟩, by rw [← hd _ (by omega)]; exact g⟩
    · rintro ⟨⟨a, b, c, d⟩, g⟩; exact ⟨⟨a, b, c, d⟩, by rw [hd _ (by omega)]; exact g⟩
  have hv : rightVP e.d ↔ rightVP f.d := ⟨fun h i hi => by rw [← hd i hi]; exact h i hi, fun h i hi => by rw [hd i hi]; exact h i hi⟩
  unfold rightP canP
  rw [hh, hv, h1, h2, h3, h4, hst h5, hst h6, hst h7, h8, h9, h10]
  constructor
  · rintro ⟨a, b, c, d, g, r⟩; exact ⟨a, b, c, d, by rw [← hd _ (by unfold dotP at a; omega)]; exact g, r⟩
  · rintro ⟨a, b, c, d, g, r⟩; exact ⟨a, b, c, d, by rw [hd _ (by unfold dotP at a; omega)]; exact g, r⟩
theorem dec_back {e : EvV} (hr : rightP e) : decE (encB e) = 0 ∧ (decR (encB e)).enc = e.enc := by
  obtain ⟨h1, h2⟩ := dec_mid hr (l := encB e) (r := []) (by simp)
  have h3 : decE (encB e) = 0 := by
    unfold decE
    rw [h2, if_neg (by simp), if_neg (by
      rintro (h | h)
      · exact h rfl
      · exact h ((rightP_enc h1).2 hr))]
  exact ⟨h3, by unfold decR; rw [if_neg (by simpa using h3), h1]⟩
theorem dec_more {e : EvV} (hr : rightP e) (x : UInt8) : decE (encB e ++ [x]) = 3 := by
  obtain ⟨h1, h2⟩ := dec_mid hr (l := encB e ++ [x]) (r := [x]) rfl
  unfold decE
  rw [h2, if_neg (by simp), if_pos (.inl (by simp))]
theorem dec_right {l : List UInt8} (h : decE l = 0) : rightP (decV l) ∧ encB (decV l) = l ∧ decR l = decV l := by
  have h0 : (decS l).2 = 0 := by
    by_cases hz : (decS l).2 = 0
    · exact hz
    · unfold decE at h; rw [if_pos hz] at h; exact absurd h hz
  have h1 : ¬ ((decS l).1 ≠ l.length ∨ ¬ rightP (decV l)) := by
    intro hh
    unfold decE at h; rw [if_neg (by simpa using h0), if_pos hh] at h; cases h
  have h2 : (decS l).1 = l.length := by
    by_cases hz : (decS l).1 = l.length
    · exact hz
    · exact absurd (.inl hz) h1
  have h3 : rightP (decV l) := by
    by_cases hz : rightP (decV l)
    · exact hz
    · exact absurd (.inr hz) h1
  refine ⟨h3, ?_, by unfold decR; rw [if_neg (by simpa using h)]⟩
  rw [← dec_one h0, h2, List.take_length]
theorem dec_cut {e : EvV} (hr : rightP e) {k : Nat} (hk : k < (encB e).length) : decE ((encB e).take k) ≠ 0 := by
  intro h
  obtain ⟨h1, h2, _⟩ := dec_right h
  have e1 := dec_mid h1 (l := encB e) (r := (encB e).drop k) (by rw [h2, List.take_append_drop])
  have e2 := dec_mid hr (l := encB e) (r := []) (by simp)
  have e3 := congrArg Prod.fst (e1.2.symm.trans e2.2)
  rw [h2] at e3
  simp only [List.length_take] at e3
  omega
end Go.Proofs.Ytepgphflnelpoaa
end

section
set_option linter.unusedSimpArgs false
set_option linter.unusedVariables false
set_option maxRecDepth 20000
namespace Go.Proofs.Ytepgphflnelpoaa
open Go.Free Go.RowKit Go.Proofs
structure LogV where
  s : List UInt8
  b : Bool
  l : List EvV
def log0 : LogV := ⟨[], false, []⟩
def takeM (m : LogV) (b : List UInt8) (ini : Bool) : Option LogV :=
  match b with
  | [] => none
  | x :: r => if x = 1 ∧ ini = true then some ⟨r, true, m.l⟩ else if x = 0 ∧ decE r = 0 then some ⟨m.s, m.b, m.l ++ [decR r]⟩ else none
def takesM : List (List UInt8) → Bool → LogV → Nat → LogV × Nat
  | [], _, m, p => (m, p)
  | b :: r, ini, m, p => match takeM m b ini with
    | none => (m, p)
    | some m' => takesM r false m' (p + b.length + 6)
def openM (l : List UInt8) : LogV × Nat := takesM (scanL l 0).1 true log0 0
theorem takes_none {b : List UInt8} {r : List (List UInt8)} {f : Bool} {m : LogV} {p : Nat} (h : takeM m b f = none) : takesM (b :: r) f m p = (m, p) := by
  show (match takeM m b f with | none => _ | some m' => _) = _
  rw [h]
theorem takes_some {b : List UInt8} {r : List (List UInt8)} {f : Bool} {m m' : LogV} {p : Nat} (h : takeM m b f = some m') : takesM (b :: r) f m p = takesM r false m' (p + b.length + 6) := by
  show (match takeM m b f with | none => _ | some m' => _) = _
  rw [h]
/-- So many bodies are taken, and of these alone it is the same. -/
theorem takes_first : ∀ (bs : List (List UInt8)) (f : Bool) (m : LogV) (p : Nat), ∃ k, k ≤ bs.length ∧ (takesM bs f m p).2 = p + (frames (bs.take k)).length ∧ takesM (bs.take k) f m p = takesM bs f m p
  | [], f, m, p => ⟨0, Nat.le_refl _, by simp [takesM, frames], rfl⟩
  | b :: r, f, m, p => by
    cases h : takeM m b f with
    | none => exact ⟨0, Nat.zero_le _, by rw [takes_none h]; simp [frames], by rw [takes_none h]; rfl⟩
    | some m' =>
      obtain ⟨k, h1, h2, h3⟩ := takes_first r false m' (p + b.length + 6)
      refine ⟨k + 1, by simpa using h1, ?_, ?_⟩
      · rw [takes_some h, h2, List.take_succ_cons, frames_cons, List.length_append, fPut_length]; omega
      · rw [List.take_succ_cons, takes_some h, takes_some h, h3]
theorem fits_is {l : List UInt8} (h : fits l = true) : crcSeal (opened l) = l := by
  unfold fits at h
  unfold opened
  rw [seal_open] at h ⊢
  split
  · rename_i g
    exact g.2
  · rename_i g
    rw [if_neg g] at h; cases h
theorem hdr_hlen {l : List UInt8} (h : l.length = 2) : hdr (hlen l) = l := by
  match l, h with
  | [a, b], _ =>
    have h1 := a.toNat_lt
    have h2 := b.toNat_lt
    have e1 : (a.toNat * 256 + b.toNat) / 256 = a.toNat := by omega
    have e2 : (a.toNat * 256 + b.toNat) % 256 = b.toNat := by omega
    simp [hdr, hlen, e1, e2]
/-- What is taken is the frame of the body. -/
theorem take0_is {r : List UInt8} (h : (fTake0 r).2.2 = 0) : (fTake0 r).1.length ≤ 65529 ∧ (fTake0 r).2.1 = (fTake0 r).1.length + 6 ∧ ∃ t, r = fPut (fTake0 r).1 ++ t := by
  unfold fTake0 at h ⊢
  split at h
  · cases h
  split at h
  · cases h
  split at h
  · cases h
  split at h
  · cases h
  split at h
  · cases h
  rename_i g1 g2 g3 g4 g5
  rw [if_neg g1, if_neg g2, if_neg g3, if_neg g4, if_neg g5]
  have g2' : fits (r.take 4) = true := by cases hh : fits (r.take 4) with | true => rfl | false => exact absurd hh g2
  have g5' : fits ((r.take (hlen (opened (r.take 4)) + 6)).drop 4) = true := by cases hh : fits ((r.take (hlen (opened (r.take 4)) + 6)).drop 4) with | true => rfl | false => exact absurd hh g5
  generalize hn : hlen (opened (r.take 4)) = n at *
  have hb := (opened_len g5').2
  have hh := (opened_len g2').2
  rw [List.length_drop, List.length_take] at hb
  rw [List.length_take] at hh
  have hbn : (opened ((r.take (n + 6)).drop 4)).length = n := by omega
  refine ⟨by dsimp only; omega, by dsimp only; omega, r.drop (n + 6), ?_⟩
  dsimp only
  have e1 : hdr n = opened (r.take 4) := by rw [← hn]; exact hdr_hlen (by omega)
  unfold fPut
  rw [hbn, e1, fits_is g2', fits_is g5']
  have e2 : r.take 4 = (r.take (n + 6)).take 4 := by rw [List.take_take, Nat.min_eq_left (by omega)]
  rw [e2, List.take_append_drop, List.take_append_drop]
/-- What is scanned is the frames of the bodies, one behind the other. -/
theorem scan_is (l : List UInt8) : ∀ (k p : Nat), l.length - p = k → p ≤ l.length → (∀ x ∈ (scanL l p).1, x.length ≤ 65529) ∧ (scanL l p).2 = p + (frames (scanL l p).1).length ∧ ∃ t, l.drop p = frames (scanL l p).1 ++ t := by
  intro k
  induction k using Nat.strongRecOn with
  | _ k ih =>
    intro p hk hp
    by_cases h : p < l.length ∧ (fTake l p).2.2 = 0
    · have hbd := fTake_bd l p h.2
      have hf0 : (fTake0 (l.drop p)).2.2 = 0 := by
        have := h.2
        unfold fTake at this
        rw [if_neg (by omega), Int.toNat_natCast] at this
        split at this
        · assumption
        · exact this
      have hf : fTake l p = ((fTake0 (l.drop p)).1, p + (fTake0 (l.drop p)).2.1, 0) := by
        unfold fTake
        rw [if_neg (by omega), Int.toNat_natCast, if_pos hf0]
      obtain ⟨h1, h2, t, h3⟩ := take0_is hf0
      have hq : (fTake l p).2.1 = p + ((fTake0 (l.drop p)).1.length + 6) := by rw [hf, ← h2]
      obtain ⟨i1, i2, t2, i3⟩ := ih (l.length - (fTake l p).2.1) (by omega) (fTake l p).2.1 rfl (by omega)
      rw [scanL_go h.1 h.2]
      dsimp only
      refine ⟨fun x hx => ?_, ?_, t2, ?_⟩
      · rcases List.mem_cons.1 hx with rfl | hx
        · rw [hf]; exact h1
        · exact i1 x hx
      · rw [i2, frames_cons, List.length_append, fPut_length, hq, hf]; dsimp only; omega
      · have e1 : l.drop (fTake l p).2.1 = (l.drop p).drop ((fTake0 (l.drop p)).1.length + 6) := by rw [List.drop_drop, hq]
        have e2 : (l.drop p).drop ((fTake0 (l.drop p)).1.length + 6) = t := by
          have hl := congrArg (List.drop ((fTake0 (l.drop p)).1.length + 6)) h3
          rw [List.drop_left' (fPut_length _)] at hl
          exact hl
        rw [frames_cons, List.append_assoc, ← i3, e1, e2, hf]
        exact h3
    · rw [scanL_stop h]
      exact ⟨fun x hx => by simp at hx, by simp [frames], l.drop p, by simp [frames]⟩
/-- Open keeps a beginning of the bytes, and finds the same there once more. -/
theorem open_again (l : List UInt8) : (openM l).2 ≤ l.length ∧ openM (l.take (openM l).2) = openM l := by
  obtain ⟨h1, h2, t, h3⟩ := scan_is l l.length 0 rfl (Nat.zero_le _)
  rw [List.drop_zero] at h3
  obtain ⟨k, k1, k2, k3⟩ := takes_first (scanL l 0).1 true log0 0
  have hat : (openM l).2 = (frames ((scanL l 0).1.take k)).length := by unfold openM; rw [k2]; omega
  have hsp : frames (scanL l 0).1 = frames ((scanL l 0).1.take k) ++ frames ((scanL l 0).1.drop k) := by rw [← frames_append, List.take_append_drop]
  have htk : l.take (openM l).2 = frames ((scanL l 0).1.take k) := by
    have hl := congrArg (List.take (openM l).2) h3
    rw [hsp, List.append_assoc, List.take_left' hat.symm] at hl
    exact hl
  constructor
  · rw [hat]
    have := congrArg List.length h3
    rw [hsp, List.length_append, List.length_append] at this
    omega
  · rw [htk]
    show takesM (scanL (frames ((scanL l 0).1.take k)) 0).1 true log0 0 = _
    rw [scan_all _ fun x hx => h1 x (List.mem_of_mem_take hx)]
    exact k3
end Go.Proofs.Ytepgphflnelpoaa
end

section
set_option linter.unusedSimpArgs false
set_option linter.unusedVariables false
set_option maxRecDepth 20000
namespace Go.Free
open Go.RowKit

section
variable {P : Program} {ops : Array Oper} {n : Nat} {I : World → Prop} {Q : Exit → Act → World → Prop} {E : Env}
/-- Ends as Q does, but for the normal one: K. -/
def Qd (Q : Exit → Act → World → Prop) (K : Act → World → Prop) : Exit → Act → World → Prop
  | .normal => K
  | e => Q e
theorem letsOut_Qd {K : Act → World → Prop} (h : LetsOut (Qd Q K)) : LetsOut Q := h
theorem wpOp_Qd {K K' : Act → World → Prop} {i : Nat} {a : Act} {w : World} (h : wpOp P ops (Qd Q K) i K' a w) : wpOp P ops Q i K' a w := by
  unfold wpOp at *
  split
  · rename_i ho; simpa only [ho] using h
  · rename_i o ho
    simp only [ho] at h
    split
    · rename_i hw
      simp only [hw, if_true] at h
      refine h.imp (fun h => ?_) (fun h => ⟨h.1, letsOut_Qd h.2⟩)
      unfold Oper.wp at *
      generalize (execOp a.eval o).run P w = r at *
      cases r with
      | ok x w' =>
        cases x <;> simp only [Oper.upon] at h ⊢ <;>
          first
            | exact h
            | exact Calls.mono h (fun e w'' he => by cases e <;> first | exact he | exact letsOut_Qd he)
      | halt x w' => cases x <;> simp only [Oper.upon] at h ⊢ <;> exact h
    · rename_i hw
      simp only [hw] at h; exact h
/-- What is left to run of a drawn region, where those that are listed have run. -/
def D (P : Program) (ops : Array Oper) (Q : Exit → Act → World → Prop) (n : Nat) (I : World → Prop) (fuel : Nat) (listed : Array Bool) (E : Env) : Prop :=
  ∀ a w, I w → Sh n a → Sat E a w → wpAny P .any ops Q fuel listed a w
/-- Then one of those that are ready runs. -/
theorem D.step {fuel : Nat} {listed : Array Bool} (l : List Nat) (hr : Region.ready .any ops listed = l) (hl : l ≠ []) (ht : tidy ops n = true) (hI : ∀ w w', I w → Below w.heap.size w w' → I w')
    (h : ∀ i ∈ l, Plan P ops (Qd Q (wpAny P .any ops Q fuel (listed.setIfInBounds i true))) n I false 1 i E) : D P ops Q n I (fuel + 1) listed E := by
  intro a w h1 h2 h3
  refine ⟨fun e => absurd (hr.symm.trans e) hl, fun i hi => ?_⟩
  rw [hr] at hi
  rcases h i hi with ⟨F, hst, hp⟩ | ⟨_, heff⟩
  · refine wpOp_Qd (wpOp_mono ?_ (hst a w h1 h2 (fun t _ f hf => h3 t f hf)))
    rintro a' w' ⟨v, rfl, hb, hF⟩
    exact hp _ w' (hI _ _ h1 hb) (h2.put _ _) (h3.step ht h2 hb hF)
  · refine wpOp_Qd (wpOp_mono ?_ (heff a w h1 h2 h3))
    rintro a' w' ⟨E', hK, g1, g2, g3⟩
    exact hK a' w' g1 g2 g3
theorem D.one {fuel : Nat} {listed : Array Bool} (i : Nat) (hr : Region.ready .any ops listed = [i]) (ht : tidy ops n = true) (hI : ∀ w w', I w → Below w.heap.size w w' → I w')
    (h : Plan P ops (Qd Q (wpAny P .any ops Q fuel (listed.setIfInBounds i true))) n I false 1 i E) : D P ops Q n I (fuel + 1) listed E :=
  D.step [i] hr (by simp) ht hI fun j hj => by simp only [List.mem_singleton] at hj; subst hj; exact h
theorem D.two {fuel : Nat} {listed : Array Bool} (i j : Nat) (hr : Region.ready .any ops listed = [i, j]) (ht : tidy ops n = true) (hI : ∀ w w', I w → Below w.heap.size w w' → I w')
    (h : Plan P ops (Qd Q (wpAny P .any ops Q fuel (listed.setIfInBounds i true))) n I false 1 i E)
    (h2 : Plan P ops (Qd Q (wpAny P .any ops Q fuel (listed.setIfInBounds j true))) n I false 1 j E) : D P ops Q n I (fuel + 1) listed E :=
  D.step [i, j] hr (by simp) ht hI fun m hm => by
    rcases List.mem_cons.1 hm with rfl | hm
    · exact h
    · simp only [List.mem_singleton] at hm; subst hm; exact h2
/-- One has run: the next. -/
theorem D.go {fuel i : Nat} {listed : Array Bool} (h : D P ops Q n I fuel listed E) : Plan P ops (Qd Q (wpAny P .any ops Q fuel listed)) n I false 0 i E := h
theorem D.done {fuel : Nat} {listed : Array Bool} (hr : Region.ready .any ops listed = []) (h : Plan P ops Q n I false 0 0 E) : D P ops Q n I fuel listed E := by
  intro a w h1 h2 h3
  cases fuel with
  | zero => exact ⟨hr, h a w h1 h2 h3⟩
  | succ k => exact ⟨fun _ => h a w h1 h2 h3, fun i hi => by rw [hr] at hi; cases hi⟩
theorem J.draw {id : Nat} (hm : P.follows .mixedOrders = true) (hI : ∀ w w', I w → Below w.heap.size w w' → I w') (h : D P ops Q n I ops.size (Array.replicate ops.size false) E) : J P n I (.region id ops true) Q E := fun a w h1 h2 h3 => by
  refine wp_region_any hm ?_
  have hb0 : Below w.heap.size w { w with drawn := w.drawn + 1 } := (Below.refl _ _).drew
  exact h a _ (hI _ _ h1 hb0) h2 (fun t f hf => Fa.mono f w _ _ hb0 (h3 t f hf))
end

/-! ### Contracts over worlds beyond one that is known -/
/-- The value is v, and the world is one beyond wO. -/
def exIn (wO : World) (v : Value) : Fa := .is ⟨fun w x => x = v ∧ Below wO.heap.size wO w, fun _ _ _ hb ⟨h1, h2⟩ => ⟨h1, h2.trans (hb.mono h2.size)⟩⟩
theorem Sub.exIn {I : World → Prop} {wO : World} {v : Value} (h : ∀ w, I w → Below wO.heap.size wO w) : Sub I (.ex v) (Free.exIn wO v) := fun w x hI hx => ⟨hx, h w hI⟩
theorem Sub.inEx {I : World → Prop} {wO : World} {v : Value} : Sub I (Free.exIn wO v) (.ex v) := fun w x _ hx => hx.1
theorem Sub.known {I : World → Prop} {wO : World} {v : Value} {f : Fa} (h : ∀ w, I w → Below wO.heap.size wO w) (hv : f.den wO v) : Sub I (.ex v) f := fun w x hI hx => by
  simp only [Fa.den] at hx
  subst hx
  exact Fa.mono f wO w _ (h w hI) hv

theorem SpcC.intro2 {P : Program} {f : FuncId} {fn : Func} {body : Code} {As : List Fa} {c : Chunk} {X : Type} {ok : X → Prop} {R : X → Fa} {c' : X → Chunk} (hf : P.funcs[f]? = some fn) (hb : fn.body = some body) (hsz : As.length ≤ fn.ntmps)
    (h : ∀ w0 F args, Fa.dens As w0 args → c.holds w0 F → J P fn.ntmps (fun w => Kept F w0 w) body (FnPostC P fn ok R c' w0 F) ((1000, heap (fun b => F b ∨ w0.heap.size ≤ b) [c]) :: envNow As 0)) : SpcC P f As c ok R c' := by
  intro w args F hd hc
  have hlen : args.length = As.length := dens_len w As args hd
  refine calls_of_wp hf hb ?_
  refine wp_mono (h w F args hd hc _ w (Kept.refl _ _) ⟨by simp [hlen]; omega, rfl⟩ ?_) ?_
  · intro t f' hf'
    simp only [look] at hf'
    by_cases ht : 1000 = t
    · rw [if_pos ht] at hf'
      cases hf'
      exact ⟨_, Lies.one hc, fun q b hb => .inl hb.2⟩
    · rw [if_neg ht] at hf'
      exact envNow_sat (vs := args) hd (fun j v hj => frame_args j v hj) t f' hf'
  · rintro e a w' hq
    cases e <;> simp only [FnPostC] at hq <;> first | exact hq.elim | skip
    all_goals
      obtain ⟨h1, v, x, h2, h3⟩ := hq
      exact ⟨h1, v, h2, v, x, rfl, h3⟩
theorem exIn_below {wO w : World} {v : Value} {fs : List Fa} {args : List Value} (h : Fa.dens (exIn wO v :: fs) w args) : Below wO.heap.size wO w := by
  simp only [Fa.dens] at h
  obtain ⟨y, ys, rfl, h1, _⟩ := h
  exact h1.2
theorem kept_beyond {wO w1 w : World} {F : Nat → Prop} (h : Below wO.heap.size wO w1) (hF : ∀ b, F b → wO.heap.size ≤ b) (hk : Kept F w1 w) : Below wO.heap.size wO w :=
  ⟨hk.os.trans h.os, hk.tape.trans h.tape, hk.output.trans h.output, Nat.le_trans h.size hk.size, fun k hlt => by
    rw [hk.block k (Nat.lt_of_lt_of_le hlt h.size) (fun hf => absurd (hF k hf) (by omega)), h.block k hlt]⟩

section
variable {P : Program} {n : Nat} {I : World → Prop} {Q : Exit → Act → World → Prop} {E : Env} {A : Nat → Prop} {H : List Chunk} {key : Nat}
/-- A block of a chunk is of A. -/
theorem J.inA {c : Code} {q β : Nat} {c1 : Chunk} (hk : look E key = some (heap A H)) (hq : H[q]? = some c1) (hf : ∀ w F, c1.holds w F → F β) (h : A β → J P n I c Q E) : J P n I c Q E := fun a w h1 h2 h3 => by
  obtain ⟨φ, hL, hA⟩ := h3 key _ hk
  exact h (hA q β (hf w _ (hL.holds q _ hq))) a w h1 h2 h3
theorem obj_in {β : Nat} {cs : List Value} (w : World) (F : Nat → Prop) (h : (obj β cs).holds w F) : F β := (h.2 β).2 rfl
theorem J.nameOld {c : Code} {t : Nat} {wO : World} {f : Fa} (hf : look E t = some (.old wO f)) (h : ∀ u, f.den wO u → J P n I c Q ((t, .ex u) :: E)) : J P n I c Q E := fun a w h1 h2 h3 => by
  have hv := h3 t _ hf
  simp only [Fa.den] at hv
  refine h (a.slot t) hv a w h1 h2 fun s g hs => ?_
  simp only [look] at hs
  by_cases ht : t = s
  · subst ht; simp only [if_true, Option.some.injEq] at hs; subst hs; simp [Fa.den]
  · rw [if_neg ht] at hs; exact h3 s g hs
/-- A function that turns chunks, and whose result lies in a variable. -/
theorem Nrm.retCc {fn : Func} {X : Type} {ok : X → Prop} {R : X → Fa} {c' : X → Chunk} {w0 : World} {F : Nat → Prop} {t q β : Nat} {ty : TypeId} {td : TypeDesc} {c : Chunk} {cs : List Value} (x : X) (hr : fn.results = #[.cell t ty])
    (hl : look E t = some (.ex (ptr β))) (hk : look E key = some (heap (fun b => F b ∨ w0.heap.size ≤ b) H)) (hq : H[q]? = some c) (hrd : c.reads β 0 cs) (hu : P.underlying ty = some td) (hna : aggB td = true) (hi : (P.info? ty).map (·.size) = some cs.length)
    (hok : ok x) (hs : R x = .ex (.agg cs.toArray)) (he : Ent (allC H) (c' x)) : Nrm n (fun w => Kept F w0 w) (FnPostC P fn ok R c' w0 F .ret) E := fun a w h1 h2 h3 => by
  obtain ⟨φ, hL, hA⟩ := h3 key _ hk
  obtain ⟨G, g1, g2⟩ := he w _ hL.all
  have hrun := cell_load (P := P) (hL.holds q _ hq) hrd hu hna hi
  have hv := h3 t _ hl
  simp only [Fa.den] at hv
  have hv' : a.tmps.getD t undef = ptr β := hv
  have hasz : (asAddr (a.tmps[t]?.getD undef)).run P w = .ok ⟨β, 0, none⟩ w := by rw [← Array.getD_eq_getD_getElem?, hv']; rfl
  refine ⟨h2.defers, .agg cs.toArray, x, ?_, hok, h1, by rw [hs]; simp only [Fa.den], G, g1, fun b hb => by obtain ⟨q, hq⟩ := g2 b hb; exact hA q b hq⟩
  simp [results, hr, hasz, hrun]
end
end Go.Free
end

section
set_option linter.unusedSimpArgs false
set_option linter.unusedVariables false
set_option maxRecDepth 20000
namespace Go.Proofs.Ytepgphflnelpoaa
open Go.Free Go.RowKit Go.Proofs
set_option maxHeartbeats 4000000

abbrev rdC (β : Nat) (v : Value) (s : RS) : Chunk := obj β [v, vi s.1, vi s.2]
theorem rNum_err {l : List UInt8} {s : RS} (h : (s.2 : Int) ≠ 0) : rNum l s = (0, s) := if_pos (by omega)
theorem rText_err {l : List UInt8} {s : RS} (h : (s.2 : Int) ≠ 0) : rText l s = ([], s) := if_pos (by omega)
theorem rSig_err {l : List UInt8} {s : RS} (h : (s.2 : Int) ≠ 0) : rSig l s = (0, s) := if_pos (by omega)
theorem number_fn {wO : World} {v : Value} {l : List UInt8} (hv : (bytesF l).den wO v) {β : Nat} (hβ : wO.heap.size ≤ β) {s : RS} (hs : okS l s) (hl : l.length ≤ 9223372036854775807) :
    SpcC Try.prog 70 [exIn wO (ptr β)] (rdC β v s) (fun _ : Unit => True) (fun _ => .ex (vi (rNum l s).1)) (fun _ => rdC β v (rNum l s).2) := by
  refine SpcC.intro2 Try.func70 rfl (Nat.le_of_ble_eq_true rfl) fun w1 F args hd hc => ?_
  have hB0 := exIn_below hd
  have hbe : ∀ w, Kept F w1 w → Below wO.heap.size wO w := fun w h => kept_beyond hB0 (fun b hb => by rw [(hc.2 b).1 hb]; exact hβ) h
  have hI := kept_below F w1
  have hA := Own.kept F w1
  have hs1 := hs.1
  have hs2 := hs.2
  have hb := vTake_bd l s.1
  refine J.weak [(0, .ex (ptr β)), (1000, heap (fun b => F b ∨ w1.heap.size ≤ b) [rdC β v s])] (Weak.cons rfl Sub.inEx (Weak.cons rfl (Sub.refl _) Weak.nil)) ?_
  repeat (first | refine Plan.move rfl rfl rfl rfl ?_ | refine Plan.assign rfl rfl rfl rfl ?_ | (refine Plan.ints rfl rfl rfl rfl rfl rfl ?_; (skip)) | refine Plan.nilOk rfl rfl rfl rfl ?_ | refine Plan.fieldC rfl rfl rfl rfl (by first | exact Try.underlying48 | exact Try.underlying116) rfl (by kernel_rfl) (by exact (rfl : _ = 2)) ?_ | refine Plan.loadC (key := 1000) (q := 0) rfl rfl rfl rfl rfl rfl (obj_reads1 rfl) (by exact Try.underlying3) (by rfl) (by decide) ?_ | refine J.seq (J.region mixed hI (by kernel_rfl) ?_) | refine J.seq (J.seq (J.region mixed hI (by kernel_rfl) ?_)))
  refine J.condN rfl (fun he => ?_) (fun he => ?_)
  · rw [rNum_err he]
    repeat (first | refine Plan.assign rfl rfl rfl rfl ?_ | refine J.seq (J.region mixed hI (by kernel_rfl) ?_))
    exact J.ret (Nrm.retC1 (key := 1000) () rfl rfl rfl trivial (Sub.refl _) Ent.left)
  have hz : s.2 = 0 := by omega
  have kT := vlq_Take l s.1 (by omega) hl
  unfold takeRes at kT
  have eN : rNum l s = (if (vTake l s.1).2.2 ≠ 0 then ((0, (s.1, (vTake l s.1).2.2)) : Int × RS) else if 4611686018427387904 < (vTake l s.1).1 then (0, (s.1, 3)) else ((vTake l s.1).1, ((vTake l s.1).2.1, 0))) := if_neg (fun h => h hz)
  rw [eN]
  obtain ⟨sp, se⟩ := s
  simp only at hz hs1 hs2
  subst hz
  simp only at kT ⊢
  generalize (vTake l sp) = V at *
  obtain ⟨m, nx, er⟩ := V
  simp only at kT hb ⊢
  rcases Nat.eq_zero_or_pos er with h0 | h0
  · subst h0
    repeat (first | refine Plan.move rfl rfl rfl rfl ?_ | refine Plan.nilOk rfl rfl rfl rfl ?_ | refine Plan.fieldC rfl rfl rfl rfl (by first | exact Try.underlying48 | exact Try.underlying116) rfl (by kernel_rfl) (by first | exact (rfl : _ = 0) | exact (rfl : _ = 1)) ?_ | refine Plan.loadC (key := 1000) (q := 0) rfl rfl rfl rfl rfl rfl (obj_reads1 rfl) (by first | exact Try.underlying3 | exact Try.underlying27) (by rfl) (by decide) ?_ | refine J.seq (J.region mixed hI (by kernel_rfl) ?_) | refine J.skip ?_)
    refine Plan.call (B := 0) rfl rfl rfl kT Try.func86 rfl rfl (fun _ _ => Nat.zero_le _) (Opnds.cons rfl (Sub.known hbe hv) (Opnds.cons rfl (Sub.refl _) Opnds.nil)) ?_
    repeat (first | refine Plan.move rfl rfl rfl rfl ?_ | refine Plan.assign rfl rfl rfl rfl ?_ | refine Plan.extract rfl rfl rfl rfl rfl ?_ | refine Plan.pick rfl rfl rfl rfl rfl ?_ | (refine Plan.ints rfl rfl rfl rfl rfl rfl ?_; (skip)) | refine J.seq (J.seq (J.region mixed hI (by kernel_rfl) ?_)))
    refine J.condD rfl (fun h2 => ?_) (fun h2 => ?_)
    · rw [if_neg (by simp), if_pos (by omega)]
      repeat (first | refine Plan.move rfl rfl rfl rfl ?_ | refine Plan.assign rfl rfl rfl rfl ?_ | (refine Plan.ints rfl rfl rfl rfl rfl rfl ?_; (skip)) | refine Plan.nilOk rfl rfl rfl rfl ?_ | refine Plan.fieldC rfl rfl rfl rfl (by first | exact Try.underlying48 | exact Try.underlying116) rfl (by kernel_rfl) (by exact (rfl : _ = 2)) ?_ | refine J.seq (J.region mixed hI (by kernel_rfl) ?_) | refine J.region mixed hI (by kernel_rfl) ?_ | refine J.seq (J.seq (J.region mixed hI (by kernel_rfl) ?_)) | refine J.condT rfl ?_)
      refine Plan.storeC (key := 1000) (q := 0) rfl rfl rfl rfl rfl rfl (by simp [Value.cells, Value.oneCell', str]) (by kernel_rfl) rfl hA rfl (obj_pat1 (Nat.le_of_ble_eq_true rfl)) ?_
      repeat (first | refine Plan.assign rfl rfl rfl rfl ?_ | refine J.seq (J.region mixed hI (by kernel_rfl) ?_))
      exact J.ret (Nrm.retC1 (key := 1000) () rfl rfl rfl trivial (Sub.refl _) Ent.left)
    · rw [if_neg (by simp), if_neg (by omega)]
      repeat (first | refine Plan.move rfl rfl rfl rfl ?_ | (refine Plan.ints rfl rfl rfl rfl rfl rfl ?_; (skip)) | refine Plan.nilOk rfl rfl rfl rfl ?_ | refine Plan.fieldC rfl rfl rfl rfl (by first | exact Try.underlying48 | exact Try.underlying116) rfl (by kernel_rfl) (by exact (rfl : _ = 1)) ?_ | refine J.seq (J.region mixed hI (by kernel_rfl) ?_) | refine J.seq (J.seq (J.region mixed hI (by kernel_rfl) ?_)) | refine J.condF rfl ?_ | refine J.skip ?_)
      refine Plan.storeC (key := 1000) (q := 0) rfl rfl rfl rfl rfl rfl (by simp [Value.cells, Value.oneCell', str]) (by kernel_rfl) rfl hA rfl (obj_pat1 (Nat.le_of_ble_eq_true rfl)) ?_
      repeat (first | refine Plan.move rfl rfl rfl rfl ?_ | refine Plan.assign rfl rfl rfl rfl ?_ | (refine Plan.convInt rfl rfl rfl rfl (by first | exact Try.underlying3 | exact Try.underlying122) (by exact Try.underlying3) ?_; (refine Plan.int (i64r (by omega)) ?_)) | refine J.seq (J.region mixed hI (by kernel_rfl) ?_))
      exact J.ret (Nrm.retC1 (key := 1000) () rfl rfl rfl trivial (Sub.refl _) Ent.left)
  · repeat (first | refine Plan.move rfl rfl rfl rfl ?_ | refine Plan.nilOk rfl rfl rfl rfl ?_ | refine Plan.fieldC rfl rfl rfl rfl (by first | exact Try.underlying48 | exact Try.underlying116) rfl (by kernel_rfl) (by first | exact (rfl : _ = 0) | exact (rfl : _ = 1)) ?_ | refine Plan.loadC (key := 1000) (q := 0) rfl rfl rfl rfl rfl rfl (obj_reads1 rfl) (by first | exact Try.underlying3 | exact Try.underlying27) (by rfl) (by decide) ?_ | refine J.seq (J.region mixed hI (by kernel_rfl) ?_) | refine J.skip ?_)
    refine Plan.call (B := 0) rfl rfl rfl kT Try.func86 rfl rfl (fun _ _ => Nat.zero_le _) (Opnds.cons rfl (Sub.known hbe hv) (Opnds.cons rfl (Sub.refl _) Opnds.nil)) ?_
    repeat (first | refine Plan.move rfl rfl rfl rfl ?_ | refine Plan.assign rfl rfl rfl rfl ?_ | refine Plan.extract rfl rfl rfl rfl rfl ?_ | (refine Plan.ints rfl rfl rfl rfl rfl rfl ?_; (skip)) | refine J.seq (J.seq (J.region mixed hI (by kernel_rfl) ?_)))
    refine Plan.boolv (y := false) (by simpa using (by omega : ¬ er = 0)) ?_
    repeat (first | refine Plan.move rfl rfl rfl rfl ?_ | refine Plan.skip rfl rfl ?_ | refine Plan.pick rfl rfl rfl rfl rfl ?_ | (refine Plan.ints rfl rfl rfl rfl rfl rfl ?_; (skip)) | refine J.seq (J.seq (J.region mixed hI (by kernel_rfl) ?_)) | refine J.condF rfl ?_ | refine J.skip ?_)
    rw [if_pos (by omega)]
    refine J.condN rfl (fun h2 => ?_) (fun h2 => absurd h2 (by omega))
    repeat (first | refine Plan.move rfl rfl rfl rfl ?_ | refine Plan.nilOk rfl rfl rfl rfl ?_ | refine Plan.fieldC rfl rfl rfl rfl (by first | exact Try.underlying48 | exact Try.underlying116) rfl (by kernel_rfl) (by exact (rfl : _ = 2)) ?_ | refine J.seq (J.region mixed hI (by kernel_rfl) ?_))
    refine Plan.storeC (key := 1000) (q := 0) rfl rfl rfl rfl rfl rfl (by simp [Value.cells, Value.oneCell', str]) (by kernel_rfl) rfl hA rfl (obj_pat1 (Nat.le_of_ble_eq_true rfl)) ?_
    repeat (first | refine Plan.assign rfl rfl rfl rfl ?_ | refine J.seq (J.region mixed hI (by kernel_rfl) ?_))
    exact J.ret (Nrm.retC1 (key := 1000) () rfl rfl rfl trivial (Sub.refl _) Ent.left)
theorem refnum_fn {l : List UInt8} {β : Nat} {s : RS} (hs : okS l s) (hl : l.length ≤ 9223372036854775807) :
    SpcC Try.prog 56 [.ex (ptr β)] (rdC β (str l) s) (fun _ : Unit => True) (fun _ => .ex (vi (rNum l s).1)) (fun _ => rdC β (str l) (rNum l s).2) := by
  refine SpcC.intro2 Try.func56 rfl (Nat.le_of_ble_eq_true rfl) fun w1 F args hd hc => ?_
  have hI := kept_below F w1
  have hA := Own.kept F w1
  have hs1 := hs.1
  have hs2 := hs.2
  have hb := vTake_bd l s.1
  refine J.weak [(0, .ex (ptr β)), (1000, heap (fun b => F b ∨ w1.heap.size ≤ b) [rdC β (str l) s])] (Weak.cons rfl (Sub.refl _) (Weak.cons rfl (Sub.refl _) Weak.nil)) ?_
  repeat (first | refine Plan.move rfl rfl rfl rfl ?_ | refine Plan.assign rfl rfl rfl rfl ?_ | (refine Plan.ints rfl rfl rfl rfl rfl rfl ?_; (skip)) | refine Plan.nilOk rfl rfl rfl rfl ?_ | refine Plan.fieldC rfl rfl rfl rfl (by first | exact Try.underlying48 | exact Try.underlying105) rfl (by kernel_rfl) (by exact (rfl : _ = 2)) ?_ | refine Plan.loadC (key := 1000) (q := 0) rfl rfl rfl rfl rfl rfl (obj_reads1 rfl) (by exact Try.underlying3) (by rfl) (by decide) ?_ | refine J.seq (J.region mixed hI (by kernel_rfl) ?_) | refine J.seq (J.seq (J.region mixed hI (by kernel_rfl) ?_)))
  refine J.condN rfl (fun he => ?_) (fun he => ?_)
  · rw [rNum_err he]
    repeat (first | refine Plan.assign rfl rfl rfl rfl ?_ | refine J.seq (J.region mixed hI (by kernel_rfl) ?_))
    exact J.ret (Nrm.retC1 (key := 1000) () rfl rfl rfl trivial (Sub.refl _) Ent.left)
  have hz : s.2 = 0 := by omega
  have kT := ref_Take l s.1 (by omega) hl
  unfold takeResI at kT
  have eN : rNum l s = (if (vTake l s.1).2.2 ≠ 0 then ((0, (s.1, (vTake l s.1).2.2)) : Int × RS) else if 4611686018427387904 < (vTake l s.1).1 then (0, (s.1, 3)) else ((vTake l s.1).1, ((vTake l s.1).2.1, 0))) := if_neg (fun h => h hz)
  rw [eN]
  obtain ⟨sp, se⟩ := s
  simp only at hz hs1 hs2
  subst hz
  simp only at kT ⊢
  generalize (vTake l sp) = V at *
  obtain ⟨m, nx, er⟩ := V
  simp only at kT hb ⊢
  rcases Nat.eq_zero_or_pos er with h0 | h0
  · subst h0
    repeat (first | refine Plan.move rfl rfl rfl rfl ?_ | refine Plan.nilOk rfl rfl rfl rfl ?_ | refine Plan.fieldC rfl rfl rfl rfl (by first | exact Try.underlying48 | exact Try.underlying105) rfl (by kernel_rfl) (by first | exact (rfl : _ = 0) | exact (rfl : _ = 1)) ?_ | refine Plan.loadC (key := 1000) (q := 0) rfl rfl rfl rfl rfl rfl (obj_reads1 rfl) (by first | exact Try.underlying3 | exact Try.underlying9) (by rfl) (by decide) ?_ | refine J.seq (J.region mixed hI (by kernel_rfl) ?_) | refine J.skip ?_)
    refine Plan.call (B := 0) rfl rfl rfl kT Try.func79 rfl rfl (fun _ _ => Nat.zero_le _) (Opnds.cons rfl (Sub.refl _) (Opnds.cons rfl (Sub.refl _) Opnds.nil)) ?_
    repeat (first | refine Plan.move rfl rfl rfl rfl ?_ | refine Plan.assign rfl rfl rfl rfl ?_ | refine Plan.extract rfl rfl rfl rfl rfl ?_ | refine Plan.nilOk rfl rfl rfl rfl ?_ | refine Plan.fieldC rfl rfl rfl rfl (by first | exact Try.underlying48 | exact Try.underlying105) rfl (by kernel_rfl) (by exact (rfl : _ = 2)) ?_ | refine J.seq (J.region mixed hI (by kernel_rfl) ?_))
    refine Plan.storeC (key := 1000) (q := 0) rfl rfl rfl rfl rfl rfl (by simp [Value.cells, Value.oneCell', str]) (by kernel_rfl) rfl hA rfl (obj_pat1 (Nat.le_of_ble_eq_true rfl)) ?_
    repeat (first | refine Plan.move rfl rfl rfl rfl ?_ | refine Plan.pick rfl rfl rfl rfl rfl ?_ | (refine Plan.ints rfl rfl rfl rfl rfl rfl ?_; (skip)) | refine J.seq (J.seq (J.region mixed hI (by kernel_rfl) ?_)))
    refine J.condD rfl (fun h2 => ?_) (fun h2 => ?_)
    · rw [if_neg (by simp), if_pos (by omega)]
      repeat (first | refine Plan.move rfl rfl rfl rfl ?_ | refine Plan.nilOk rfl rfl rfl rfl ?_ | refine Plan.fieldC rfl rfl rfl rfl (by first | exact Try.underlying48 | exact Try.underlying105) rfl (by kernel_rfl) (by exact (rfl : _ = 2)) ?_ | refine J.region mixed hI (by kernel_rfl) ?_)
      refine Plan.storeC (key := 1000) (q := 0) rfl rfl rfl rfl rfl rfl (by simp [Value.cells, Value.oneCell', str]) (by kernel_rfl) rfl hA rfl (obj_pat1 (Nat.le_of_ble_eq_true rfl)) ?_
      repeat (first | refine Plan.move rfl rfl rfl rfl ?_ | refine Plan.assign rfl rfl rfl rfl ?_ | (refine Plan.ints rfl rfl rfl rfl rfl rfl ?_; (skip)) | refine Plan.nilOk rfl rfl rfl rfl ?_ | refine Plan.fieldC rfl rfl rfl rfl (by first | exact Try.underlying48 | exact Try.underlying105) rfl (by kernel_rfl) (by exact (rfl : _ = 2)) ?_ | refine Plan.loadC (key := 1000) (q := 0) rfl rfl rfl rfl rfl rfl (obj_reads1 rfl) (by exact Try.underlying3) (by rfl) (by decide) ?_ | refine J.seq (J.region mixed hI (by kernel_rfl) ?_) | refine J.seq (J.seq (J.region mixed hI (by kernel_rfl) ?_)) | refine J.condT rfl ?_)
      exact J.ret (Nrm.retC1 (key := 1000) () rfl rfl rfl trivial (Sub.refl _) Ent.left)
    · rw [if_neg (by simp), if_neg (by omega)]
      repeat (first | refine Plan.move rfl rfl rfl rfl ?_ | (refine Plan.ints rfl rfl rfl rfl rfl rfl ?_; (skip)) | refine Plan.nilOk rfl rfl rfl rfl ?_ | refine Plan.fieldC rfl rfl rfl rfl (by first | exact Try.underlying48 | exact Try.underlying105) rfl (by kernel_rfl) (by first | exact (rfl : _ = 1) | exact (rfl : _ = 2)) ?_ | refine Plan.loadC (key := 1000) (q := 0) rfl rfl rfl rfl rfl rfl (obj_reads1 rfl) (by exact Try.underlying3) (by rfl) (by decide) ?_ | refine J.seq (J.region mixed hI (by kernel_rfl) ?_) | refine J.seq (J.seq (J.region mixed hI (by kernel_rfl) ?_)) | refine J.condF rfl ?_ | refine J.skip ?_)
      refine Plan.storeC (key := 1000) (q := 0) rfl rfl rfl rfl rfl rfl (by simp [Value.cells, Value.oneCell', str]) (by kernel_rfl) rfl hA rfl (obj_pat1 (Nat.le_of_ble_eq_true rfl)) ?_
      repeat (first | refine Plan.move rfl rfl rfl rfl ?_ | refine Plan.assign rfl rfl rfl rfl ?_ | (refine Plan.convInt rfl rfl rfl rfl (by first | exact Try.underlying3 | exact Try.underlying122) (by exact Try.underlying3) ?_; (refine Plan.int (i64r (by omega)) ?_)) | refine J.seq (J.region mixed hI (by kernel_rfl) ?_))
      exact J.ret (Nrm.retC1 (key := 1000) () rfl rfl rfl trivial (Sub.refl _) Ent.left)
  · repeat (first | refine Plan.move rfl rfl rfl rfl ?_ | refine Plan.nilOk rfl rfl rfl rfl ?_ | refine Plan.fieldC rfl rfl rfl rfl (by first | exact Try.underlying48 | exact Try.underlying105) rfl (by kernel_rfl) (by first | exact (rfl : _ = 0) | exact (rfl : _ = 1)) ?_ | refine Plan.loadC (key := 1000) (q := 0) rfl rfl rfl rfl rfl rfl (obj_reads1 rfl) (by first | exact Try.underlying3 | exact Try.underlying9) (by rfl) (by decide) ?_ | refine J.seq (J.region mixed hI (by kernel_rfl) ?_) | refine J.skip ?_)
    refine Plan.call (B := 0) rfl rfl rfl kT Try.func79 rfl rfl (fun _ _ => Nat.zero_le _) (Opnds.cons rfl (Sub.refl _) (Opnds.cons rfl (Sub.refl _) Opnds.nil)) ?_
    repeat (first | refine Plan.move rfl rfl rfl rfl ?_ | refine Plan.assign rfl rfl rfl rfl ?_ | refine Plan.extract rfl rfl rfl rfl rfl ?_ | refine Plan.nilOk rfl rfl rfl rfl ?_ | refine Plan.fieldC rfl rfl rfl rfl (by first | exact Try.underlying48 | exact Try.underlying105) rfl (by kernel_rfl) (by exact (rfl : _ = 2)) ?_ | refine J.seq (J.region mixed hI (by kernel_rfl) ?_))
    refine Plan.storeC (key := 1000) (q := 0) rfl rfl rfl rfl rfl rfl (by simp [Value.cells, Value.oneCell', str]) (by kernel_rfl) rfl hA rfl (obj_pat1 (Nat.le_of_ble_eq_true rfl)) ?_
    repeat (first | refine Plan.move rfl rfl rfl rfl ?_ | (refine Plan.ints rfl rfl rfl rfl rfl rfl ?_; (skip)) | refine J.seq (J.seq (J.region mixed hI (by kernel_rfl) ?_)))
    refine Plan.boolv (y := false) (by simpa using (by omega : ¬ er = 0)) ?_
    repeat (first | refine Plan.move rfl rfl rfl rfl ?_ | refine Plan.skip rfl rfl ?_ | refine Plan.pick rfl rfl rfl rfl rfl ?_ | (refine Plan.ints rfl rfl rfl rfl rfl rfl ?_; (skip)) | refine Plan.nilOk rfl rfl rfl rfl ?_ | refine Plan.fieldC rfl rfl rfl rfl (by first | exact Try.underlying48 | exact Try.underlying105) rfl (by kernel_rfl) (by exact (rfl : _ = 2)) ?_ | refine Plan.loadC (key := 1000) (q := 0) rfl rfl rfl rfl rfl rfl (obj_reads1 rfl) (by exact Try.underlying3) (by rfl) (by decide) ?_ | refine J.seq (J.seq (J.region mixed hI (by kernel_rfl) ?_)) | refine J.condF rfl ?_ | refine J.skip ?_)
    rw [if_pos (by omega)]
    refine J.condN rfl (fun h2 => ?_) (fun h2 => absurd h2 (by omega))
    repeat (first | refine Plan.assign rfl rfl rfl rfl ?_ | refine J.seq (J.region mixed hI (by kernel_rfl) ?_))
    exact J.ret (Nrm.retC1 (key := 1000) () rfl rfl rfl trivial (Sub.refl _) Ent.left)
theorem text_fn {wO : World} {v : Value} {l : List UInt8} (hv : (bytesF l).den wO v) {β : Nat} (hβ : wO.heap.size ≤ β) {s : RS} (hs : okS l s) (hl : l.length ≤ 9223372036854775807) :
    SpcC Try.prog 87 [exIn wO (ptr β)] (rdC β v s) (fun _ : Unit => True) (fun _ => .ex (str (rText l s).1)) (fun _ => rdC β v (rText l s).2) := by
  refine SpcC.intro2 Try.func87 rfl (Nat.le_of_ble_eq_true rfl) fun w1 F args hd hc => ?_
  have hB0 := exIn_below hd
  have hbe : ∀ w, Kept F w1 w → Below wO.heap.size wO w := fun w h => kept_beyond hB0 (fun b hb => by rw [(hc.2 b).1 hb]; exact hβ) h
  have hI := kept_below F w1
  have hA := Own.kept F w1
  have hs1 := hs.1
  have hs2 := hs.2
  have hb := vTake_bd l s.1
  refine J.weak [(0, .ex (ptr β)), (1000, heap (fun b => F b ∨ w1.heap.size ≤ b) [rdC β v s])] (Weak.cons rfl Sub.inEx (Weak.cons rfl (Sub.refl _) Weak.nil)) ?_
  repeat (first | refine Plan.move rfl rfl rfl rfl ?_ | refine Plan.assign rfl rfl rfl rfl ?_ | (refine Plan.ints rfl rfl rfl rfl rfl rfl ?_; (skip)) | refine Plan.nilOk rfl rfl rfl rfl ?_ | refine Plan.fieldC rfl rfl rfl rfl (by first | exact Try.underlying48 | exact Try.underlying116) rfl (by kernel_rfl) (by exact (rfl : _ = 2)) ?_ | refine Plan.loadC (key := 1000) (q := 0) rfl rfl rfl rfl rfl rfl (obj_reads1 rfl) (by exact Try.underlying3) (by rfl) (by decide) ?_ | refine J.seq (J.region mixed hI (by kernel_rfl) ?_) | refine J.seq (J.seq (J.region mixed hI (by kernel_rfl) ?_)))
  refine J.condN rfl (fun he => ?_) (fun he => ?_)
  · rw [rText_err he]
    repeat (first | refine Plan.assign rfl rfl rfl rfl ?_ | refine J.seq (J.region mixed hI (by kernel_rfl) ?_))
    exact J.ret (Nrm.retC1 (key := 1000) () rfl rfl rfl trivial (Sub.refl _) Ent.left)
  have hz : s.2 = 0 := by omega
  have kT := vlq_TakeText l s.1 64 (by omega) (by omega) hl
  unfold textRes at kT
  have eN : rText l s = ((vText l s.1 64).1, ((vText l s.1 64).2.1, (vText l s.1 64).2.2)) := if_neg (by omega)
  rw [eN]
  obtain ⟨sp, se⟩ := s
  simp only at hz hs1 hs2
  subst hz
  simp only at kT ⊢
  repeat (first | refine Plan.move rfl rfl rfl rfl ?_ | refine Plan.nilOk rfl rfl rfl rfl ?_ | refine Plan.fieldC rfl rfl rfl rfl (by first | exact Try.underlying48 | exact Try.underlying116) rfl (by kernel_rfl) (by first | exact (rfl : _ = 0) | exact (rfl : _ = 1)) ?_ | refine Plan.loadC (key := 1000) (q := 0) rfl rfl rfl rfl rfl rfl (obj_reads1 rfl) (by first | exact Try.underlying3 | exact Try.underlying27) (by rfl) (by decide) ?_ | refine J.seq (J.region mixed hI (by kernel_rfl) ?_) | refine J.skip ?_)
  refine Plan.call (B := 0) rfl rfl rfl kT Try.func94 rfl rfl (fun _ _ => Nat.zero_le _) (Opnds.cons rfl (Sub.known hbe hv) (Opnds.cons rfl (Sub.refl _) (Opnds.cons rfl (Sub.refl _) Opnds.nil))) ?_
  repeat (first | refine Plan.move rfl rfl rfl rfl ?_ | refine Plan.assign rfl rfl rfl rfl ?_ | refine Plan.extract rfl rfl rfl rfl rfl ?_ | refine Plan.nilOk rfl rfl rfl rfl ?_ | refine Plan.fieldC rfl rfl rfl rfl (by first | exact Try.underlying48 | exact Try.underlying116) rfl (by kernel_rfl) (by exact (rfl : _ = 1)) ?_ | refine J.seq (J.region mixed hI (by kernel_rfl) ?_))
  refine Plan.storeC (key := 1000) (q := 0) rfl rfl rfl rfl rfl rfl (by simp [Value.cells, Value.oneCell', str]) (by kernel_rfl) rfl hA rfl (obj_pat1 (Nat.le_of_ble_eq_true rfl)) ?_
  repeat (first | refine Plan.nilOk rfl rfl rfl rfl ?_ | refine Plan.fieldC rfl rfl rfl rfl (by first | exact Try.underlying48 | exact Try.underlying116) rfl (by kernel_rfl) (by exact (rfl : _ = 2)) ?_)
  refine Plan.storeC (key := 1000) (q := 0) rfl rfl rfl rfl rfl rfl (by simp [Value.cells, Value.oneCell', str]) (by kernel_rfl) rfl hA rfl (obj_pat1 (Nat.le_of_ble_eq_true rfl)) ?_
  repeat (first | refine Plan.move rfl rfl rfl rfl ?_ | refine Plan.assign rfl rfl rfl rfl ?_ | refine J.seq (J.region mixed hI (by kernel_rfl) ?_))
  exact J.ret (Nrm.retC1 (key := 1000) () rfl rfl rfl trivial (Sub.refl _) Ent.left)
theorem reftext_fn {l : List UInt8} {β : Nat} {s : RS} (hs : okS l s) (hl : l.length ≤ 9223372036854775807) :
    SpcC Try.prog 57 [.ex (ptr β)] (rdC β (str l) s) (fun _ : Unit => True) (fun _ => .ex (str (rText l s).1)) (fun _ => rdC β (str l) (rText l s).2) := by
  refine SpcC.intro2 Try.func57 rfl (Nat.le_of_ble_eq_true rfl) fun w1 F args hd hc => ?_
  have hI := kept_below F w1
  have hA := Own.kept F w1
  have hs1 := hs.1
  have hs2 := hs.2
  have hb := vTake_bd l s.1
  refine J.weak [(0, .ex (ptr β)), (1000, heap (fun b => F b ∨ w1.heap.size ≤ b) [rdC β (str l) s])] (Weak.cons rfl (Sub.refl _) (Weak.cons rfl (Sub.refl _) Weak.nil)) ?_
  repeat (first | refine Plan.move rfl rfl rfl rfl ?_ | refine Plan.assign rfl rfl rfl rfl ?_ | (refine Plan.ints rfl rfl rfl rfl rfl rfl ?_; (skip)) | refine Plan.nilOk rfl rfl rfl rfl ?_ | refine Plan.fieldC rfl rfl rfl rfl (by first | exact Try.underlying48 | exact Try.underlying105) rfl (by kernel_rfl) (by exact (rfl : _ = 2)) ?_ | refine Plan.loadC (key := 1000) (q := 0) rfl rfl rfl rfl rfl rfl (obj_reads1 rfl) (by exact Try.underlying3) (by rfl) (by decide) ?_ | refine J.seq (J.region mixed hI (by kernel_rfl) ?_) | refine J.seq (J.seq (J.region mixed hI (by kernel_rfl) ?_)))
  refine J.condN rfl (fun he => ?_) (fun he => ?_)
  · rw [rText_err he]
    repeat (first | refine Plan.assign rfl rfl rfl rfl ?_ | refine J.seq (J.region mixed hI (by kernel_rfl) ?_))
    exact J.ret (Nrm.retC1 (key := 1000) () rfl rfl rfl trivial (Sub.refl _) Ent.left)
  have hz : s.2 = 0 := by omega
  have kT := ref_TakeText l s.1 64 (by omega) (by omega) hl
  unfold textRes at kT
  have eN : rText l s = ((vText l s.1 64).1, ((vText l s.1 64).2.1, (vText l s.1 64).2.2)) := if_neg (by omega)
  rw [eN]
  obtain ⟨sp, se⟩ := s
  simp only at hz hs1 hs2
  subst hz
  simp only at kT ⊢
  repeat (first | refine Plan.move rfl rfl rfl rfl ?_ | refine Plan.nilOk rfl rfl rfl rfl ?_ | refine Plan.fieldC rfl rfl rfl rfl (by first | exact Try.underlying48 | exact Try.underlying105) rfl (by kernel_rfl) (by first | exact (rfl : _ = 0) | exact (rfl : _ = 1)) ?_ | refine Plan.loadC (key := 1000) (q := 0) rfl rfl rfl rfl rfl rfl (obj_reads1 rfl) (by first | exact Try.underlying3 | exact Try.underlying9) (by rfl) (by decide) ?_ | refine J.seq (J.region mixed hI (by kernel_rfl) ?_) | refine J.skip ?_)
  refine Plan.call (B := 0) rfl rfl rfl kT Try.func80 rfl rfl (fun _ _ => Nat.zero_le _) (Opnds.cons rfl (Sub.refl _) (Opnds.cons rfl (Sub.refl _) (Opnds.cons rfl (Sub.refl _) Opnds.nil))) ?_
  repeat (first | refine Plan.move rfl rfl rfl rfl ?_ | refine Plan.assign rfl rfl rfl rfl ?_ | refine Plan.extract rfl rfl rfl rfl rfl ?_ | refine Plan.nilOk rfl rfl rfl rfl ?_ | refine Plan.fieldC rfl rfl rfl rfl (by first | exact Try.underlying48 | exact Try.underlying105) rfl (by kernel_rfl) (by exact (rfl : _ = 2)) ?_ | refine J.seq (J.region mixed hI (by kernel_rfl) ?_))
  refine Plan.storeC (key := 1000) (q := 0) rfl rfl rfl rfl rfl rfl (by simp [Value.cells, Value.oneCell', str]) (by kernel_rfl) rfl hA rfl (obj_pat1 (Nat.le_of_ble_eq_true rfl)) ?_
  repeat (first | refine Plan.move rfl rfl rfl rfl ?_ | refine Plan.nilOk rfl rfl rfl rfl ?_ | refine Plan.fieldC rfl rfl rfl rfl (by first | exact Try.underlying48 | exact Try.underlying105) rfl (by kernel_rfl) (by exact (rfl : _ = 1)) ?_ | refine J.seq (J.region mixed hI (by kernel_rfl) ?_))
  refine Plan.storeC (key := 1000) (q := 0) rfl rfl rfl rfl rfl rfl (by simp [Value.cells, Value.oneCell', str]) (by kernel_rfl) rfl hA rfl (obj_pat1 (Nat.le_of_ble_eq_true rfl)) ?_
  repeat (first | refine Plan.move rfl rfl rfl rfl ?_ | refine Plan.assign rfl rfl rfl rfl ?_ | refine J.seq (J.region mixed hI (by kernel_rfl) ?_))
  exact J.ret (Nrm.retC1 (key := 1000) () rfl rfl rfl trivial (Sub.refl _) Ent.left)
theorem signed_fn {wO : World} {v : Value} {l : List UInt8} (hv : (bytesF l).den wO v) {β : Nat} (hβ : wO.heap.size ≤ β) {s : RS} (hs : okS l s) (hl : l.length ≤ 9223372036854775807) :
    SpcC Try.prog 88 [exIn wO (ptr β)] (rdC β v s) (fun _ : Unit => True) (fun _ => .ex (vi (rSig l s).1)) (fun _ => rdC β v (rSig l s).2) := by
  refine SpcC.intro2 Try.func88 rfl (Nat.le_of_ble_eq_true rfl) fun w1 F args hd hc => ?_
  have hB0 := exIn_below hd
  have hbe : ∀ w, Kept F w1 w → Below wO.heap.size wO w := fun w h => kept_beyond hB0 (fun b hb => by rw [(hc.2 b).1 hb]; exact hβ) h
  have hI := kept_below F w1
  have hA := Own.kept F w1
  have hs1 := hs.1
  have hs2 := hs.2
  have hb := vTake_bd l s.1
  refine J.weak [(0, .ex (ptr β)), (1000, heap (fun b => F b ∨ w1.heap.size ≤ b) [rdC β v s])] (Weak.cons rfl Sub.inEx (Weak.cons rfl (Sub.refl _) Weak.nil)) ?_
  repeat (first | refine Plan.move rfl rfl rfl rfl ?_ | refine Plan.assign rfl rfl rfl rfl ?_ | (refine Plan.ints rfl rfl rfl rfl rfl rfl ?_; (skip)) | refine Plan.nilOk rfl rfl rfl rfl ?_ | refine Plan.fieldC rfl rfl rfl rfl (by first | exact Try.underlying48 | exact Try.underlying116) rfl (by kernel_rfl) (by exact (rfl : _ = 2)) ?_ | refine Plan.loadC (key := 1000) (q := 0) rfl rfl rfl rfl rfl rfl (obj_reads1 rfl) (by exact Try.underlying3) (by rfl) (by decide) ?_ | refine J.seq (J.region mixed hI (by kernel_rfl) ?_) | refine J.seq (J.seq (J.region mixed hI (by kernel_rfl) ?_)))
  refine J.condN rfl (fun he => ?_) (fun he => ?_)
  · rw [rSig_err he]
    repeat (first | refine Plan.assign rfl rfl rfl rfl ?_ | refine J.seq (J.region mixed hI (by kernel_rfl) ?_))
    exact J.ret (Nrm.retC1 (key := 1000) () rfl rfl rfl trivial (Sub.refl _) Ent.left)
  have hz : s.2 = 0 := by omega
  have kT := vlq_TakeInt l s.1 (by omega) hl
  have eN : rSig l s = (zag (vTake l s.1).1, ((vTake l s.1).2.1, (vTake l s.1).2.2)) := if_neg (by omega)
  rw [eN]
  obtain ⟨sp, se⟩ := s
  simp only at hz hs1 hs2
  subst hz
  simp only at kT ⊢
  repeat (first | refine Plan.move rfl rfl rfl rfl ?_ | refine Plan.nilOk rfl rfl rfl rfl ?_ | refine Plan.fieldC rfl rfl rfl rfl (by first | exact Try.underlying48 | exact Try.underlying116) rfl (by kernel_rfl) (by first | exact (rfl : _ = 0) | exact (rfl : _ = 1)) ?_ | refine Plan.loadC (key := 1000) (q := 0) rfl rfl rfl rfl rfl rfl (obj_reads1 rfl) (by first | exact Try.underlying3 | exact Try.underlying27) (by rfl) (by decide) ?_ | refine J.seq (J.region mixed hI (by kernel_rfl) ?_) | refine J.skip ?_)
  refine Plan.call (B := 0) rfl rfl rfl kT Try.func95 rfl rfl (fun _ _ => Nat.zero_le _) (Opnds.cons rfl (Sub.known hbe hv) (Opnds.cons rfl (Sub.refl _) Opnds.nil)) ?_
  repeat (first | refine Plan.move rfl rfl rfl rfl ?_ | refine Plan.assign rfl rfl rfl rfl ?_ | refine Plan.extract rfl rfl rfl rfl rfl ?_ | refine Plan.nilOk rfl rfl rfl rfl ?_ | refine Plan.fieldC rfl rfl rfl rfl (by first | exact Try.underlying48 | exact Try.underlying116) rfl (by kernel_rfl) (by exact (rfl : _ = 1)) ?_ | refine J.seq (J.region mixed hI (by kernel_rfl) ?_))
  refine Plan.storeC (key := 1000) (q := 0) rfl rfl rfl rfl rfl rfl (by simp [Value.cells, Value.oneCell', str]) (by kernel_rfl) rfl hA rfl (obj_pat1 (Nat.le_of_ble_eq_true rfl)) ?_
  repeat (first | refine Plan.nilOk rfl rfl rfl rfl ?_ | refine Plan.fieldC rfl rfl rfl rfl (by first | exact Try.underlying48 | exact Try.underlying116) rfl (by kernel_rfl) (by exact (rfl : _ = 2)) ?_)
  refine Plan.storeC (key := 1000) (q := 0) rfl rfl rfl rfl rfl rfl (by simp [Value.cells, Value.oneCell', str]) (by kernel_rfl) rfl hA rfl (obj_pat1 (Nat.le_of_ble_eq_true rfl)) ?_
  repeat (first | refine Plan.move rfl rfl rfl rfl ?_ | refine Plan.assign rfl rfl rfl rfl ?_ | refine J.seq (J.region mixed hI (by kernel_rfl) ?_))
  exact J.ret (Nrm.retC1 (key := 1000) () rfl rfl rfl trivial (Sub.refl _) Ent.left)
theorem refsigned_fn {l : List UInt8} {β : Nat} {s : RS} (hs : okS l s) (hl : l.length ≤ 9223372036854775807) :
    SpcC Try.prog 61 [.ex (ptr β)] (rdC β (str l) s) (fun _ : Unit => True) (fun _ => .ex (vi (rSig l s).1)) (fun _ => rdC β (str l) (rSig l s).2) := by
  refine SpcC.intro2 Try.func61 rfl (Nat.le_of_ble_eq_true rfl) fun w1 F args hd hc => ?_
  have hI := kept_below F w1
  have hA := Own.kept F w1
  have hs1 := hs.1
  have hs2 := hs.2
  have hb := vTake_bd l s.1
  refine J.weak [(0, .ex (ptr β)), (1000, heap (fun b => F b ∨ w1.heap.size ≤ b) [rdC β (str l) s])] (Weak.cons rfl (Sub.refl _) (Weak.cons rfl (Sub.refl _) Weak.nil)) ?_
  repeat (first | refine Plan.move rfl rfl rfl rfl ?_ | refine Plan.assign rfl rfl rfl rfl ?_ | (refine Plan.ints rfl rfl rfl rfl rfl rfl ?_; (skip)) | refine Plan.nilOk rfl rfl rfl rfl ?_ | refine Plan.fieldC rfl rfl rfl rfl (by first | exact Try.underlying48 | exact Try.underlying105) rfl (by kernel_rfl) (by exact (rfl : _ = 2)) ?_ | refine Plan.loadC (key := 1000) (q := 0) rfl rfl rfl rfl rfl rfl (obj_reads1 rfl) (by exact Try.underlying3) (by rfl) (by decide) ?_ | refine J.seq (J.region mixed hI (by kernel_rfl) ?_) | refine J.seq (J.seq (J.region mixed hI (by kernel_rfl) ?_)))
  refine J.condN rfl (fun he => ?_) (fun he => ?_)
  · rw [rSig_err he]
    repeat (first | refine Plan.assign rfl rfl rfl rfl ?_ | refine J.seq (J.region mixed hI (by kernel_rfl) ?_))
    exact J.ret (Nrm.retC1 (key := 1000) () rfl rfl rfl trivial (Sub.refl _) Ent.left)
  have hz : s.2 = 0 := by omega
  have kT := ref_Take l s.1 (by omega) hl
  unfold takeResI at kT
  have eN : rSig l s = (zag (vTake l s.1).1, ((vTake l s.1).2.1, (vTake l s.1).2.2)) := if_neg (by omega)
  rw [eN]
  obtain ⟨sp, se⟩ := s
  simp only at hz hs1 hs2
  subst hz
  simp only at kT ⊢
  repeat (first | refine Plan.move rfl rfl rfl rfl ?_ | refine Plan.nilOk rfl rfl rfl rfl ?_ | refine Plan.fieldC rfl rfl rfl rfl (by first | exact Try.underlying48 | exact Try.underlying105) rfl (by kernel_rfl) (by first | exact (rfl : _ = 0) | exact (rfl : _ = 1)) ?_ | refine Plan.loadC (key := 1000) (q := 0) rfl rfl rfl rfl rfl rfl (obj_reads1 rfl) (by first | exact Try.underlying3 | exact Try.underlying9) (by rfl) (by decide) ?_ | refine J.seq (J.region mixed hI (by kernel_rfl) ?_) | refine J.skip ?_)
  refine Plan.call (B := 0) rfl rfl rfl kT Try.func79 rfl rfl (fun _ _ => Nat.zero_le _) (Opnds.cons rfl (Sub.refl _) (Opnds.cons rfl (Sub.refl _) Opnds.nil)) ?_
  repeat (first | refine Plan.move rfl rfl rfl rfl ?_ | refine Plan.assign rfl rfl rfl rfl ?_ | refine Plan.extract rfl rfl rfl rfl rfl ?_ | refine Plan.nilOk rfl rfl rfl rfl ?_ | refine Plan.fieldC rfl rfl rfl rfl (by first | exact Try.underlying48 | exact Try.underlying105) rfl (by kernel_rfl) (by exact (rfl : _ = 2)) ?_ | refine J.seq (J.region mixed hI (by kernel_rfl) ?_))
  refine Plan.storeC (key := 1000) (q := 0) rfl rfl rfl rfl rfl rfl (by simp [Value.cells, Value.oneCell', str]) (by kernel_rfl) rfl hA rfl (obj_pat1 (Nat.le_of_ble_eq_true rfl)) ?_
  repeat (first | refine Plan.move rfl rfl rfl rfl ?_ | refine Plan.nilOk rfl rfl rfl rfl ?_ | refine Plan.fieldC rfl rfl rfl rfl (by first | exact Try.underlying48 | exact Try.underlying105) rfl (by kernel_rfl) (by exact (rfl : _ = 1)) ?_ | refine J.seq (J.region mixed hI (by kernel_rfl) ?_))
  refine Plan.storeC (key := 1000) (q := 0) rfl rfl rfl rfl rfl rfl (by simp [Value.cells, Value.oneCell', str]) (by kernel_rfl) rfl hA rfl (obj_pat1 (Nat.le_of_ble_eq_true rfl)) ?_
  repeat (first | refine Plan.move rfl rfl rfl rfl ?_ | refine J.seq (J.region mixed hI (by kernel_rfl) ?_))
  refine Plan.call (B := 0) rfl rfl rfl (ref_Signed (vTake l sp).1 hb.1) Try.func81 rfl rfl (fun _ _ => Nat.zero_le _) (by repeat (first | exact Opnds.nil | refine Opnds.cons rfl (by exact Sub.refl _) ?_)) ?_
  repeat (refine Plan.assign rfl rfl rfl rfl ?_)
  exact J.ret (Nrm.retC1 (key := 1000) () rfl rfl rfl trivial (Sub.refl _) Ent.left)
end Go.Proofs.Ytepgphflnelpoaa
end

section
set_option linter.unusedSimpArgs false
set_option linter.unusedVariables false
set_option maxRecDepth 20000
namespace Go.Proofs.Ytepgphflnelpoaa
open Go.Free Go.RowKit Go.Proofs
set_option maxHeartbeats 4000000

def opL (k : Int) (a b c : List UInt8) (x r n : Int) : List Value := [vi k, str a, str b, str c, vi x, vi r, vi n]
def opV (l : List UInt8) (s : RS) : List Value := opL (oK l s) (oKey l s).1 (oField l s).1 (oValue l s).1 (oNum l s).1 (oRR l s).1 (oRN l s).1
def opZ : List Value := opL 0 [] [] [] 0 0 0
def opH (A : Nat → Prop) (β α γ δ : Nat) (v : Value) (k : Int) (s : RS) (cs : List Value) : Fa := heap A [rdC β v s, obj α opZ, obj γ cs, obj δ (partsV k)]
def opM (A : Nat → Prop) (β α γ δ : Nat) (v : Value) (k : Int) (s : RS) (cs : List Value) : Env := [(0, .ex (ptr β)), (2, .ex (ptr α)), (3, .ex (ptr γ)), (4, .ex (ptr δ)), (1000, opH A β α γ δ v k s cs)]
theorem opH_eq {A : Nat → Prop} {β α γ δ : Nat} {v : Value} {k : Int} {s s' : RS} {cs cs' : List Value} (h1 : s' = s) (h2 : cs' = cs) : heap A [rdC β v s', obj α opZ, obj γ cs', obj δ (partsV k)] = opH A β α γ δ v k s cs := by subst h1 h2; rfl
theorem op_fn {wO : World} {v : Value} {l : List UInt8} (hv : (bytesF l).den wO v) {β : Nat} (hβ : wO.heap.size ≤ β) {s : RS} (hs : okS l s) (hl : l.length ≤ 9223372036854775807) :
    SpcC Try.prog 71 [exIn wO (ptr β)] (rdC β v s) (fun _ : Unit => True) (fun _ => .ex (.agg (opV l s).toArray)) (fun _ => rdC β v (oRN l s).2) := by
  refine SpcC.intro2 Try.func71 rfl (Nat.le_of_ble_eq_true rfl) fun w1 F args hd hc => ?_
  have hB0 := exIn_below hd
  have hbe : ∀ w, Kept F w1 w → Below wO.heap.size wO w := fun w h => kept_beyond hB0 (fun b hb => by rw [(hc.2 b).1 hb]; exact hβ) h
  have hI := kept_below F w1
  have hA := Own.kept F w1
  refine J.weak [(0, .ex (ptr β)), (1000, heap (fun b => F b ∨ w1.heap.size ≤ b) [rdC β v s])] (Weak.cons rfl Sub.inEx (Weak.cons rfl (Sub.refl _) Weak.nil)) ?_
  repeat (refine J.seq (J.region mixed hI (by kernel_rfl) ?_))
  refine Plan.allocC (key := 1000) (z := .agg opZ.toArray) rfl rfl rfl (by intro _ e; cases e; decide) (by kernel_rfl) rfl hA fun α => ?_
  repeat (first | refine Plan.move rfl rfl rfl rfl ?_ | refine J.seq (J.region mixed hI (by kernel_rfl) ?_))
  refine Plan.callC (key := 1000) (q := 0) rfl rfl rfl (number_fn hv hβ hs hl) Try.func70 rfl rfl (by intro _ e; cases e; decide) (by repeat (first | exact Opnds.nil | refine Opnds.cons rfl (by exact Sub.exIn hbe) ?_)) rfl hA rfl ?_
  intro _ _
  refine Plan.build (cells := (opL (oK l s) [] [] [] 0 0 0).toArray) rfl rfl (ps := [(0, _)]) rfl (Parts.cons rfl Parts.nil) (by kernel_rfl) ?_
  refine Plan.allocC (key := 1000) (z := .agg opZ.toArray) rfl rfl rfl (by intro _ e; cases e; decide) (by kernel_rfl) rfl hA fun γ => ?_
  refine Plan.storeC (key := 1000) (q := 2) (off := 0) rfl rfl rfl rfl rfl rfl (by simp [Value.cells, Value.oneCell', opL, str]) (by show _ = some (opL (oK l s) [] [] [] 0 0 0).toArray.size; kernel_rfl) rfl hA rfl (obj_pat (Nat.le_of_ble_eq_true rfl)) ?_
  repeat (first | refine Plan.fieldC rfl rfl rfl rfl (by first | exact Try.underlying48 | exact Try.underlying46) rfl (by kernel_rfl) (by exact (rfl : _ = 0)) ?_ | refine Plan.loadC (key := 1000) (q := 2) rfl rfl rfl rfl rfl rfl (obj_reads1 rfl) (by exact Try.underlying3) (by rfl) (by decide) ?_ | refine J.seq (J.region mixed hI (by kernel_rfl) ?_))
  refine Plan.call (B := 0) rfl rfl rfl (uses_fn (oK l s)) Try.func75 rfl rfl (fun _ _ => Nat.zero_le _) (Opnds.cons rfl (Sub.refl _) Opnds.nil) ?_
  repeat (first | refine Plan.move rfl rfl rfl rfl ?_ | refine Plan.extract rfl rfl rfl rfl rfl ?_)
  refine Plan.allocC (key := 1000) (z := .agg #[.bool false, .bool false, .bool false, .bool false]) rfl rfl rfl (by intro _ e; cases e; decide) (by kernel_rfl) rfl hA fun δ => ?_
  refine Plan.storeC (key := 1000) (q := 3) (off := 0) rfl rfl rfl rfl rfl rfl (by simp [Value.cells, Value.oneCell', partsV]) (by show _ = some (partsV (oK l s)).toArray.size; kernel_rfl) rfl hA rfl (obj_pat (Nat.le_of_ble_eq_true rfl)) ?_
  repeat (refine Plan.assign rfl rfl rfl rfl ?_)
  refine J.seqMid (σ := Unit) (fun _ => opM (fun b => F b ∨ w1.heap.size ≤ b) β α γ δ v (oK l s) (oS1 l s) (opL (oK l s) [] [] [] 0 0 0)) (fun _ => True) ?_ fun _ _ => ?_
  · repeat (first | refine Plan.move rfl rfl rfl rfl ?_ | (refine Plan.ints rfl rfl rfl rfl rfl rfl ?_; (skip)) | refine Plan.nilOk rfl rfl rfl rfl ?_ | refine Plan.fieldC rfl rfl rfl rfl (by first | exact Try.underlying48 | exact Try.underlying116) rfl (by kernel_rfl) (by exact (rfl : _ = 2)) ?_ | refine Plan.loadC (key := 1000) (q := 0) rfl rfl rfl rfl rfl rfl (obj_reads1 rfl) (by exact Try.underlying3) (by rfl) (by decide) ?_ | refine J.seq (J.region mixed hI (by kernel_rfl) ?_))
    refine Plan.splitE (fun h1 => ?_) (fun h1 => ?_)
    · repeat (first | refine Plan.move rfl rfl rfl rfl ?_ | refine Plan.pick rfl rfl rfl rfl rfl ?_ | refine Plan.un rfl rfl rfl rfl rfl ?_)
      refine J.condND rfl (fun hk => ?_) (fun hk => ?_)
      · have e1 : oS1 l s = ((rNum l s).2.1, 3) := if_pos ⟨by omega, hk⟩
        repeat (first | refine Plan.move rfl rfl rfl rfl ?_ | refine Plan.nilOk rfl rfl rfl rfl ?_ | refine Plan.fieldC rfl rfl rfl rfl (by first | exact Try.underlying48 | exact Try.underlying116) rfl (by kernel_rfl) (by exact (rfl : _ = 2)) ?_ | refine J.region mixed hI (by kernel_rfl) ?_)
        refine Plan.storeC (key := 1000) (q := 0) rfl rfl rfl rfl rfl rfl (by simp [Value.cells, Value.oneCell', str]) (by kernel_rfl) rfl hA rfl (obj_pat1 (Nat.le_of_ble_eq_true rfl)) ?_
        repeat (fail)
        exact Nrm.mid () trivial (Weak.cons rfl (Sub.refl _) (Weak.cons rfl (Sub.refl _) (Weak.cons rfl (Sub.refl _) (Weak.cons rfl (Sub.refl _) (Weak.cons rfl (Sub.of_eq (by rw [e1] <;> rfl)) Weak.nil)))))
      · have e1 : oS1 l s = (rNum l s).2 := if_neg fun hh => hh.2 hk
        refine J.skip ?_
        exact Nrm.mid () trivial (Weak.cons rfl (Sub.refl _) (Weak.cons rfl (Sub.refl _) (Weak.cons rfl (Sub.refl _) (Weak.cons rfl (Sub.refl _) (Weak.cons rfl (Sub.of_eq (by rw [e1] <;> rfl)) Weak.nil)))))
    · have e1 : oS1 l s = (rNum l s).2 := if_neg fun hh => h1 (by omega)
      repeat (first | refine Plan.skip rfl rfl ?_ | refine Plan.pick rfl rfl rfl rfl rfl ?_ | refine J.condF rfl ?_ | refine J.skip ?_)
      exact Nrm.mid () trivial (Weak.cons rfl (Sub.refl _) (Weak.cons rfl (Sub.refl _) (Weak.cons rfl (Sub.refl _) (Weak.cons rfl (Sub.refl _) (Weak.cons rfl (Sub.of_eq (by rw [e1] <;> rfl)) Weak.nil)))))
  refine J.seqMid (σ := Unit) (fun _ => opM (fun b => F b ∨ w1.heap.size ≤ b) β α γ δ v (oK l s) (oKey l s).2 (opL (oK l s) (oKey l s).1 [] [] 0 0 0)) (fun _ => True) ?_ fun _ _ => ?_
  · repeat (first | refine Plan.move rfl rfl rfl rfl ?_ | refine J.region mixed hI (by kernel_rfl) ?_)
    refine Plan.callC (key := 1000) (q := 0) rfl rfl rfl (text_fn hv hβ (oS1_ok hs) hl) Try.func87 rfl rfl (by intro _ e; cases e; decide) (by repeat (first | exact Opnds.nil | refine Opnds.cons rfl (by exact Sub.exIn hbe) ?_)) rfl hA rfl ?_
    intro _ _
    repeat (refine Plan.fieldC rfl rfl rfl rfl (by first | exact Try.underlying48 | exact Try.underlying46) rfl (by kernel_rfl) (by exact (rfl : _ = 1)) ?_)
    refine Plan.storeC (key := 1000) (q := 2) rfl rfl rfl rfl rfl rfl (by simp [Value.cells, Value.oneCell', str]) (by kernel_rfl) rfl hA rfl (obj_pat1 (Nat.le_of_ble_eq_true rfl)) ?_
    repeat (fail)
    exact Nrm.mid () trivial (Weak.cons rfl (Sub.refl _) (Weak.cons rfl (Sub.refl _) (Weak.cons rfl (Sub.refl _) (Weak.cons rfl (Sub.refl _) (Weak.cons rfl (Sub.of_eq rfl) Weak.nil)))))
  refine J.seqMid (σ := Unit) (fun _ => opM (fun b => F b ∨ w1.heap.size ≤ b) β α γ δ v (oK l s) (oField l s).2 (opL (oK l s) (oKey l s).1 (oField l s).1 [] 0 0 0)) (fun _ => True) ?_ fun _ _ => ?_
  · repeat (first | refine Plan.fieldC rfl rfl rfl rfl (by first | exact Try.underlying48 | exact Try.underlying124) rfl (by kernel_rfl) (by exact (rfl : _ = 0)) ?_ | refine J.seq (J.region mixed hI (by kernel_rfl) ?_))
    refine Plan.loadC (key := 1000) (q := 3) rfl rfl rfl rfl rfl rfl (obj_reads1 rfl) Try.underlying4 rfl (by decide) ?_
    refine J.condD rfl (fun hf => ?_) (fun hf => ?_)
    · have hy : oField l s = _ := if_pos hf
      repeat (first | refine Plan.move rfl rfl rfl rfl ?_ | refine J.region mixed hI (by kernel_rfl) ?_)
      refine Plan.callC (key := 1000) (q := 0) rfl rfl rfl (text_fn hv hβ (oKey_ok hs).1 hl) Try.func87 rfl rfl (by intro _ e; cases e; decide) (by repeat (first | exact Opnds.nil | refine Opnds.cons rfl (by exact Sub.exIn hbe) ?_)) rfl hA rfl ?_
      intro _ _
      repeat (refine Plan.fieldC rfl rfl rfl rfl (by first | exact Try.underlying48 | exact Try.underlying46) rfl (by kernel_rfl) (by exact (rfl : _ = 2)) ?_)
      refine Plan.storeC (key := 1000) (q := 2) rfl rfl rfl rfl rfl rfl (by simp [Value.cells, Value.oneCell', str]) (by kernel_rfl) rfl hA rfl (obj_pat1 (Nat.le_of_ble_eq_true rfl)) ?_
      repeat (fail)
      exact Nrm.mid () trivial (Weak.cons rfl (Sub.refl _) (Weak.cons rfl (Sub.refl _) (Weak.cons rfl (Sub.refl _) (Weak.cons rfl (Sub.refl _) (Weak.cons rfl (Sub.of_eq (by rw [hy] <;> rfl)) Weak.nil)))))
    · have hn : oField l s = _ := if_neg hf
      refine J.skip ?_
      exact Nrm.mid () trivial (Weak.cons rfl (Sub.refl _) (Weak.cons rfl (Sub.refl _) (Weak.cons rfl (Sub.refl _) (Weak.cons rfl (Sub.refl _) (Weak.cons rfl (Sub.of_eq (by rw [hn] <;> rfl)) Weak.nil)))))
  refine J.seqMid (σ := Unit) (fun _ => opM (fun b => F b ∨ w1.heap.size ≤ b) β α γ δ v (oK l s) (oValue l s).2 (opL (oK l s) (oKey l s).1 (oField l s).1 (oValue l s).1 0 0 0)) (fun _ => True) ?_ fun _ _ => ?_
  · repeat (first | refine Plan.fieldC rfl rfl rfl rfl (by first | exact Try.underlying48 | exact Try.underlying124) rfl (by kernel_rfl) (by exact (rfl : _ = 1)) ?_ | refine J.seq (J.region mixed hI (by kernel_rfl) ?_))
    refine Plan.loadC (key := 1000) (q := 3) rfl rfl rfl rfl rfl rfl (obj_reads1 rfl) Try.underlying4 rfl (by decide) ?_
    refine J.condD rfl (fun hf => ?_) (fun hf => ?_)
    · have hy : oValue l s = _ := if_pos hf
      repeat (first | refine Plan.move rfl rfl rfl rfl ?_ | refine J.region mixed hI (by kernel_rfl) ?_)
      refine Plan.callC (key := 1000) (q := 0) rfl rfl rfl (text_fn hv hβ (oField_ok hs).1 hl) Try.func87 rfl rfl (by intro _ e; cases e; decide) (by repeat (first | exact Opnds.nil | refine Opnds.cons rfl (by exact Sub.exIn hbe) ?_)) rfl hA rfl ?_
      intro _ _
      repeat (refine Plan.fieldC rfl rfl rfl rfl (by first | exact Try.underlying48 | exact Try.underlying46) rfl (by kernel_rfl) (by exact (rfl : _ = 3)) ?_)
      refine Plan.storeC (key := 1000) (q := 2) rfl rfl rfl rfl rfl rfl (by simp [Value.cells, Value.oneCell', str]) (by kernel_rfl) rfl hA rfl (obj_pat1 (Nat.le_of_ble_eq_true rfl)) ?_
      repeat (fail)
      exact Nrm.mid () trivial (Weak.cons rfl (Sub.refl _) (Weak.cons rfl (Sub.refl _) (Weak.cons rfl (Sub.refl _) (Weak.cons rfl (Sub.refl _) (Weak.cons rfl (Sub.of_eq (by rw [hy] <;> rfl)) Weak.nil)))))
    · have hn : oValue l s = _ := if_neg hf
      refine J.skip ?_
      exact Nrm.mid () trivial (Weak.cons rfl (Sub.refl _) (Weak.cons rfl (Sub.refl _) (Weak.cons rfl (Sub.refl _) (Weak.cons rfl (Sub.refl _) (Weak.cons rfl (Sub.of_eq (by rw [hn] <;> rfl)) Weak.nil)))))
  refine J.seqMid (σ := Unit) (fun _ => opM (fun b => F b ∨ w1.heap.size ≤ b) β α γ δ v (oK l s) (oNum l s).2 (opL (oK l s) (oKey l s).1 (oField l s).1 (oValue l s).1 (oNum l s).1 0 0)) (fun _ => True) ?_ fun _ _ => ?_
  · repeat (first | refine Plan.fieldC rfl rfl rfl rfl (by first | exact Try.underlying48 | exact Try.underlying124) rfl (by kernel_rfl) (by exact (rfl : _ = 2)) ?_ | refine J.seq (J.region mixed hI (by kernel_rfl) ?_))
    refine Plan.loadC (key := 1000) (q := 3) rfl rfl rfl rfl rfl rfl (obj_reads1 rfl) Try.underlying4 rfl (by decide) ?_
    refine J.condD rfl (fun hf => ?_) (fun hf => ?_)
    · have hy : oNum l s = _ := if_pos hf
      repeat (first | refine Plan.move rfl rfl rfl rfl ?_ | refine J.region mixed hI (by kernel_rfl) ?_)
      refine Plan.callC (key := 1000) (q := 0) rfl rfl rfl (signed_fn hv hβ (oValue_ok hs).1 hl) Try.func88 rfl rfl (by intro _ e; cases e; decide) (by repeat (first | exact Opnds.nil | refine Opnds.cons rfl (by exact Sub.exIn hbe) ?_)) rfl hA rfl ?_
      intro _ _
      repeat (refine Plan.fieldC rfl rfl rfl rfl (by first | exact Try.underlying48 | exact Try.underlying46) rfl (by kernel_rfl) (by exact (rfl : _ = 4)) ?_)
      refine Plan.storeC (key := 1000) (q := 2) rfl rfl rfl rfl rfl rfl (by simp [Value.cells, Value.oneCell', str]) (by kernel_rfl) rfl hA rfl (obj_pat1 (Nat.le_of_ble_eq_true rfl)) ?_
      repeat (fail)
      exact Nrm.mid () trivial (Weak.cons rfl (Sub.refl _) (Weak.cons rfl (Sub.refl _) (Weak.cons rfl (Sub.refl _) (Weak.cons rfl (Sub.refl _) (Weak.cons rfl (Sub.of_eq (by rw [hy] <;> rfl)) Weak.nil)))))
    · have hn : oNum l s = _ := if_neg hf
      refine J.skip ?_
      exact Nrm.mid () trivial (Weak.cons rfl (Sub.refl _) (Weak.cons rfl (Sub.refl _) (Weak.cons rfl (Sub.refl _) (Weak.cons rfl (Sub.refl _) (Weak.cons rfl (Sub.of_eq (by rw [hn] <;> rfl)) Weak.nil)))))
  refine J.seqMid (σ := Unit) (fun _ => opM (fun b => F b ∨ w1.heap.size ≤ b) β α γ δ v (oK l s) (oRN l s).2 (opL (oK l s) (oKey l s).1 (oField l s).1 (oValue l s).1 (oNum l s).1 (oRR l s).1 (oRN l s).1)) (fun _ => True) ?_ fun _ _ => ?_
  · repeat (first | refine Plan.fieldC rfl rfl rfl rfl (by first | exact Try.underlying48 | exact Try.underlying124) rfl (by kernel_rfl) (by exact (rfl : _ = 3)) ?_ | refine J.seq (J.region mixed hI (by kernel_rfl) ?_))
    refine Plan.loadC (key := 1000) (q := 3) rfl rfl rfl rfl rfl rfl (obj_reads1 rfl) Try.underlying4 rfl (by decide) ?_
    refine J.condD rfl (fun hf => ?_) (fun hf => ?_)
    · have hy1 : oRR l s = _ := if_pos hf
      have hy2 : oRN l s = _ := if_pos hf
      have okr := (oRR_ok hs).1
      rw [hy1] at hy2 okr
      repeat (first | refine Plan.move rfl rfl rfl rfl ?_ | refine J.seq (J.region mixed hI (by kernel_rfl) ?_))
      refine Plan.callC (key := 1000) (q := 0) rfl rfl rfl (number_fn hv hβ (oNum_ok hs).1 hl) Try.func70 rfl rfl (by intro _ e; cases e; decide) (by repeat (first | exact Opnds.nil | refine Opnds.cons rfl (by exact Sub.exIn hbe) ?_)) rfl hA rfl ?_
      intro _ _
      repeat (refine Plan.fieldC rfl rfl rfl rfl (by first | exact Try.underlying48 | exact Try.underlying46 | exact Try.underlying42) rfl (by kernel_rfl) (by exact (rfl : _ = 5)) ?_)
      refine Plan.storeC (key := 1000) (q := 2) rfl rfl rfl rfl rfl rfl (by simp [Value.cells, Value.oneCell', str]) (by kernel_rfl) rfl hA rfl (obj_pat1 (Nat.le_of_ble_eq_true rfl)) ?_
      repeat (first | refine Plan.move rfl rfl rfl rfl ?_ | refine J.region mixed hI (by kernel_rfl) ?_)
      refine Plan.callC (key := 1000) (q := 0) rfl rfl rfl (number_fn hv hβ okr hl) Try.func70 rfl rfl (by intro _ e; cases e; decide) (by repeat (first | exact Opnds.nil | refine Opnds.cons rfl (by exact Sub.exIn hbe) ?_)) rfl hA rfl ?_
      intro _ _
      repeat (refine Plan.fieldC rfl rfl rfl rfl (by first | exact Try.underlying48 | exact Try.underlying46 | exact Try.underlying42) rfl (by kernel_rfl) (by first | exact (rfl : _ = 5) | exact (rfl : _ = 6)) ?_)
      refine Plan.storeC (key := 1000) (q := 2) rfl rfl rfl rfl rfl rfl (by simp [Value.cells, Value.oneCell', str]) (by kernel_rfl) rfl hA rfl (obj_pat1 (Nat.le_of_ble_eq_true rfl)) ?_
      repeat (fail)
      exact Nrm.mid () trivial (Weak.cons rfl (Sub.refl _) (Weak.cons rfl (Sub.refl _) (Weak.cons rfl (Sub.refl _) (Weak.cons rfl (Sub.refl _) (Weak.cons rfl (Sub.of_eq (by rw [hy2, hy1] <;> rfl)) Weak.nil)))))
    · have hn1 : oRR l s = _ := if_neg hf
      have hn2 : oRN l s = _ := if_neg hf
      rw [hn1] at hn2
      refine J.skip ?_
      exact Nrm.mid () trivial (Weak.cons rfl (Sub.refl _) (Weak.cons rfl (Sub.refl _) (Weak.cons rfl (Sub.refl _) (Weak.cons rfl (Sub.refl _) (Weak.cons rfl (Sub.of_eq (by rw [hn2, hn1] <;> rfl)) Weak.nil)))))
  repeat (refine J.seq (J.region mixed hI (by kernel_rfl) ?_))
  refine Plan.loadAggC (key := 1000) (q := 2) (vs := opV l s) rfl rfl rfl rfl rfl rfl obj_whole Try.underlying46 rfl (by kernel_rfl) (by decide) ?_
  refine Plan.storeC (key := 1000) (q := 1) (off := 0) rfl rfl rfl rfl rfl rfl (by simp [Value.cells, Value.oneCell', opV, opL, str]) (by show _ = some (opV l s).toArray.size; kernel_rfl) rfl hA rfl (obj_pat (Nat.le_of_ble_eq_true rfl)) ?_
  repeat (fail)
  exact J.ret (Nrm.retCc (key := 1000) (q := 1) () rfl rfl rfl rfl obj_whole Try.underlying46 rfl (by kernel_rfl) trivial rfl Ent.left)
end Go.Proofs.Ytepgphflnelpoaa
end
