/-
  vlq.TakeText and its reference return what the plain function says; the laws' awake returns true.
-/
import Derived.Test.YthjneijkapopoaaVlqRef2
set_option linter.unusedSimpArgs false
set_option linter.unusedVariables false
set_option maxRecDepth 20000
namespace Go.Proofs.Ythjneijkapopoaa
open Go.Free Go.RowKit Go.Proofs

def vText (l : List UInt8) (p most : Int) : List UInt8 × Nat × Nat :=
  if most < 0 then ([], 0, 1)
  else if (vTake l p).2.2 ≠ 0 then ([], 0, (vTake l p).2.2)
  else if most < (vTake l p).1 then ([], 0, 4)
  else if l.length - (vTake l p).2.1 < (vTake l p).1 then ([], 0, 2)
  else ((l.drop (vTake l p).2.1).take (vTake l p).1, (vTake l p).2.1 + (vTake l p).1, 0)
def textRes (l : List UInt8) (p most : Int) : Fa := .tup [.ex (str (vText l p most).1), .ex (.int .i64 (vText l p most).2.1), .ex (.int .i64 (vText l p most).2.2)]

theorem vlq_TakeText (l : List UInt8) (p most : Int) (hp : -9223372036854775808 ≤ p ∧ p ≤ 9223372036854775807) (hmost : -9223372036854775808 ≤ most ∧ most ≤ 9223372036854775807) (hl : l.length ≤ 9223372036854775807) :
    Spc Try.prog 68 [bytesF l, .ex (.int .i64 p), .ex (.int .i64 most)] fun _ => textRes l p most := by
  refine Spc.intro Try.func68 rfl (Nat.le_of_ble_eq_true rfl) fun w0 => ?_
  have hI := hIb w0
  obtain ⟨hb1, hb2, hb3, hb4, hb5⟩ := vTake_bd l p
  refine J.seq (J.region mixed hI (by kernel_rfl) ?_)
  repeat (refine Plan.assign rfl rfl rfl rfl ?_)
  refine J.seq (J.seq (J.region mixed hI (by kernel_rfl) ?_))
  repeat (first | refine Plan.move rfl rfl rfl rfl ?_ | refine Plan.ints rfl rfl rfl rfl rfl rfl ?_)
  refine J.cond rfl (fun hc => ?_) (fun hc => ?_)
  · have h0 : most < 0 := of_decide_eq_true hc
    have hv : vText l p most = ([], 0, 1) := by unfold vText; rw [if_pos h0]
    refine J.seq (J.region mixed hI (by kernel_rfl) ?_)
    repeat (refine Plan.assign rfl rfl rfl rfl ?_)
    exact J.ret (Nrm.ret3 rfl (fun _ h => h) fun B _ => ⟨_, rfl, Ress.cons rfl (Sub.of_eq (by rw [hv]; rfl)) (Ress.cons rfl (Sub.of_eq (by rw [hv]; rfl)) (Ress.cons rfl (Sub.of_eq (by rw [hv]; rfl)) Ress.nil))⟩)
  have h0 : ¬ most < 0 := of_decide_eq_false hc
  refine J.skip ?_
  refine J.seq (J.region mixed hI (by kernel_rfl) ?_)
  repeat (refine Plan.move rfl rfl rfl rfl ?_)
  refine Plan.call (B := 0) (R := fun _ => takeRes l p) rfl rfl rfl (vlq_Take l p hp hl) Try.func61 rfl rfl (fun _ _ => Nat.zero_le _) (Opnds.cons rfl (Sub.old fun _ h => h) (Opnds.cons rfl (Sub.refl _) Opnds.nil)) ?_
  repeat (first | refine Plan.move rfl rfl rfl rfl ?_ | refine Plan.assign rfl rfl rfl rfl ?_ | refine Plan.extract rfl rfl rfl rfl rfl ?_)
  refine J.seqMid (fun _ : Unit => [(0, .old w0 (bytesF l)), (2, .ex (.int .i64 most)), (9, .ex (.int .u64 (vTake l p).1)), (10, .ex (.int .i64 (vTake l p).2.1))]) (fun _ => (vTake l p).2.2 = 0 ∧ ¬ most < (vTake l p).1 ∧ ¬ l.length - (vTake l p).2.1 < (vTake l p).1) ?_ ?_
  · refine J.block ?_
    refine J.seq (J.region mixed hI (by kernel_rfl) ?_)
    repeat (first | refine Plan.move rfl rfl rfl rfl ?_ | refine Plan.assign rfl rfl rfl rfl ?_ | refine Plan.ints rfl rfl rfl rfl rfl rfl ?_)
    refine J.cond rfl (fun he => ?_) (fun he => ?_)
    · have he' : (vTake l p).2.2 ≠ 0 := by intro e; rw [e] at he; simp at he
      have hv : vText l p most = ([], 0, (vTake l p).2.2) := by unfold vText; rw [if_neg h0, if_pos he']
      refine J.seq (J.region mixed hI (by kernel_rfl) ?_)
      repeat (first | refine Plan.move rfl rfl rfl rfl ?_ | refine Plan.assign rfl rfl rfl rfl ?_)
      exact J.ret (Nrm.ret3 rfl (fun _ h => h) fun B _ => ⟨_, rfl, Ress.cons rfl (Sub.of_eq (by rw [hv]; rfl)) (Ress.cons rfl (Sub.of_eq (by rw [hv]; rfl)) (Ress.cons rfl (Sub.of_eq (by rw [hv])) Ress.nil))⟩)
    have he' : (vTake l p).2.2 = 0 := by
      by_cases hz : (vTake l p).2.2 = 0
      · exact hz
      · exact absurd he (by simp; omega)
    refine J.seq (J.region mixed hI (by kernel_rfl) ?_)
    repeat (refine Plan.move rfl rfl rfl rfl ?_)
    refine Plan.convInt rfl rfl rfl rfl Try.underlying3 Try.underlying59 ?_
    refine Plan.int (y := most) (by rw [IntKind.wrap_u64]; omega) ?_
    repeat (first | refine Plan.assign rfl rfl rfl rfl ?_ | refine Plan.ints rfl rfl rfl rfl rfl rfl ?_)
    refine J.cond rfl (fun h4 => ?_) (fun h4 => ?_)
    · have h4' : most < (vTake l p).1 := of_decide_eq_true h4
      have hv : vText l p most = ([], 0, 4) := by unfold vText; rw [if_neg h0, if_neg (by omega), if_pos h4']
      refine J.seq (J.region mixed hI (by kernel_rfl) ?_)
      repeat (refine Plan.assign rfl rfl rfl rfl ?_)
      exact J.ret (Nrm.ret3 rfl (fun _ h => h) fun B _ => ⟨_, rfl, Ress.cons rfl (Sub.of_eq (by rw [hv]; rfl)) (Ress.cons rfl (Sub.of_eq (by rw [hv]; rfl)) (Ress.cons rfl (Sub.of_eq (by rw [hv]; rfl)) Ress.nil))⟩)
    have h4' : ¬ most < (vTake l p).1 := of_decide_eq_false h4
    refine J.seq (J.region mixed hI (by kernel_rfl) ?_)
    repeat (refine Plan.move rfl rfl rfl rfl ?_)
    refine Plan.lenRow rfl rfl rfl rfl (Sub.old fun _ h => h) Try.underlying40 (m := l.length) (by simp [bs]) (by decide) ?_
    refine Plan.move rfl rfl rfl rfl ?_
    refine Plan.ints rfl rfl rfl rfl rfl rfl ?_
    refine Plan.int (y := ((l.length - (vTake l p).2.1 : Nat) : Int)) (by rw [i64r (by omega)]; omega) ?_
    refine Plan.convInt rfl rfl rfl rfl Try.underlying3 Try.underlying59 ?_
    refine Plan.int (u64n (by omega)) ?_
    repeat (first | refine Plan.assign rfl rfl rfl rfl ?_ | refine Plan.ints rfl rfl rfl rfl rfl rfl ?_)
    refine J.cond rfl (fun h5 => ?_) (fun h5 => ?_)
    · have h5' : l.length - (vTake l p).2.1 < (vTake l p).1 := by
        have : ((l.length - (vTake l p).2.1 : Nat) : Int) < (vTake l p).1 := of_decide_eq_true h5
        omega
      have hv : vText l p most = ([], 0, 2) := by unfold vText; rw [if_neg h0, if_neg (by omega), if_neg h4', if_pos h5']
      refine J.seq (J.region mixed hI (by kernel_rfl) ?_)
      repeat (refine Plan.assign rfl rfl rfl rfl ?_)
      exact J.ret (Nrm.ret3 rfl (fun _ h => h) fun B _ => ⟨_, rfl, Ress.cons rfl (Sub.of_eq (by rw [hv]; rfl)) (Ress.cons rfl (Sub.of_eq (by rw [hv]; rfl)) (Ress.cons rfl (Sub.of_eq (by rw [hv]; rfl)) Ress.nil))⟩)
    have h5' : ¬ l.length - (vTake l p).2.1 < (vTake l p).1 := by
      have : ¬ ((l.length - (vTake l p).2.1 : Nat) : Int) < (vTake l p).1 := of_decide_eq_false h5
      omega
    refine J.skip ?_
    exact Nrm.mid () ⟨he', h4', h5'⟩ (Weak.cons rfl (Sub.refl _) (Weak.cons rfl (Sub.refl _) (Weak.cons rfl (Sub.refl _) (Weak.cons rfl (Sub.refl _) Weak.nil))))
  rintro _ ⟨he', h4', h5'⟩
  have hv : vText l p most = ((l.drop (vTake l p).2.1).take (vTake l p).1, (vTake l p).2.1 + (vTake l p).1, 0) := by unfold vText; rw [if_neg h0, if_neg (by omega), if_neg h4', if_neg h5']
  refine J.seq (J.region mixed hI (by kernel_rfl) ?_)
  repeat (refine Plan.move rfl rfl rfl rfl ?_)
  refine Plan.convInt rfl rfl rfl rfl Try.underlying59 Try.underlying3 ?_
  refine Plan.int (i64r (by omega)) ?_
  refine Plan.ints rfl rfl rfl rfl rfl rfl ?_
  refine Plan.int (y := (((vTake l p).2.1 + (vTake l p).1 : Nat) : Int)) (by rw [i64r (by omega)]; omega) ?_
  refine Plan.sliceRow (m := l.length) (a0 := (vTake l p).2.1) (b0 := (vTake l p).2.1 + (vTake l p).1) rfl rfl rfl rfl (Sub.old fun _ h => h) eltB (by simp [bs]) (.inr ⟨_, _, rfl, rfl⟩) (.inr ⟨_, _, rfl, rfl⟩) (by omega) (by omega) ?_
  refine Plan.convBS (p := (l.drop (vTake l p).2.1).take (vTake l p).1) rfl rfl rfl rfl (Sub.of_eq (by
    simp only [bytesF, bs, Nat.mul_one, ← List.map_take, ← List.map_drop]
    rw [List.drop_take, Nat.add_sub_cancel_left])) Try.underlying40 Try.underlying9 Try.underlying5 ?_
  repeat (refine Plan.move rfl rfl rfl rfl ?_)
  refine Plan.convInt rfl rfl rfl rfl Try.underlying59 Try.underlying3 ?_
  refine Plan.int (i64r (by omega)) ?_
  refine Plan.ints rfl rfl rfl rfl rfl rfl ?_
  refine Plan.int (y := (((vTake l p).2.1 + (vTake l p).1 : Nat) : Int)) (by rw [i64r (by omega)]; omega) ?_
  repeat (refine Plan.assign rfl rfl rfl rfl ?_)
  exact J.ret (Nrm.ret3 rfl (fun _ h => h) fun B _ => ⟨_, rfl, Ress.cons rfl (Sub.of_eq (by rw [hv])) (Ress.cons rfl (Sub.of_eq (by rw [hv])) (Ress.cons rfl (Sub.of_eq (by rw [hv]; rfl)) Ress.nil))⟩)

theorem ref_TakeText (l : List UInt8) (p most : Int) (hp : -9223372036854775808 ≤ p ∧ p ≤ 9223372036854775807) (hmost : -9223372036854775808 ≤ most ∧ most ≤ 9223372036854775807) (hl : l.length ≤ 9223372036854775807) :
    Spc Try.prog 65 [.ex (str l), .ex (.int .i64 p), .ex (.int .i64 most)] fun _ => textRes l p most := by
  refine Spc.intro Try.func65 rfl (Nat.le_of_ble_eq_true rfl) fun w0 => ?_
  have hI := hIb w0
  obtain ⟨hb1, hb2, hb3, hb4, hb5⟩ := vTake_bd l p
  refine J.seq (J.region mixed hI (by kernel_rfl) ?_)
  repeat (refine Plan.assign rfl rfl rfl rfl ?_)
  refine J.seq (J.seq (J.region mixed hI (by kernel_rfl) ?_))
  repeat (first | refine Plan.move rfl rfl rfl rfl ?_ | refine Plan.ints rfl rfl rfl rfl rfl rfl ?_)
  refine J.cond rfl (fun hc => ?_) (fun hc => ?_)
  · have h0 : most < 0 := of_decide_eq_true hc
    have hv : vText l p most = ([], 0, 1) := by unfold vText; rw [if_pos h0]
    refine J.seq (J.region mixed hI (by kernel_rfl) ?_)
    repeat (refine Plan.assign rfl rfl rfl rfl ?_)
    exact J.ret (Nrm.ret3 rfl (fun _ h => h) fun B _ => ⟨_, rfl, Ress.cons rfl (Sub.of_eq (by rw [hv]; rfl)) (Ress.cons rfl (Sub.of_eq (by rw [hv]; rfl)) (Ress.cons rfl (Sub.of_eq (by rw [hv]; rfl)) Ress.nil))⟩)
  have h0 : ¬ most < 0 := of_decide_eq_false hc
  refine J.skip ?_
  refine J.seq (J.region mixed hI (by kernel_rfl) ?_)
  repeat (refine Plan.move rfl rfl rfl rfl ?_)
  refine Plan.call (B := 0) (R := fun _ => takeResI l p) rfl rfl rfl (ref_Take l p hp hl) Try.func64 rfl rfl (fun _ _ => Nat.zero_le _) (Opnds.cons rfl (Sub.refl _) (Opnds.cons rfl (Sub.refl _) Opnds.nil)) ?_
  repeat (first | refine Plan.move rfl rfl rfl rfl ?_ | refine Plan.assign rfl rfl rfl rfl ?_ | refine Plan.extract rfl rfl rfl rfl rfl ?_)
  refine J.seq (J.seq (J.region mixed hI (by kernel_rfl) ?_))
  repeat (first | refine Plan.move rfl rfl rfl rfl ?_ | refine Plan.ints rfl rfl rfl rfl rfl rfl ?_)
  refine J.cond rfl (fun he => ?_) (fun he => ?_)
  · have he' : (vTake l p).2.2 ≠ 0 := by intro e; rw [e] at he; simp at he
    have hv : vText l p most = ([], 0, (vTake l p).2.2) := by unfold vText; rw [if_neg h0, if_pos he']
    refine J.seq (J.region mixed hI (by kernel_rfl) ?_)
    repeat (first | refine Plan.move rfl rfl rfl rfl ?_ | refine Plan.assign rfl rfl rfl rfl ?_)
    exact J.ret (Nrm.ret3 rfl (fun _ h => h) fun B _ => ⟨_, rfl, Ress.cons rfl (Sub.of_eq (by rw [hv]; rfl)) (Ress.cons rfl (Sub.of_eq (by rw [hv]; rfl)) (Ress.cons rfl (Sub.of_eq (by rw [hv])) Ress.nil))⟩)
  have he' : (vTake l p).2.2 = 0 := by
    by_cases hz : (vTake l p).2.2 = 0
    · exact hz
    · exact absurd he (by simp; omega)
  refine J.skip ?_
  refine J.seq (J.seq (J.region mixed hI (by kernel_rfl) ?_))
  repeat (refine Plan.move rfl rfl rfl rfl ?_)
  refine Plan.convInt rfl rfl rfl rfl Try.underlying3 Try.underlying59 ?_
  refine Plan.int (y := most) (by rw [IntKind.wrap_u64]; omega) ?_
  repeat (refine Plan.ints rfl rfl rfl rfl rfl rfl ?_)
  refine J.cond rfl (fun h4 => ?_) (fun h4 => ?_)
  · have h4' : most < (vTake l p).1 := of_decide_eq_true h4
    have hv : vText l p most = ([], 0, 4) := by unfold vText; rw [if_neg h0, if_neg (by omega), if_pos h4']
    refine J.seq (J.region mixed hI (by kernel_rfl) ?_)
    repeat (refine Plan.assign rfl rfl rfl rfl ?_)
    exact J.ret (Nrm.ret3 rfl (fun _ h => h) fun B _ => ⟨_, rfl, Ress.cons rfl (Sub.of_eq (by rw [hv]; rfl)) (Ress.cons rfl (Sub.of_eq (by rw [hv]; rfl)) (Ress.cons rfl (Sub.of_eq (by rw [hv]; rfl)) Ress.nil))⟩)
  have h4' : ¬ most < (vTake l p).1 := of_decide_eq_false h4
  refine J.skip ?_
  refine J.seq (J.seq (J.region mixed hI (by kernel_rfl) ?_))
  refine Plan.move rfl rfl rfl rfl ?_
  refine Plan.lenStr rfl rfl rfl rfl Try.underlying9 ?_
  refine Plan.move rfl rfl rfl rfl ?_
  refine Plan.ints rfl rfl rfl rfl rfl rfl ?_
  refine Plan.int (y := ((l.length - (vTake l p).2.1 : Nat) : Int)) (by rw [i64r (by omega)]; omega) ?_
  refine Plan.convInt rfl rfl rfl rfl Try.underlying3 Try.underlying59 ?_
  refine Plan.int (u64n (by omega)) ?_
  repeat (first | refine Plan.move rfl rfl rfl rfl ?_ | refine Plan.ints rfl rfl rfl rfl rfl rfl ?_)
  refine J.cond rfl (fun h5 => ?_) (fun h5 => ?_)
  · have h5' : l.length - (vTake l p).2.1 < (vTake l p).1 := by
      have : ((l.length - (vTake l p).2.1 : Nat) : Int) < (vTake l p).1 := of_decide_eq_true h5
      omega
    have hv : vText l p most = ([], 0, 2) := by unfold vText; rw [if_neg h0, if_neg (by omega), if_neg h4', if_pos h5']
    refine J.seq (J.region mixed hI (by kernel_rfl) ?_)
    repeat (refine Plan.assign rfl rfl rfl rfl ?_)
    exact J.ret (Nrm.ret3 rfl (fun _ h => h) fun B _ => ⟨_, rfl, Ress.cons rfl (Sub.of_eq (by rw [hv]; rfl)) (Ress.cons rfl (Sub.of_eq (by rw [hv]; rfl)) (Ress.cons rfl (Sub.of_eq (by rw [hv]; rfl)) Ress.nil))⟩)
  have h5' : ¬ l.length - (vTake l p).2.1 < (vTake l p).1 := by
    have : ¬ ((l.length - (vTake l p).2.1 : Nat) : Int) < (vTake l p).1 := of_decide_eq_false h5
    omega
  refine J.skip ?_
  have hv : vText l p most = ((l.drop (vTake l p).2.1).take (vTake l p).1, (vTake l p).2.1 + (vTake l p).1, 0) := by unfold vText; rw [if_neg h0, if_neg (by omega), if_neg h4', if_neg h5']
  refine J.seq (J.region mixed hI (by kernel_rfl) ?_)
  repeat (refine Plan.move rfl rfl rfl rfl ?_)
  refine Plan.convInt rfl rfl rfl rfl Try.underlying59 Try.underlying3 ?_
  refine Plan.int (i64r (by omega)) ?_
  refine Plan.ints rfl rfl rfl rfl rfl rfl ?_
  refine Plan.int (y := (((vTake l p).2.1 + (vTake l p).1 : Nat) : Int)) (by rw [i64r (by omega)]; omega) ?_
  refine Plan.sliceStr (a0 := (vTake l p).2.1) (b0 := (vTake l p).2.1 + (vTake l p).1) rfl rfl rfl rfl Try.underlying9 (.inr ⟨_, _, rfl, rfl⟩) (.inr ⟨_, _, rfl, rfl⟩) (by omega) (by omega) ?_
  repeat (refine Plan.move rfl rfl rfl rfl ?_)
  refine Plan.convInt rfl rfl rfl rfl Try.underlying59 Try.underlying3 ?_
  refine Plan.int (i64r (by omega)) ?_
  refine Plan.ints rfl rfl rfl rfl rfl rfl ?_
  refine Plan.int (y := (((vTake l p).2.1 + (vTake l p).1 : Nat) : Int)) (by rw [i64r (by omega)]; omega) ?_
  repeat (refine Plan.assign rfl rfl rfl rfl ?_)
  exact J.ret (Nrm.ret3 rfl (fun _ h => h) fun B _ => ⟨_, rfl, Ress.cons rfl (Sub.of_eq (by rw [hv, List.drop_take, Nat.add_sub_cancel_left])) (Ress.cons rfl (Sub.of_eq (by rw [hv])) (Ress.cons rfl (Sub.of_eq (by rw [hv]; rfl)) Ress.nil))⟩)

theorem num300 : num 300 = [130, 44] := by
  unfold num
  rw [numHi_pos (by decide), show 300 / 128 / 128 = 0 from rfl, numHi_zero]
  rfl

end Go.Proofs.Ythjneijkapopoaa
