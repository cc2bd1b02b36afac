/-
  vlq.Take, and the reference that takes, return what the plain function says, at any place of any bytes.
-/
import Derived.Test.YthjneijkapopoaaVlqFns
set_option linter.unusedSimpArgs false
set_option linter.unusedVariables false
set_option maxRecDepth 20000
namespace Go.Proofs.Ythjneijkapopoaa
open Go.Free Go.RowKit Go.Proofs

theorem mk_u64 (n c : Nat) (hn : n < 2 ^ 57) (hc : c < 128) : IntKind.u64.wrap ((BitVec.ofInt IntKind.u64.bits ((n * 128 : Nat) : Int) ||| BitVec.ofInt IntKind.u64.bits (c : Int)).toNat : Int) = ((n * 128 + c : Nat) : Int) := by
  have h : (BitVec.ofInt IntKind.u64.bits ((n * 128 : Nat) : Int) ||| BitVec.ofInt IntKind.u64.bits (c : Int)).toNat = n * 128 + c := by
    show (BitVec.ofInt 64 ((n * 128 : Nat) : Int) ||| BitVec.ofInt 64 (c : Int)).toNat = _
    rw [BitVec.toNat_or, ofInt_u64 _ (by omega), ofInt_u64 _ (by omega)]
    have := Nat.shiftLeft_add_eq_or_of_lt (a := n) (b := c) (i := 7) (by omega)
    rw [Nat.shiftLeft_eq] at this
    exact this.symm
  rw [h, u64n (by omega)]
theorem and127n (c : UInt8) : IntKind.u8.wrap ((BitVec.ofInt IntKind.u8.bits (c.toNat : Int) &&& BitVec.ofInt IntKind.u8.bits 127).toNat : Int) = ((c.toNat % 128 : Nat) : Int) := by
  have h := and127 c.toNat
  rw [w8, lastD_nat] at h
  exact h

/-- One step of taking. -/
theorem takeL_at (l : List UInt8) (n i : Nat) (h : i < l.length) : takeL n i (l.drop i) =
    if i = 0 ∧ l.getD i 0 = 128 then (0, 0, 3) else if 144115188075855872 ≤ n then (0, 0, 4)
    else if (l.getD i 0).toNat < 128 then (n * 128 + (l.getD i 0).toNat % 128, i + 1, 0) else takeL (n * 128 + (l.getD i 0).toNat % 128) (i + 1) (l.drop (i + 1)) := by
  have hg : l.getD i 0 = l[i] := by simp [List.getD_eq_getElem?_getD, List.getElem?_eq_getElem h]
  rw [List.drop_eq_getElem_cons h, hg]
  rfl

def errRes (e : Nat) : Fa := .tup [.ex (.int .u64 0), .ex (.int .i64 0), .ex (.int .i64 e)]
def takeRes (l : List UInt8) (p : Int) : Fa := .tup [.ex (.int .u64 (vTake l p).1), .ex (.int .i64 (vTake l p).2.1), .ex (.int .i64 (vTake l p).2.2)]
def tkEnv (w0 : World) (l : List UInt8) (p : Int) (s : Nat × Nat) : Env :=
  [(0, .old w0 (bytesF l)), (1, .ex (.int .i64 p)), (7, .ex (.int .u64 s.1)), (20, bytesF (l.drop p.toNat)), (21, .ex (.int .i64 (l.drop p.toNat).length)), (22, .ex (.int .i64 s.2))]

theorem vlq_Take (l : List UInt8) (p : Int) (hp : -9223372036854775808 ≤ p ∧ p ≤ 9223372036854775807) (hl : l.length ≤ 9223372036854775807) : Spc Try.prog 61 [bytesF l, .ex (.int .i64 p)] fun _ => takeRes l p := by
  refine Spc.intro Try.func61 rfl (Nat.le_of_ble_eq_true rfl) fun w0 => ?_
  have hI := hIb w0
  refine J.seq (J.region mixed hI (by kernel_rfl) ?_)
  repeat (refine Plan.assign rfl rfl rfl rfl ?_)
  refine J.seq (J.seq (J.region mixed hI (by kernel_rfl) ?_))
  refine Plan.move rfl rfl rfl rfl ?_
  refine Plan.ints rfl rfl rfl rfl rfl rfl ?_
  by_cases h0 : p < 0
  · have hv : vTake l p = (0, 0, 1) := by unfold vTake; rw [if_pos (.inl h0)]
    refine Plan.boolv (y := true) (by simp; omega) ?_
    repeat (first | refine Plan.move rfl rfl rfl rfl ?_ | refine Plan.skip rfl rfl ?_ | refine Plan.pick rfl rfl rfl rfl rfl ?_)
    refine J.cond rfl (fun _ => ?_) (fun h => by cases h)
    refine J.seq (J.region mixed hI (by kernel_rfl) ?_)
    repeat (refine Plan.assign rfl rfl rfl rfl ?_)
    refine J.ret (Nrm.ret3 rfl (fun _ h => h) fun B _ => ⟨_, rfl, Ress.cons rfl (Sub.of_eq (by rw [hv]; rfl)) (Ress.cons rfl (Sub.of_eq (by rw [hv]; rfl)) (Ress.cons rfl (Sub.of_eq (by rw [hv]; rfl)) Ress.nil))⟩)
  refine Plan.boolv (y := false) (by simp; omega) ?_
  repeat (refine Plan.move rfl rfl rfl rfl ?_)
  refine Plan.lenRow rfl rfl rfl rfl (Sub.old fun _ h => h) Try.underlying40 (m := l.length) (by simp [bs]) (by decide) ?_
  refine Plan.ints rfl rfl rfl rfl rfl rfl ?_
  by_cases h1 : (l.length : Int) < p
  · have hv : vTake l p = (0, 0, 1) := by unfold vTake; rw [if_pos (.inr h1)]
    refine Plan.boolv (y := true) (by simp; omega) ?_
    repeat (refine Plan.pick rfl rfl rfl rfl rfl ?_)
    refine J.cond rfl (fun _ => ?_) (fun h => by cases h)
    refine J.seq (J.region mixed hI (by kernel_rfl) ?_)
    repeat (refine Plan.assign rfl rfl rfl rfl ?_)
    refine J.ret (Nrm.ret3 rfl (fun _ h => h) fun B _ => ⟨_, rfl, Ress.cons rfl (Sub.of_eq (by rw [hv]; rfl)) (Ress.cons rfl (Sub.of_eq (by rw [hv]; rfl)) (Ress.cons rfl (Sub.of_eq (by rw [hv]; rfl)) Ress.nil))⟩)
  refine Plan.boolv (y := false) (by simp; omega) ?_
  repeat (refine Plan.pick rfl rfl rfl rfl rfl ?_)
  refine J.cond rfl (fun h => by cases h) (fun _ => ?_)
  have hlen : (l.drop p.toNat).length = l.length - p.toNat := List.length_drop
  refine J.skip ?_
  refine J.seq (J.region mixed hI (by kernel_rfl) ?_)
  repeat (refine Plan.assign rfl rfl rfl rfl ?_)
  refine J.seq (J.seq (J.region mixed hI (by kernel_rfl) ?_))
  refine Plan.move rfl rfl rfl rfl ?_
  refine Plan.move rfl rfl rfl rfl ?_
  refine Plan.int (y := ((p.toNat : Nat) : Int)) (by omega) ?_
  refine Plan.sliceRow (m := l.length) (a0 := p.toNat) (b0 := l.length) rfl rfl rfl rfl (Sub.old fun _ h => h) eltB (by simp [bs]) (.inr ⟨_, _, rfl, rfl⟩) (.inl ⟨rfl, rfl⟩) (by omega) (Nat.le_refl _) ?_
  have hrow : ((bs l).take (l.length * 1)).drop (p.toNat * 1) = bs (l.drop p.toNat) := by
    rw [Nat.mul_one, Nat.mul_one, ← bs_length l, List.take_length]; simp [bs, List.map_drop]
  rw [hrow]
  refine Plan.lenRow rfl rfl rfl rfl (Sub.refl _) Try.underlying40 (m := (l.drop p.toNat).length) (by simp [bs]) (by decide) ?_
  repeat (refine Plan.move rfl rfl rfl rfl ?_)
  refine J.block (J.loop (tkEnv w0 l p) (fun s => s.2 ≤ (l.drop p.toNat).length ∧ s.1 < 2 ^ 64 ∧ takeL 0 0 (l.drop p.toNat) = takeL s.1 s.2 ((l.drop p.toNat).drop s.2)) (fun s => (l.drop p.toNat).length - s.2) (0, 0) ⟨Nat.zero_le _, by decide, rfl⟩ ?_ ?_)
  · exact Weak.cons rfl (Sub.refl _) (Weak.cons rfl (Sub.refl _) (Weak.cons rfl (Sub.refl _) (Weak.cons rfl (Sub.refl _) (Weak.cons rfl (Sub.refl _) (Weak.cons rfl (Sub.refl _) Weak.nil)))))
  rintro ⟨m, i⟩ ⟨hi, hm, ht⟩
  simp only at hi hm ht
  have hnn : ¬ (p < 0 ∨ (l.length : Int) < p) := by omega
  refine J.seq (J.region mixed hI (by kernel_rfl) ?_)
  repeat (refine Plan.ints rfl rfl rfl rfl rfl rfl ?_)
  refine J.seq (J.cond rfl (fun hc => ?_) (fun hc => ?_))
  · have hlt : i < (l.drop p.toNat).length := by simpa using hc
    rw [takeL_at _ _ _ hlt] at ht
    obtain ⟨c, hcdef⟩ : ∃ c, c = (l.drop p.toNat).getD i 0 := ⟨_, rfl⟩
    rw [← hcdef] at ht
    have hc256 := c.toNat_lt
    refine J.skip ?_
    refine J.seq (J.block ?_)
    refine J.seq (J.region mixed hI (by kernel_rfl) ?_)
    repeat (refine Plan.move rfl rfl rfl rfl ?_)
    refine Plan.indexAddr (fun b : UInt8 => [.int .u8 b.toNat]) 1 (l.drop p.toNat) 0 rfl rfl rfl rfl (Sub.rowEq (bs_flat _) (Sub.refl _)) rfl eltB (fun _ => rfl) (by omega) (by omega) ?_
    rw [Int.toNat_natCast, ← hcdef]
    refine Plan.load rfl rfl rfl rfl (Sub.refl _) Try.underlying5 rfl ?_
    repeat (refine Plan.assign rfl rfl rfl rfl ?_)
    -- the switch
    refine J.seqMid (fun _ : Unit => [(0, .old w0 (bytesF l)), (1, .ex (.int .i64 p)), (7, .ex (.int .u64 m)), (8, .ex (.int .i64 i)), (9, .ex (.int .u8 c.toNat)), (20, bytesF (l.drop p.toNat)), (21, .ex (.int .i64 (l.drop p.toNat).length)), (22, .ex (.int .i64 i))])
      (fun _ => ¬ (i = 0 ∧ c = 128) ∧ ¬ 144115188075855872 ≤ m) ?_ ?_
    · refine J.block ?_
      refine J.seq (J.region mixed hI (by kernel_rfl) ?_)
      refine Plan.move rfl rfl rfl rfl ?_
      refine Plan.ints rfl rfl rfl rfl rfl rfl ?_
      refine Plan.boolv (y := decide (i = 0)) (by by_cases h : i = 0 <;> simp [h]) ?_
      have key : ∀ E : Env, Free.look E 0 = some (.old w0 (bytesF l)) → Free.look E 1 = some (.ex (.int .i64 p)) → Free.look E 7 = some (.ex (.int .u64 m)) → Free.look E 8 = some (.ex (.int .i64 i)) → Free.look E 9 = some (.ex (.int .u8 c.toNat)) → Free.look E 20 = some (bytesF (l.drop p.toNat)) → Free.look E 21 = some (.ex (.int .i64 (l.drop p.toNat).length)) → Free.look E 22 = some (.ex (.int .i64 i)) →
          Weak (fun w => Below w0.heap.size w0 w) E [(0, .old w0 (bytesF l)), (1, .ex (.int .i64 p)), (7, .ex (.int .u64 m)), (8, .ex (.int .i64 i)), (9, .ex (.int .u8 c.toNat)), (20, bytesF (l.drop p.toNat)), (21, .ex (.int .i64 (l.drop p.toNat).length)), (22, .ex (.int .i64 i))] :=
        fun E h0 h1 h2 h3 h4 h5 h6 h7 => Weak.cons h0 (Sub.refl _) (Weak.cons h1 (Sub.refl _) (Weak.cons h2 (Sub.refl _) (Weak.cons h3 (Sub.refl _) (Weak.cons h4 (Sub.refl _) (Weak.cons h5 (Sub.refl _) (Weak.cons h6 (Sub.refl _) (Weak.cons h7 (Sub.refl _) Weak.nil)))))))
      by_cases hform : i = 0 ∧ c = 128
      · have hv : vTake l p = (0, 0, 3) := by unfold vTake; rw [if_neg hnn, ht, if_pos hform]; rfl
        refine Plan.boolv (y := true) (by simp [hform.1]) ?_
        repeat (first | refine Plan.move rfl rfl rfl rfl ?_ | refine Plan.assign rfl rfl rfl rfl ?_ | refine Plan.pick rfl rfl rfl rfl rfl ?_ | refine Plan.ints rfl rfl rfl rfl rfl rfl ?_)
        refine Plan.boolv (y := true) (by rw [hform.2]; rfl) ?_
        repeat (fail)
        refine J.cond rfl (fun _ => ?_) (fun h => by cases h)
        refine J.seq (J.region mixed hI (by kernel_rfl) ?_)
        repeat (refine Plan.assign rfl rfl rfl rfl ?_)
        exact J.ret (Nrm.ret3 rfl (fun _ h => h) fun B _ => ⟨_, rfl, Ress.cons rfl (Sub.of_eq (by rw [hv]; rfl)) (Ress.cons rfl (Sub.of_eq (by rw [hv]; rfl)) (Ress.cons rfl (Sub.of_eq (by rw [hv]; rfl)) Ress.nil))⟩)
      · rw [if_neg hform] at ht
        by_cases hi0 : i = 0
        · have hc128 : ¬ c = 128 := fun h => hform ⟨hi0, h⟩
          have hc128' : ¬ c.toNat = 128 := fun h => hc128 (UInt8.toNat_inj.1 h)
          refine Plan.boolv (y := true) (by simp [hi0]) ?_
          repeat (first | refine Plan.move rfl rfl rfl rfl ?_ | refine Plan.assign rfl rfl rfl rfl ?_ | refine Plan.pick rfl rfl rfl rfl rfl ?_ | refine Plan.ints rfl rfl rfl rfl rfl rfl ?_)
          refine Plan.boolv (y := false) (by simp; omega) ?_
          repeat (fail)
          refine J.cond rfl (fun h => by cases h) (fun _ => ?_)
          refine J.seq (J.region mixed hI (by kernel_rfl) ?_)
          refine Plan.move rfl rfl rfl rfl ?_
          refine Plan.shift rfl rfl rfl rfl rfl rfl ?_
          refine Plan.int (fdivn m 57) ?_
          repeat (first | refine Plan.assign rfl rfl rfl rfl ?_ | refine Plan.ints rfl rfl rfl rfl rfl rfl ?_)
          refine J.cond rfl (fun h4 => ?_) (fun h4 => ?_)
          · have h4' : 144115188075855872 ≤ m := by
              have : ¬ m / 2 ^ 57 = 0 := by intro e; rw [e] at h4; simp at h4
              omega
            have hv : vTake l p = (0, 0, 4) := by unfold vTake; rw [if_neg hnn, ht, if_pos h4']; rfl
            refine J.seq (J.region mixed hI (by kernel_rfl) ?_)
            repeat (refine Plan.assign rfl rfl rfl rfl ?_)
            exact J.ret (Nrm.ret3 rfl (fun _ h => h) fun B _ => ⟨_, rfl, Ress.cons rfl (Sub.of_eq (by rw [hv]; rfl)) (Ress.cons rfl (Sub.of_eq (by rw [hv]; rfl)) (Ress.cons rfl (Sub.of_eq (by rw [hv]; rfl)) Ress.nil))⟩)
          · have h4' : ¬ 144115188075855872 ≤ m := by
              have : m / 2 ^ 57 = 0 := by
                have h5 : ((m / 2 ^ 57 : Nat) : Int) = 0 := by
                  by_cases hz : ((m / 2 ^ 57 : Nat) : Int) = 0
                  · exact hz
                  · exact absurd h4 (by simpa using hz)
                omega
              omega
            refine J.skip ?_
            exact Nrm.mid () ⟨hform, h4'⟩ (key _ rfl rfl rfl rfl rfl rfl rfl rfl)
        · refine Plan.boolv (y := false) (by simp [hi0]) ?_
          repeat (first | refine Plan.move rfl rfl rfl rfl ?_ | refine Plan.assign rfl rfl rfl rfl ?_ | refine Plan.skip rfl rfl ?_ | refine Plan.pick rfl rfl rfl rfl rfl ?_)
          refine J.cond rfl (fun h => by cases h) (fun _ => ?_)
          refine J.seq (J.region mixed hI (by kernel_rfl) ?_)
          refine Plan.move rfl rfl rfl rfl ?_
          refine Plan.shift rfl rfl rfl rfl rfl rfl ?_
          refine Plan.int (fdivn m 57) ?_
          repeat (first | refine Plan.assign rfl rfl rfl rfl ?_ | refine Plan.ints rfl rfl rfl rfl rfl rfl ?_)
          refine J.cond rfl (fun h4 => ?_) (fun h4 => ?_)
          · have h4' : 144115188075855872 ≤ m := by
              have : ¬ m / 2 ^ 57 = 0 := by intro e; rw [e] at h4; simp at h4
              omega
            have hv : vTake l p = (0, 0, 4) := by unfold vTake; rw [if_neg hnn, ht, if_pos h4']; rfl
            refine J.seq (J.region mixed hI (by kernel_rfl) ?_)
            repeat (refine Plan.assign rfl rfl rfl rfl ?_)
            exact J.ret (Nrm.ret3 rfl (fun _ h => h) fun B _ => ⟨_, rfl, Ress.cons rfl (Sub.of_eq (by rw [hv]; rfl)) (Ress.cons rfl (Sub.of_eq (by rw [hv]; rfl)) (Ress.cons rfl (Sub.of_eq (by rw [hv]; rfl)) Ress.nil))⟩)
          · have h4' : ¬ 144115188075855872 ≤ m := by
              have : m / 2 ^ 57 = 0 := by
                have h5 : ((m / 2 ^ 57 : Nat) : Int) = 0 := by
                  by_cases hz : ((m / 2 ^ 57 : Nat) : Int) = 0
                  · exact hz
                  · exact absurd h4 (by simpa using hz)
                omega
              omega
            refine J.skip ?_
            exact Nrm.mid () ⟨hform, h4'⟩ (key _ rfl rfl rfl rfl rfl rfl rfl rfl)
    rintro _ ⟨hform, h4⟩
    rw [if_neg hform, if_neg h4] at ht
    refine J.seq (J.region mixed hI (by kernel_rfl) ?_)
    refine Plan.move rfl rfl rfl rfl ?_
    refine Plan.shift rfl rfl rfl rfl rfl rfl ?_
    refine Plan.int (y := ((m * 128 : Nat) : Int)) (by show IntKind.u64.wrap ((m : Int) * 2 ^ 7) = _; rw [IntKind.wrap_u64]; omega) ?_
    refine Plan.move rfl rfl rfl rfl ?_
    refine Plan.ints rfl rfl rfl rfl rfl rfl ?_
    refine Plan.int (and127n c) ?_
    refine Plan.convInt rfl rfl rfl rfl Try.underlying5 Try.underlying59 ?_
    refine Plan.int (u64n (by omega)) ?_
    refine Plan.ints rfl rfl rfl rfl rfl rfl ?_
    refine Plan.int (mk_u64 m (c.toNat % 128) (by omega) (by omega)) ?_
    repeat (refine Plan.assign rfl rfl rfl rfl ?_)
    refine J.seq (J.region mixed hI (by kernel_rfl) ?_)
    repeat (first | refine Plan.move rfl rfl rfl rfl ?_ | refine Plan.ints rfl rfl rfl rfl rfl rfl ?_)
    refine J.cond rfl (fun h5 => ?_) (fun h5 => ?_)
    · have h5' : c.toNat < 128 := by have : (c.toNat : Int) < 128 := by simpa using h5
                                     omega
      rw [if_pos h5'] at ht
      have hv : vTake l p = (m * 128 + c.toNat % 128, p.toNat + (i + 1), 0) := by unfold vTake; rw [if_neg hnn, ht]; rfl
      refine J.seq (J.region mixed hI (by kernel_rfl) ?_)
      refine Plan.move rfl rfl rfl rfl ?_
      refine Plan.move rfl rfl rfl rfl ?_
      refine Plan.move rfl rfl rfl rfl ?_
      refine Plan.ints rfl rfl rfl rfl rfl rfl ?_
      refine Plan.int (y := ((p.toNat + i : Nat) : Int)) (by rw [i64r (by omega)]; omega) ?_
      refine Plan.ints rfl rfl rfl rfl rfl rfl ?_
      refine Plan.int (y := ((p.toNat + (i + 1) : Nat) : Int)) (by rw [i64r (by omega)]; omega) ?_
      repeat (refine Plan.assign rfl rfl rfl rfl ?_)
      exact J.ret (Nrm.ret3 rfl (fun _ h => h) fun B _ => ⟨_, rfl, Ress.cons rfl (Sub.of_eq (by rw [hv])) (Ress.cons rfl (Sub.of_eq (by rw [hv])) (Ress.cons rfl (Sub.of_eq (by rw [hv]; rfl)) Ress.nil))⟩)
    · have h5' : ¬ c.toNat < 128 := by have : ¬ (c.toNat : Int) < 128 := by simpa using h5
                                       omega
      rw [if_neg h5'] at ht
      refine J.skip ?_
      refine (J.region mixed hI (by kernel_rfl) ?_)
      refine Plan.ints rfl rfl rfl rfl rfl rfl ?_
      refine Plan.int (y := ((i + 1 : Nat) : Int)) (by rw [i64r (by omega)]; omega) ?_
      repeat (refine Plan.move rfl rfl rfl rfl ?_)
      refine Nrm.weak (tkEnv w0 l p (m * 128 + c.toNat % 128, i + 1)) ?_ fun a w h1 h2 h3 => ⟨(m * 128 + c.toNat % 128, i + 1), ⟨by show i + 1 ≤ _; omega, by show m * 128 + c.toNat % 128 < 2 ^ 64; omega, ht⟩, by show _ - (i + 1) < _ - i; omega, h1, h2, h3⟩
      exact Weak.cons rfl (Sub.refl _) (Weak.cons rfl (Sub.refl _) (Weak.cons rfl (Sub.refl _) (Weak.cons rfl (Sub.refl _) (Weak.cons rfl (Sub.refl _) (Weak.cons rfl (Sub.refl _) Weak.nil)))))
  · have hge : i = (l.drop p.toNat).length := by have : ¬ (i : Int) < (l.drop p.toNat).length := by simpa using hc
                                                 omega
    have hv : vTake l p = (0, 0, 2) := by
      unfold vTake; rw [if_neg hnn, ht, hge, List.drop_length]; rfl
    refine J.exit ?_
    refine J.seq (J.region mixed hI (by kernel_rfl) ?_)
    repeat (refine Plan.assign rfl rfl rfl rfl ?_)
    exact J.ret (Nrm.ret3 rfl (fun _ h => h) fun B _ => ⟨_, rfl, Ress.cons rfl (Sub.of_eq (by rw [hv]; rfl)) (Ress.cons rfl (Sub.of_eq (by rw [hv]; rfl)) (Ress.cons rfl (Sub.of_eq (by rw [hv]; rfl)) Ress.nil))⟩)
end Go.Proofs.Ythjneijkapopoaa
