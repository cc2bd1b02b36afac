/-
  Events: the readers: numbers, texts, numbers with a sign.
-/
import Derived.Test.YthjneijkapopoaaEvDec2
import Derived.Test.YthjneijkapopoaaFreeDeep
set_option linter.unusedSimpArgs false
set_option linter.unusedVariables false
set_option maxRecDepth 20000
namespace Go.Proofs.Ythjneijkapopoaa
open Go.Free Go.RowKit Go.Proofs
set_option maxHeartbeats 4000000

abbrev rdC (β : Nat) (v : Value) (s : RS) : Chunk := obj β [v, vi s.1, vi s.2]
theorem rNum_err {l : List UInt8} {s : RS} (h : (s.2 : Int) ≠ 0) : rNum l s = (0, s) := if_pos (by omega)
theorem rText_err {l : List UInt8} {s : RS} (h : (s.2 : Int) ≠ 0) : rText l s = ([], s) := if_pos (by omega)
theorem rSig_err {l : List UInt8} {s : RS} (h : (s.2 : Int) ≠ 0) : rSig l s = (0, s) := if_pos (by omega)
theorem number_fn {wO : World} {v : Value} {l : List UInt8} (hv : (bytesF l).den wO v) {β : Nat} (hβ : wO.heap.size ≤ β) {s : RS} (hs : okS l s) (hl : l.length ≤ 9223372036854775807) :
    SpcC Try.prog 45 [exIn wO (ptr β)] (rdC β v s) (fun _ : Unit => True) (fun _ => .ex (vi (rNum l s).1)) (fun _ => rdC β v (rNum l s).2) := by
  refine SpcC.intro2 Try.func45 rfl (Nat.le_of_ble_eq_true rfl) fun w1 F args hd hc => ?_
  have hB0 := exIn_below hd
  have hbe : ∀ w, Kept F w1 w → Below wO.heap.size wO w := fun w h => kept_beyond hB0 (fun b hb => by rw [(hc.2 b).1 hb]; exact hβ) h
  have hI := kept_below F w1
  have hA := Own.kept F w1
  have hs1 := hs.1
  have hs2 := hs.2
  have hb := vTake_bd l s.1
  refine J.weak [(0, .ex (ptr β)), (1000, heap (fun b => F b ∨ w1.heap.size ≤ b) [rdC β v s])] (Weak.cons rfl Sub.inEx (Weak.cons rfl (Sub.refl _) Weak.nil)) ?_
  repeat (first | refine Plan.move rfl rfl rfl rfl ?_ | refine Plan.assign rfl rfl rfl rfl ?_ | (refine Plan.ints rfl rfl rfl rfl rfl rfl ?_; (skip)) | refine Plan.nilOk rfl rfl rfl rfl ?_ | refine Plan.fieldC rfl rfl rfl rfl (by first | exact Try.underlying31 | exact Try.underlying75) rfl (by kernel_rfl) (by exact (rfl : _ = 2)) ?_ | refine Plan.loadC (key := 1000) (q := 0) rfl rfl rfl rfl rfl rfl (obj_reads1 rfl) (by exact Try.underlying3) (by rfl) (by decide) ?_ | refine J.seq (J.region mixed hI (by kernel_rfl) ?_) | refine J.seq (J.seq (J.region mixed hI (by kernel_rfl) ?_)))
  refine J.condN rfl (fun he => ?_) (fun he => ?_)
  · rw [rNum_err he]
    repeat (first | refine Plan.assign rfl rfl rfl rfl ?_ | refine J.seq (J.region mixed hI (by kernel_rfl) ?_))
    exact J.ret (Nrm.retC1 (key := 1000) () rfl rfl rfl trivial (Sub.refl _) Ent.left)
  have hz : s.2 = 0 := by omega
  have kT := vlq_Take l s.1 (by omega) hl
  unfold takeRes at kT
  have eN : rNum l s = (if (vTake l s.1).2.2 ≠ 0 then ((0, (s.1, (vTake l s.1).2.2)) : Int × RS) else if 4611686018427387904 < (vTake l s.1).1 then (0, (s.1, 3)) else ((vTake l s.1).1, ((vTake l s.1).2.1, 0))) := if_neg (fun h => h hz)
  rw [eN]
  obtain ⟨sp, se⟩ := s
  simp only at hz hs1 hs2
  subst hz
  simp only at kT ⊢
  generalize (vTake l sp) = V at *
  obtain ⟨m, nx, er⟩ := V
  simp only at kT hb ⊢
  rcases Nat.eq_zero_or_pos er with h0 | h0
  · subst h0
    repeat (first | refine Plan.move rfl rfl rfl rfl ?_ | refine Plan.nilOk rfl rfl rfl rfl ?_ | refine Plan.fieldC rfl rfl rfl rfl (by first | exact Try.underlying31 | exact Try.underlying75) rfl (by kernel_rfl) (by first | exact (rfl : _ = 0) | exact (rfl : _ = 1)) ?_ | refine Plan.loadC (key := 1000) (q := 0) rfl rfl rfl rfl rfl rfl (obj_reads1 rfl) (by first | exact Try.underlying3 | exact Try.underlying40) (by rfl) (by decide) ?_ | refine J.seq (J.region mixed hI (by kernel_rfl) ?_) | refine J.skip ?_)
    refine Plan.call (B := 0) rfl rfl rfl kT Try.func61 rfl rfl (fun _ _ => Nat.zero_le _) (Opnds.cons rfl (Sub.known hbe hv) (Opnds.cons rfl (Sub.refl _) Opnds.nil)) ?_
    repeat (first | refine Plan.move rfl rfl rfl rfl ?_ | refine Plan.assign rfl rfl rfl rfl ?_ | refine Plan.extract rfl rfl rfl rfl rfl ?_ | refine Plan.pick rfl rfl rfl rfl rfl ?_ | (refine Plan.ints rfl rfl rfl rfl rfl rfl ?_; (skip)) | refine J.seq (J.seq (J.region mixed hI (by kernel_rfl) ?_)))
    refine J.condD rfl (fun h2 => ?_) (fun h2 => ?_)
    · rw [if_neg (by simp), if_pos (by omega)]
      repeat (first | refine Plan.move rfl rfl rfl rfl ?_ | refine Plan.assign rfl rfl rfl rfl ?_ | (refine Plan.ints rfl rfl rfl rfl rfl rfl ?_; (skip)) | refine Plan.nilOk rfl rfl rfl rfl ?_ | refine Plan.fieldC rfl rfl rfl rfl (by first | exact Try.underlying31 | exact Try.underlying75) rfl (by kernel_rfl) (by exact (rfl : _ = 2)) ?_ | refine J.seq (J.region mixed hI (by kernel_rfl) ?_) | refine J.region mixed hI (by kernel_rfl) ?_ | refine J.seq (J.seq (J.region mixed hI (by kernel_rfl) ?_)) | refine J.condT rfl ?_)
      refine Plan.storeC (key := 1000) (q := 0) rfl rfl rfl rfl rfl rfl (by simp [Value.cells, Value.oneCell', str]) (by kernel_rfl) rfl hA rfl (obj_pat1 (Nat.le_of_ble_eq_true rfl)) ?_
      repeat (first | refine Plan.assign rfl rfl rfl rfl ?_ | refine J.seq (J.region mixed hI (by kernel_rfl) ?_))
      exact J.ret (Nrm.retC1 (key := 1000) () rfl rfl rfl trivial (Sub.refl _) Ent.left)
    · rw [if_neg (by simp), if_neg (by omega)]
      repeat (first | refine Plan.move rfl rfl rfl rfl ?_ | (refine Plan.ints rfl rfl rfl rfl rfl rfl ?_; (skip)) | refine Plan.nilOk rfl rfl rfl rfl ?_ | refine Plan.fieldC rfl rfl rfl rfl (by first | exact Try.underlying31 | exact Try.underlying75) rfl (by kernel_rfl) (by exact (rfl : _ = 1)) ?_ | refine J.seq (J.region mixed hI (by kernel_rfl) ?_) | refine J.seq (J.seq (J.region mixed hI (by kernel_rfl) ?_)) | refine J.condF rfl ?_ | refine J.skip ?_)
      refine Plan.storeC (key := 1000) (q := 0) rfl rfl rfl rfl rfl rfl (by simp [Value.cells, Value.oneCell', str]) (by kernel_rfl) rfl hA rfl (obj_pat1 (Nat.le_of_ble_eq_true rfl)) ?_
      repeat (first | refine Plan.move rfl rfl rfl rfl ?_ | refine Plan.assign rfl rfl rfl rfl ?_ | (refine Plan.convInt rfl rfl rfl rfl (by first | exact Try.underlying3 | exact Try.underlying59) (by exact Try.underlying3) ?_; (refine Plan.int (i64r (by omega)) ?_)) | refine J.seq (J.region mixed hI (by kernel_rfl) ?_))
      exact J.ret (Nrm.retC1 (key := 1000) () rfl rfl rfl trivial (Sub.refl _) Ent.left)
  · repeat (first | refine Plan.move rfl rfl rfl rfl ?_ | refine Plan.nilOk rfl rfl rfl rfl ?_ | refine Plan.fieldC rfl rfl rfl rfl (by first | exact Try.underlying31 | exact Try.underlying75) rfl (by kernel_rfl) (by first | exact (rfl : _ = 0) | exact (rfl : _ = 1)) ?_ | refine Plan.loadC (key := 1000) (q := 0) rfl rfl rfl rfl rfl rfl (obj_reads1 rfl) (by first | exact Try.underlying3 | exact Try.underlying40) (by rfl) (by decide) ?_ | refine J.seq (J.region mixed hI (by kernel_rfl) ?_) | refine J.skip ?_)
    refine Plan.call (B := 0) rfl rfl rfl kT Try.func61 rfl rfl (fun _ _ => Nat.zero_le _) (Opnds.cons rfl (Sub.known hbe hv) (Opnds.cons rfl (Sub.refl _) Opnds.nil)) ?_
    repeat (first | refine Plan.move rfl rfl rfl rfl ?_ | refine Plan.assign rfl rfl rfl rfl ?_ | refine Plan.extract rfl rfl rfl rfl rfl ?_ | (refine Plan.ints rfl rfl rfl rfl rfl rfl ?_; (skip)) | refine J.seq (J.seq (J.region mixed hI (by kernel_rfl) ?_)))
    refine Plan.boolv (y := false) (by simpa using (by omega : ¬ er = 0)) ?_
    repeat (first | refine Plan.move rfl rfl rfl rfl ?_ | refine Plan.skip rfl rfl ?_ | refine Plan.pick rfl rfl rfl rfl rfl ?_ | (refine Plan.ints rfl rfl rfl rfl rfl rfl ?_; (skip)) | refine J.seq (J.seq (J.region mixed hI (by kernel_rfl) ?_)) | refine J.condF rfl ?_ | refine J.skip ?_)
    rw [if_pos (by omega)]
    refine J.condN rfl (fun h2 => ?_) (fun h2 => absurd h2 (by omega))
    repeat (first | refine Plan.move rfl rfl rfl rfl ?_ | refine Plan.nilOk rfl rfl rfl rfl ?_ | refine Plan.fieldC rfl rfl rfl rfl (by first | exact Try.underlying31 | exact Try.underlying75) rfl (by kernel_rfl) (by exact (rfl : _ = 2)) ?_ | refine J.seq (J.region mixed hI (by kernel_rfl) ?_))
    refine Plan.storeC (key := 1000) (q := 0) rfl rfl rfl rfl rfl rfl (by simp [Value.cells, Value.oneCell', str]) (by kernel_rfl) rfl hA rfl (obj_pat1 (Nat.le_of_ble_eq_true rfl)) ?_
    repeat (first | refine Plan.assign rfl rfl rfl rfl ?_ | refine J.seq (J.region mixed hI (by kernel_rfl) ?_))
    exact J.ret (Nrm.retC1 (key := 1000) () rfl rfl rfl trivial (Sub.refl _) Ent.left)
theorem refnum_fn {l : List UInt8} {β : Nat} {s : RS} (hs : okS l s) (hl : l.length ≤ 9223372036854775807) :
    SpcC Try.prog 47 [.ex (ptr β)] (rdC β (str l) s) (fun _ : Unit => True) (fun _ => .ex (vi (rNum l s).1)) (fun _ => rdC β (str l) (rNum l s).2) := by
  refine SpcC.intro2 Try.func47 rfl (Nat.le_of_ble_eq_true rfl) fun w1 F args hd hc => ?_
  have hI := kept_below F w1
  have hA := Own.kept F w1
  have hs1 := hs.1
  have hs2 := hs.2
  have hb := vTake_bd l s.1
  refine J.weak [(0, .ex (ptr β)), (1000, heap (fun b => F b ∨ w1.heap.size ≤ b) [rdC β (str l) s])] (Weak.cons rfl (Sub.refl _) (Weak.cons rfl (Sub.refl _) Weak.nil)) ?_
  repeat (first | refine Plan.move rfl rfl rfl rfl ?_ | refine Plan.assign rfl rfl rfl rfl ?_ | (refine Plan.ints rfl rfl rfl rfl rfl rfl ?_; (skip)) | refine Plan.nilOk rfl rfl rfl rfl ?_ | refine Plan.fieldC rfl rfl rfl rfl (by first | exact Try.underlying31 | exact Try.underlying80) rfl (by kernel_rfl) (by exact (rfl : _ = 2)) ?_ | refine Plan.loadC (key := 1000) (q := 0) rfl rfl rfl rfl rfl rfl (obj_reads1 rfl) (by exact Try.underlying3) (by rfl) (by decide) ?_ | refine J.seq (J.region mixed hI (by kernel_rfl) ?_) | refine J.seq (J.seq (J.region mixed hI (by kernel_rfl) ?_)))
  refine J.condN rfl (fun he => ?_) (fun he => ?_)
  · rw [rNum_err he]
    repeat (first | refine Plan.assign rfl rfl rfl rfl ?_ | refine J.seq (J.region mixed hI (by kernel_rfl) ?_))
    exact J.ret (Nrm.retC1 (key := 1000) () rfl rfl rfl trivial (Sub.refl _) Ent.left)
  have hz : s.2 = 0 := by omega
  have kT := ref_Take l s.1 (by omega) hl
  unfold takeResI at kT
  have eN : rNum l s = (if (vTake l s.1).2.2 ≠ 0 then ((0, (s.1, (vTake l s.1).2.2)) : Int × RS) else if 4611686018427387904 < (vTake l s.1).1 then (0, (s.1, 3)) else ((vTake l s.1).1, ((vTake l s.1).2.1, 0))) := if_neg (fun h => h hz)
  rw [eN]
  obtain ⟨sp, se⟩ := s
  simp only at hz hs1 hs2
  subst hz
  simp only at kT ⊢
  generalize (vTake l sp) = V at *
  obtain ⟨m, nx, er⟩ := V
  simp only at kT hb ⊢
  rcases Nat.eq_zero_or_pos er with h0 | h0
  · subst h0
    repeat (first | refine Plan.move rfl rfl rfl rfl ?_ | refine Plan.nilOk rfl rfl rfl rfl ?_ | refine Plan.fieldC rfl rfl rfl rfl (by first | exact Try.underlying31 | exact Try.underlying80) rfl (by kernel_rfl) (by first | exact (rfl : _ = 0) | exact (rfl : _ = 1)) ?_ | refine Plan.loadC (key := 1000) (q := 0) rfl rfl rfl rfl rfl rfl (obj_reads1 rfl) (by first | exact Try.underlying3 | exact Try.underlying9) (by rfl) (by decide) ?_ | refine J.seq (J.region mixed hI (by kernel_rfl) ?_) | refine J.skip ?_)
    refine Plan.call (B := 0) rfl rfl rfl kT Try.func64 rfl rfl (fun _ _ => Nat.zero_le _) (Opnds.cons rfl (Sub.refl _) (Opnds.cons rfl (Sub.refl _) Opnds.nil)) ?_
    repeat (first | refine Plan.move rfl rfl rfl rfl ?_ | refine Plan.assign rfl rfl rfl rfl ?_ | refine Plan.extract rfl rfl rfl rfl rfl ?_ | refine Plan.nilOk rfl rfl rfl rfl ?_ | refine Plan.fieldC rfl rfl rfl rfl (by first | exact Try.underlying31 | exact Try.underlying80) rfl (by kernel_rfl) (by exact (rfl : _ = 2)) ?_ | refine J.seq (J.region mixed hI (by kernel_rfl) ?_))
    refine Plan.storeC (key := 1000) (q := 0) rfl rfl rfl rfl rfl rfl (by simp [Value.cells, Value.oneCell', str]) (by kernel_rfl) rfl hA rfl (obj_pat1 (Nat.le_of_ble_eq_true rfl)) ?_
    repeat (first | refine Plan.move rfl rfl rfl rfl ?_ | refine Plan.pick rfl rfl rfl rfl rfl ?_ | (refine Plan.ints rfl rfl rfl rfl rfl rfl ?_; (skip)) | refine J.seq (J.seq (J.region mixed hI (by kernel_rfl) ?_)))
    refine J.condD rfl (fun h2 => ?_) (fun h2 => ?_)
    · rw [if_neg (by simp), if_pos (by omega)]
      repeat (first | refine Plan.move rfl rfl rfl rfl ?_ | refine Plan.nilOk rfl rfl rfl rfl ?_ | refine Plan.fieldC rfl rfl rfl rfl (by first | exact Try.underlying31 | exact Try.underlying80) rfl (by kernel_rfl) (by exact (rfl : _ = 2)) ?_ | refine J.region mixed hI (by kernel_rfl) ?_)
      refine Plan.storeC (key := 1000) (q := 0) rfl rfl rfl rfl rfl rfl (by simp [Value.cells, Value.oneCell', str]) (by kernel_rfl) rfl hA rfl (obj_pat1 (Nat.le_of_ble_eq_true rfl)) ?_
      repeat (first | refine Plan.move rfl rfl rfl rfl ?_ | refine Plan.assign rfl rfl rfl rfl ?_ | (refine Plan.ints rfl rfl rfl rfl rfl rfl ?_; (skip)) | refine Plan.nilOk rfl rfl rfl rfl ?_ | refine Plan.fieldC rfl rfl rfl rfl (by first | exact Try.underlying31 | exact Try.underlying80) rfl (by kernel_rfl) (by exact (rfl : _ = 2)) ?_ | refine Plan.loadC (key := 1000) (q := 0) rfl rfl rfl rfl rfl rfl (obj_reads1 rfl) (by exact Try.underlying3) (by rfl) (by decide) ?_ | refine J.seq (J.region mixed hI (by kernel_rfl) ?_) | refine J.seq (J.seq (J.region mixed hI (by kernel_rfl) ?_)) | refine J.condT rfl ?_)
      exact J.ret (Nrm.retC1 (key := 1000) () rfl rfl rfl trivial (Sub.refl _) Ent.left)
    · rw [if_neg (by simp), if_neg (by omega)]
      repeat (first | refine Plan.move rfl rfl rfl rfl ?_ | (refine Plan.ints rfl rfl rfl rfl rfl rfl ?_; (skip)) | refine Plan.nilOk rfl rfl rfl rfl ?_ | refine Plan.fieldC rfl rfl rfl rfl (by first | exact Try.underlying31 | exact Try.underlying80) rfl (by kernel_rfl) (by first | exact (rfl : _ = 1) | exact (rfl : _ = 2)) ?_ | refine Plan.loadC (key := 1000) (q := 0) rfl rfl rfl rfl rfl rfl (obj_reads1 rfl) (by exact Try.underlying3) (by rfl) (by decide) ?_ | refine J.seq (J.region mixed hI (by kernel_rfl) ?_) | refine J.seq (J.seq (J.region mixed hI (by kernel_rfl) ?_)) | refine J.condF rfl ?_ | refine J.skip ?_)
      refine Plan.storeC (key := 1000) (q := 0) rfl rfl rfl rfl rfl rfl (by simp [Value.cells, Value.oneCell', str]) (by kernel_rfl) rfl hA rfl (obj_pat1 (Nat.le_of_ble_eq_true rfl)) ?_
      repeat (first | refine Plan.move rfl rfl rfl rfl ?_ | refine Plan.assign rfl rfl rfl rfl ?_ | (refine Plan.convInt rfl rfl rfl rfl (by first | exact Try.underlying3 | exact Try.underlying59) (by exact Try.underlying3) ?_; (refine Plan.int (i64r (by omega)) ?_)) | refine J.seq (J.region mixed hI (by kernel_rfl) ?_))
      exact J.ret (Nrm.retC1 (key := 1000) () rfl rfl rfl trivial (Sub.refl _) Ent.left)
  · repeat (first | refine Plan.move rfl rfl rfl rfl ?_ | refine Plan.nilOk rfl rfl rfl rfl ?_ | refine Plan.fieldC rfl rfl rfl rfl (by first | exact Try.underlying31 | exact Try.underlying80) rfl (by kernel_rfl) (by first | exact (rfl : _ = 0) | exact (rfl : _ = 1)) ?_ | refine Plan.loadC (key := 1000) (q := 0) rfl rfl rfl rfl rfl rfl (obj_reads1 rfl) (by first | exact Try.underlying3 | exact Try.underlying9) (by rfl) (by decide) ?_ | refine J.seq (J.region mixed hI (by kernel_rfl) ?_) | refine J.skip ?_)
    refine Plan.call (B := 0) rfl rfl rfl kT Try.func64 rfl rfl (fun _ _ => Nat.zero_le _) (Opnds.cons rfl (Sub.refl _) (Opnds.cons rfl (Sub.refl _) Opnds.nil)) ?_
    repeat (first | refine Plan.move rfl rfl rfl rfl ?_ | refine Plan.assign rfl rfl rfl rfl ?_ | refine Plan.extract rfl rfl rfl rfl rfl ?_ | refine Plan.nilOk rfl rfl rfl rfl ?_ | refine Plan.fieldC rfl rfl rfl rfl (by first | exact Try.underlying31 | exact Try.underlying80) rfl (by kernel_rfl) (by exact (rfl : _ = 2)) ?_ | refine J.seq (J.region mixed hI (by kernel_rfl) ?_))
    refine Plan.storeC (key := 1000) (q := 0) rfl rfl rfl rfl rfl rfl (by simp [Value.cells, Value.oneCell', str]) (by kernel_rfl) rfl hA rfl (obj_pat1 (Nat.le_of_ble_eq_true rfl)) ?_
    repeat (first | refine Plan.move rfl rfl rfl rfl ?_ | (refine Plan.ints rfl rfl rfl rfl rfl rfl ?_; (skip)) | refine J.seq (J.seq (J.region mixed hI (by kernel_rfl) ?_)))
    refine Plan.boolv (y := false) (by simpa using (by omega : ¬ er = 0)) ?_
    repeat (first | refine Plan.move rfl rfl rfl rfl ?_ | refine Plan.skip rfl rfl ?_ | refine Plan.pick rfl rfl rfl rfl rfl ?_ | (refine Plan.ints rfl rfl rfl rfl rfl rfl ?_; (skip)) | refine Plan.nilOk rfl rfl rfl rfl ?_ | refine Plan.fieldC rfl rfl rfl rfl (by first | exact Try.underlying31 | exact Try.underlying80) rfl (by kernel_rfl) (by exact (rfl : _ = 2)) ?_ | refine Plan.loadC (key := 1000) (q := 0) rfl rfl rfl rfl rfl rfl (obj_reads1 rfl) (by exact Try.underlying3) (by rfl) (by decide) ?_ | refine J.seq (J.seq (J.region mixed hI (by kernel_rfl) ?_)) | refine J.condF rfl ?_ | refine J.skip ?_)
    rw [if_pos (by omega)]
    refine J.condN rfl (fun h2 => ?_) (fun h2 => absurd h2 (by omega))
    repeat (first | refine Plan.assign rfl rfl rfl rfl ?_ | refine J.seq (J.region mixed hI (by kernel_rfl) ?_))
    exact J.ret (Nrm.retC1 (key := 1000) () rfl rfl rfl trivial (Sub.refl _) Ent.left)
theorem text_fn {wO : World} {v : Value} {l : List UInt8} (hv : (bytesF l).den wO v) {β : Nat} (hβ : wO.heap.size ≤ β) {s : RS} (hs : okS l s) (hl : l.length ≤ 9223372036854775807) :
    SpcC Try.prog 62 [exIn wO (ptr β)] (rdC β v s) (fun _ : Unit => True) (fun _ => .ex (str (rText l s).1)) (fun _ => rdC β v (rText l s).2) := by
  refine SpcC.intro2 Try.func62 rfl (Nat.le_of_ble_eq_true rfl) fun w1 F args hd hc => ?_
  have hB0 := exIn_below hd
  have hbe : ∀ w, Kept F w1 w → Below wO.heap.size wO w := fun w h => kept_beyond hB0 (fun b hb => by rw [(hc.2 b).1 hb]; exact hβ) h
  have hI := kept_below F w1
  have hA := Own.kept F w1
  have hs1 := hs.1
  have hs2 := hs.2
  have hb := vTake_bd l s.1
  refine J.weak [(0, .ex (ptr β)), (1000, heap (fun b => F b ∨ w1.heap.size ≤ b) [rdC β v s])] (Weak.cons rfl Sub.inEx (Weak.cons rfl (Sub.refl _) Weak.nil)) ?_
  repeat (first | refine Plan.move rfl rfl rfl rfl ?_ | refine Plan.assign rfl rfl rfl rfl ?_ | (refine Plan.ints rfl rfl rfl rfl rfl rfl ?_; (skip)) | refine Plan.nilOk rfl rfl rfl rfl ?_ | refine Plan.fieldC rfl rfl rfl rfl (by first | exact Try.underlying31 | exact Try.underlying75) rfl (by kernel_rfl) (by exact (rfl : _ = 2)) ?_ | refine Plan.loadC (key := 1000) (q := 0) rfl rfl rfl rfl rfl rfl (obj_reads1 rfl) (by exact Try.underlying3) (by rfl) (by decide) ?_ | refine J.seq (J.region mixed hI (by kernel_rfl) ?_) | refine J.seq (J.seq (J.region mixed hI (by kernel_rfl) ?_)))
  refine J.condN rfl (fun he => ?_) (fun he => ?_)
  · rw [rText_err he]
    repeat (first | refine Plan.assign rfl rfl rfl rfl ?_ | refine J.seq (J.region mixed hI (by kernel_rfl) ?_))
    exact J.ret (Nrm.retC1 (key := 1000) () rfl rfl rfl trivial (Sub.refl _) Ent.left)
  have hz : s.2 = 0 := by omega
  have kT := vlq_TakeText l s.1 64 (by omega) (by omega) hl
  unfold textRes at kT
  have eN : rText l s = ((vText l s.1 64).1, ((vText l s.1 64).2.1, (vText l s.1 64).2.2)) := if_neg (by omega)
  rw [eN]
  obtain ⟨sp, se⟩ := s
  simp only at hz hs1 hs2
  subst hz
  simp only at kT ⊢
  repeat (first | refine Plan.move rfl rfl rfl rfl ?_ | refine Plan.nilOk rfl rfl rfl rfl ?_ | refine Plan.fieldC rfl rfl rfl rfl (by first | exact Try.underlying31 | exact Try.underlying75) rfl (by kernel_rfl) (by first | exact (rfl : _ = 0) | exact (rfl : _ = 1)) ?_ | refine Plan.loadC (key := 1000) (q := 0) rfl rfl rfl rfl rfl rfl (obj_reads1 rfl) (by first | exact Try.underlying3 | exact Try.underlying40) (by rfl) (by decide) ?_ | refine J.seq (J.region mixed hI (by kernel_rfl) ?_) | refine J.skip ?_)
  refine Plan.call (B := 0) rfl rfl rfl kT Try.func68 rfl rfl (fun _ _ => Nat.zero_le _) (Opnds.cons rfl (Sub.known hbe hv) (Opnds.cons rfl (Sub.refl _) (Opnds.cons rfl (Sub.refl _) Opnds.nil))) ?_
  repeat (first | refine Plan.move rfl rfl rfl rfl ?_ | refine Plan.assign rfl rfl rfl rfl ?_ | refine Plan.extract rfl rfl rfl rfl rfl ?_ | refine Plan.nilOk rfl rfl rfl rfl ?_ | refine Plan.fieldC rfl rfl rfl rfl (by first | exact Try.underlying31 | exact Try.underlying75) rfl (by kernel_rfl) (by exact (rfl : _ = 1)) ?_ | refine J.seq (J.region mixed hI (by kernel_rfl) ?_))
  refine Plan.storeC (key := 1000) (q := 0) rfl rfl rfl rfl rfl rfl (by simp [Value.cells, Value.oneCell', str]) (by kernel_rfl) rfl hA rfl (obj_pat1 (Nat.le_of_ble_eq_true rfl)) ?_
  repeat (first | refine Plan.nilOk rfl rfl rfl rfl ?_ | refine Plan.fieldC rfl rfl rfl rfl (by first | exact Try.underlying31 | exact Try.underlying75) rfl (by kernel_rfl) (by exact (rfl : _ = 2)) ?_)
  refine Plan.storeC (key := 1000) (q := 0) rfl rfl rfl rfl rfl rfl (by simp [Value.cells, Value.oneCell', str]) (by kernel_rfl) rfl hA rfl (obj_pat1 (Nat.le_of_ble_eq_true rfl)) ?_
  repeat (first | refine Plan.move rfl rfl rfl rfl ?_ | refine Plan.assign rfl rfl rfl rfl ?_ | refine J.seq (J.region mixed hI (by kernel_rfl) ?_))
  exact J.ret (Nrm.retC1 (key := 1000) () rfl rfl rfl trivial (Sub.refl _) Ent.left)
theorem reftext_fn {l : List UInt8} {β : Nat} {s : RS} (hs : okS l s) (hl : l.length ≤ 9223372036854775807) :
    SpcC Try.prog 48 [.ex (ptr β)] (rdC β (str l) s) (fun _ : Unit => True) (fun _ => .ex (str (rText l s).1)) (fun _ => rdC β (str l) (rText l s).2) := by
  refine SpcC.intro2 Try.func48 rfl (Nat.le_of_ble_eq_true rfl) fun w1 F args hd hc => ?_
  have hI := kept_below F w1
  have hA := Own.kept F w1
  have hs1 := hs.1
  have hs2 := hs.2
  have hb := vTake_bd l s.1
  refine J.weak [(0, .ex (ptr β)), (1000, heap (fun b => F b ∨ w1.heap.size ≤ b) [rdC β (str l) s])] (Weak.cons rfl (Sub.refl _) (Weak.cons rfl (Sub.refl _) Weak.nil)) ?_
  repeat (first | refine Plan.move rfl rfl rfl rfl ?_ | refine Plan.assign rfl rfl rfl rfl ?_ | (refine Plan.ints rfl rfl rfl rfl rfl rfl ?_; (skip)) | refine Plan.nilOk rfl rfl rfl rfl ?_ | refine Plan.fieldC rfl rfl rfl rfl (by first | exact Try.underlying31 | exact Try.underlying80) rfl (by kernel_rfl) (by exact (rfl : _ = 2)) ?_ | refine Plan.loadC (key := 1000) (q := 0) rfl rfl rfl rfl rfl rfl (obj_reads1 rfl) (by exact Try.underlying3) (by rfl) (by decide) ?_ | refine J.seq (J.region mixed hI (by kernel_rfl) ?_) | refine J.seq (J.seq (J.region mixed hI (by kernel_rfl) ?_)))
  refine J.condN rfl (fun he => ?_) (fun he => ?_)
  · rw [rText_err he]
    repeat (first | refine Plan.assign rfl rfl rfl rfl ?_ | refine J.seq (J.region mixed hI (by kernel_rfl) ?_))
    exact J.ret (Nrm.retC1 (key := 1000) () rfl rfl rfl trivial (Sub.refl _) Ent.left)
  have hz : s.2 = 0 := by omega
  have kT := ref_TakeText l s.1 64 (by omega) (by omega) hl
  unfold textRes at kT
  have eN : rText l s = ((vText l s.1 64).1, ((vText l s.1 64).2.1, (vText l s.1 64).2.2)) := if_neg (by omega)
  rw [eN]
  obtain ⟨sp, se⟩ := s
  simp only at hz hs1 hs2
  subst hz
  simp only at kT ⊢
  repeat (first | refine Plan.move rfl rfl rfl rfl ?_ | refine Plan.nilOk rfl rfl rfl rfl ?_ | refine Plan.fieldC rfl rfl rfl rfl (by first | exact Try.underlying31 | exact Try.underlying80) rfl (by kernel_rfl) (by first | exact (rfl : _ = 0) | exact (rfl : _ = 1)) ?_ | refine Plan.loadC (key := 1000) (q := 0) rfl rfl rfl rfl rfl rfl (obj_reads1 rfl) (by first | exact Try.underlying3 | exact Try.underlying9) (by rfl) (by decide) ?_ | refine J.seq (J.region mixed hI (by kernel_rfl) ?_) | refine J.skip ?_)
  refine Plan.call (B := 0) rfl rfl rfl kT Try.func65 rfl rfl (fun _ _ => Nat.zero_le _) (Opnds.cons rfl (Sub.refl _) (Opnds.cons rfl (Sub.refl _) (Opnds.cons rfl (Sub.refl _) Opnds.nil))) ?_
  repeat (first | refine Plan.move rfl rfl rfl rfl ?_ | refine Plan.assign rfl rfl rfl rfl ?_ | refine Plan.extract rfl rfl rfl rfl rfl ?_ | refine Plan.nilOk rfl rfl rfl rfl ?_ | refine Plan.fieldC rfl rfl rfl rfl (by first | exact Try.underlying31 | exact Try.underlying80) rfl (by kernel_rfl) (by exact (rfl : _ = 2)) ?_ | refine J.seq (J.region mixed hI (by kernel_rfl) ?_))
  refine Plan.storeC (key := 1000) (q := 0) rfl rfl rfl rfl rfl rfl (by simp [Value.cells, Value.oneCell', str]) (by kernel_rfl) rfl hA rfl (obj_pat1 (Nat.le_of_ble_eq_true rfl)) ?_
  repeat (first | refine Plan.move rfl rfl rfl rfl ?_ | refine Plan.nilOk rfl rfl rfl rfl ?_ | refine Plan.fieldC rfl rfl rfl rfl (by first | exact Try.underlying31 | exact Try.underlying80) rfl (by kernel_rfl) (by exact (rfl : _ = 1)) ?_ | refine J.seq (J.region mixed hI (by kernel_rfl) ?_))
  refine Plan.storeC (key := 1000) (q := 0) rfl rfl rfl rfl rfl rfl (by simp [Value.cells, Value.oneCell', str]) (by kernel_rfl) rfl hA rfl (obj_pat1 (Nat.le_of_ble_eq_true rfl)) ?_
  repeat (first | refine Plan.move rfl rfl rfl rfl ?_ | refine Plan.assign rfl rfl rfl rfl ?_ | refine J.seq (J.region mixed hI (by kernel_rfl) ?_))
  exact J.ret (Nrm.retC1 (key := 1000) () rfl rfl rfl trivial (Sub.refl _) Ent.left)
theorem signed_fn {wO : World} {v : Value} {l : List UInt8} (hv : (bytesF l).den wO v) {β : Nat} (hβ : wO.heap.size ≤ β) {s : RS} (hs : okS l s) (hl : l.length ≤ 9223372036854775807) :
    SpcC Try.prog 63 [exIn wO (ptr β)] (rdC β v s) (fun _ : Unit => True) (fun _ => .ex (vi (rSig l s).1)) (fun _ => rdC β v (rSig l s).2) := by
  refine SpcC.intro2 Try.func63 rfl (Nat.le_of_ble_eq_true rfl) fun w1 F args hd hc => ?_
  have hB0 := exIn_below hd
  have hbe : ∀ w, Kept F w1 w → Below wO.heap.size wO w := fun w h => kept_beyond hB0 (fun b hb => by rw [(hc.2 b).1 hb]; exact hβ) h
  have hI := kept_below F w1
  have hA := Own.kept F w1
  have hs1 := hs.1
  have hs2 := hs.2
  have hb := vTake_bd l s.1
  refine J.weak [(0, .ex (ptr β)), (1000, heap (fun b => F b ∨ w1.heap.size ≤ b) [rdC β v s])] (Weak.cons rfl Sub.inEx (Weak.cons rfl (Sub.refl _) Weak.nil)) ?_
  repeat (first | refine Plan.move rfl rfl rfl rfl ?_ | refine Plan.assign rfl rfl rfl rfl ?_ | (refine Plan.ints rfl rfl rfl rfl rfl rfl ?_; (skip)) | refine Plan.nilOk rfl rfl rfl rfl ?_ | refine Plan.fieldC rfl rfl rfl rfl (by first | exact Try.underlying31 | exact Try.underlying75) rfl (by kernel_rfl) (by exact (rfl : _ = 2)) ?_ | refine Plan.loadC (key := 1000) (q := 0) rfl rfl rfl rfl rfl rfl (obj_reads1 rfl) (by exact Try.underlying3) (by rfl) (by decide) ?_ | refine J.seq (J.region mixed hI (by kernel_rfl) ?_) | refine J.seq (J.seq (J.region mixed hI (by kernel_rfl) ?_)))
  refine J.condN rfl (fun he => ?_) (fun he => ?_)
  · rw [rSig_err he]
    repeat (first | refine Plan.assign rfl rfl rfl rfl ?_ | refine J.seq (J.region mixed hI (by kernel_rfl) ?_))
    exact J.ret (Nrm.retC1 (key := 1000) () rfl rfl rfl trivial (Sub.refl _) Ent.left)
  have hz : s.2 = 0 := by omega
  have kT := vlq_TakeInt l s.1 (by omega) hl
  have eN : rSig l s = (zag (vTake l s.1).1, ((vTake l s.1).2.1, (vTake l s.1).2.2)) := if_neg (by omega)
  rw [eN]
  obtain ⟨sp, se⟩ := s
  simp only at hz hs1 hs2
  subst hz
  simp only at kT ⊢
  repeat (first | refine Plan.move rfl rfl rfl rfl ?_ | refine Plan.nilOk rfl rfl rfl rfl ?_ | refine Plan.fieldC rfl rfl rfl rfl (by first | exact Try.underlying31 | exact Try.underlying75) rfl (by kernel_rfl) (by first | exact (rfl : _ = 0) | exact (rfl : _ = 1)) ?_ | refine Plan.loadC (key := 1000) (q := 0) rfl rfl rfl rfl rfl rfl (obj_reads1 rfl) (by first | exact Try.underlying3 | exact Try.underlying40) (by rfl) (by decide) ?_ | refine J.seq (J.region mixed hI (by kernel_rfl) ?_) | refine J.skip ?_)
  refine Plan.call (B := 0) rfl rfl rfl kT Try.func69 rfl rfl (fun _ _ => Nat.zero_le _) (Opnds.cons rfl (Sub.known hbe hv) (Opnds.cons rfl (Sub.refl _) Opnds.nil)) ?_
  repeat (first | refine Plan.move rfl rfl rfl rfl ?_ | refine Plan.assign rfl rfl rfl rfl ?_ | refine Plan.extract rfl rfl rfl rfl rfl ?_ | refine Plan.nilOk rfl rfl rfl rfl ?_ | refine Plan.fieldC rfl rfl rfl rfl (by first | exact Try.underlying31 | exact Try.underlying75) rfl (by kernel_rfl) (by exact (rfl : _ = 1)) ?_ | refine J.seq (J.region mixed hI (by kernel_rfl) ?_))
  refine Plan.storeC (key := 1000) (q := 0) rfl rfl rfl rfl rfl rfl (by simp [Value.cells, Value.oneCell', str]) (by kernel_rfl) rfl hA rfl (obj_pat1 (Nat.le_of_ble_eq_true rfl)) ?_
  repeat (first | refine Plan.nilOk rfl rfl rfl rfl ?_ | refine Plan.fieldC rfl rfl rfl rfl (by first | exact Try.underlying31 | exact Try.underlying75) rfl (by kernel_rfl) (by exact (rfl : _ = 2)) ?_)
  refine Plan.storeC (key := 1000) (q := 0) rfl rfl rfl rfl rfl rfl (by simp [Value.cells, Value.oneCell', str]) (by kernel_rfl) rfl hA rfl (obj_pat1 (Nat.le_of_ble_eq_true rfl)) ?_
  repeat (first | refine Plan.move rfl rfl rfl rfl ?_ | refine Plan.assign rfl rfl rfl rfl ?_ | refine J.seq (J.region mixed hI (by kernel_rfl) ?_))
  exact J.ret (Nrm.retC1 (key := 1000) () rfl rfl rfl trivial (Sub.refl _) Ent.left)
theorem refsigned_fn {l : List UInt8} {β : Nat} {s : RS} (hs : okS l s) (hl : l.length ≤ 9223372036854775807) :
    SpcC Try.prog 52 [.ex (ptr β)] (rdC β (str l) s) (fun _ : Unit => True) (fun _ => .ex (vi (rSig l s).1)) (fun _ => rdC β (str l) (rSig l s).2) := by
  refine SpcC.intro2 Try.func52 rfl (Nat.le_of_ble_eq_true rfl) fun w1 F args hd hc => ?_
  have hI := kept_below F w1
  have hA := Own.kept F w1
  have hs1 := hs.1
  have hs2 := hs.2
  have hb := vTake_bd l s.1
  refine J.weak [(0, .ex (ptr β)), (1000, heap (fun b => F b ∨ w1.heap.size ≤ b) [rdC β (str l) s])] (Weak.cons rfl (Sub.refl _) (Weak.cons rfl (Sub.refl _) Weak.nil)) ?_
  repeat (first | refine Plan.move rfl rfl rfl rfl ?_ | refine Plan.assign rfl rfl rfl rfl ?_ | (refine Plan.ints rfl rfl rfl rfl rfl rfl ?_; (skip)) | refine Plan.nilOk rfl rfl rfl rfl ?_ | refine Plan.fieldC rfl rfl rfl rfl (by first | exact Try.underlying31 | exact Try.underlying80) rfl (by kernel_rfl) (by exact (rfl : _ = 2)) ?_ | refine Plan.loadC (key := 1000) (q := 0) rfl rfl rfl rfl rfl rfl (obj_reads1 rfl) (by exact Try.underlying3) (by rfl) (by decide) ?_ | refine J.seq (J.region mixed hI (by kernel_rfl) ?_) | refine J.seq (J.seq (J.region mixed hI (by kernel_rfl) ?_)))
  refine J.condN rfl (fun he => ?_) (fun he => ?_)
  · rw [rSig_err he]
    repeat (first | refine Plan.assign rfl rfl rfl rfl ?_ | refine J.seq (J.region mixed hI (by kernel_rfl) ?_))
    exact J.ret (Nrm.retC1 (key := 1000) () rfl rfl rfl trivial (Sub.refl _) Ent.left)
  have hz : s.2 = 0 := by omega
  have kT := ref_Take l s.1 (by omega) hl
  unfold takeResI at kT
  have eN : rSig l s = (zag (vTake l s.1).1, ((vTake l s.1).2.1, (vTake l s.1).2.2)) := if_neg (by omega)
  rw [eN]
  obtain ⟨sp, se⟩ := s
  simp only at hz hs1 hs2
  subst hz
  simp only at kT ⊢
  repeat (first | refine Plan.move rfl rfl rfl rfl ?_ | refine Plan.nilOk rfl rfl rfl rfl ?_ | refine Plan.fieldC rfl rfl rfl rfl (by first | exact Try.underlying31 | exact Try.underlying80) rfl (by kernel_rfl) (by first | exact (rfl : _ = 0) | exact (rfl : _ = 1)) ?_ | refine Plan.loadC (key := 1000) (q := 0) rfl rfl rfl rfl rfl rfl (obj_reads1 rfl) (by first | exact Try.underlying3 | exact Try.underlying9) (by rfl) (by decide) ?_ | refine J.seq (J.region mixed hI (by kernel_rfl) ?_) | refine J.skip ?_)
  refine Plan.call (B := 0) rfl rfl rfl kT Try.func64 rfl rfl (fun _ _ => Nat.zero_le _) (Opnds.cons rfl (Sub.refl _) (Opnds.cons rfl (Sub.refl _) Opnds.nil)) ?_
  repeat (first | refine Plan.move rfl rfl rfl rfl ?_ | refine Plan.assign rfl rfl rfl rfl ?_ | refine Plan.extract rfl rfl rfl rfl rfl ?_ | refine Plan.nilOk rfl rfl rfl rfl ?_ | refine Plan.fieldC rfl rfl rfl rfl (by first | exact Try.underlying31 | exact Try.underlying80) rfl (by kernel_rfl) (by exact (rfl : _ = 2)) ?_ | refine J.seq (J.region mixed hI (by kernel_rfl) ?_))
  refine Plan.storeC (key := 1000) (q := 0) rfl rfl rfl rfl rfl rfl (by simp [Value.cells, Value.oneCell', str]) (by kernel_rfl) rfl hA rfl (obj_pat1 (Nat.le_of_ble_eq_true rfl)) ?_
  repeat (first | refine Plan.move rfl rfl rfl rfl ?_ | refine Plan.nilOk rfl rfl rfl rfl ?_ | refine Plan.fieldC rfl rfl rfl rfl (by first | exact Try.underlying31 | exact Try.underlying80) rfl (by kernel_rfl) (by exact (rfl : _ = 1)) ?_ | refine J.seq (J.region mixed hI (by kernel_rfl) ?_))
  refine Plan.storeC (key := 1000) (q := 0) rfl rfl rfl rfl rfl rfl (by simp [Value.cells, Value.oneCell', str]) (by kernel_rfl) rfl hA rfl (obj_pat1 (Nat.le_of_ble_eq_true rfl)) ?_
  repeat (first | refine Plan.move rfl rfl rfl rfl ?_ | refine J.seq (J.region mixed hI (by kernel_rfl) ?_))
  refine Plan.call (B := 0) rfl rfl rfl (ref_Signed (vTake l sp).1 hb.1) Try.func66 rfl rfl (fun _ _ => Nat.zero_le _) (by repeat (first | exact Opnds.nil | refine Opnds.cons rfl (by exact Sub.refl _) ?_)) ?_
  repeat (refine Plan.assign rfl rfl rfl rfl ?_)
  exact J.ret (Nrm.retC1 (key := 1000) () rfl rfl rfl trivial (Sub.refl _) Ent.left)
end Go.Proofs.Ythjneijkapopoaa
