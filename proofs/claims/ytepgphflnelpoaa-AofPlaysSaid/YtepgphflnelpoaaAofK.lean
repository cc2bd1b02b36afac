/-
  Laid together: EvRefDec, AofRefO, AofRefA, AofRefW, DiskFlips, DiskRefCrash.
-/
import Derived.Test.YtepgphflnelpoaaAofJ

section
set_option linter.unusedSimpArgs false
set_option linter.unusedVariables false
set_option maxRecDepth 20000
namespace Go.Proofs.Ytepgphflnelpoaa
open Go.Free Go.RowKit Go.Proofs
set_option maxHeartbeats 4000000

def eO (l : List UInt8) (k : Int) (a b c : List UInt8) (x r n : Int) : EvV := ⟨nV l 0, nV l 1, nV l 2, fun i => nV l (3 + i), k, a, b, c, x, r, n⟩
theorem eO_k (l : List UInt8) (k : Int) : (eD l 16).enc.set 19 (vi k) = (eO l k [] [] [] 0 0 0).enc := rfl
theorem eO_all (l : List UInt8) (s : RS) : (eO l (oK l s) (oKey l s).1 (oField l s).1 (oValue l s).1 (oNum l s).1 (oRR l s).1 (oRN l s).1) = decW l s := rfl
def rdM (w0 : World) (α β γ : Nat) (l : List UInt8) (k : Int) (s : RS) (cs : List Value) : Env := [(0, .ex (str l)), (2, .ex (ptr α)), (4, .ex (ptr β)), (5, .ex (ptr γ)), (7, .ex (vi k)), (1000, heap (newB w0) [obj α ev0.enc, rdC β (str l) s, obj γ cs])]
theorem refdecode_fn (l : List UInt8) (hl : l.length ≤ 9223372036854775807) : Spc Try.prog 43 [.ex (str l)] fun _ => .tup [.ex (aggE (decR l)), .ex (vi (decE l))] := by
  refine Spc.intro Try.func43 rfl (Nat.le_of_ble_eq_true rfl) fun w0 => ?_
  have hI := hIb w0
  have hA := Own.below w0
  refine J.heap0 1000 (newB w0) ?_
  repeat (refine J.seq (J.region mixed hI (by kernel_rfl) ?_))
  refine Plan.allocC (key := 1000) (z := .agg ev0.enc.toArray) rfl rfl rfl (by intro _ e; cases e; decide) (by kernel_rfl) rfl hA fun α => ?_
  repeat (first | refine Plan.move rfl rfl rfl rfl ?_ | refine Plan.assign rfl rfl rfl rfl ?_ | refine J.seq (J.region mixed hI (by kernel_rfl) ?_))
  refine Plan.build (cells := #[str l, vi 0, vi 0]) rfl rfl (ps := [(0, _)]) rfl (Parts.cons rfl Parts.nil) (by kernel_rfl) ?_
  refine Plan.boxC (key := 1000) rfl rfl rfl (by intro _ e; cases e; decide) rfl rfl hA fun β => ?_
  repeat (first | refine Plan.assign rfl rfl rfl rfl ?_ | refine J.seq (J.region mixed hI (by kernel_rfl) ?_))
  refine Plan.allocC (key := 1000) (z := .agg ev0.enc.toArray) rfl rfl rfl (by intro _ e; cases e; decide) (by kernel_rfl) rfl hA fun γ => ?_
  repeat (first | refine Plan.move rfl rfl rfl rfl ?_ | refine J.seq (J.region mixed hI (by kernel_rfl) ?_))
  refine Plan.callC (key := 1000) (q := 1) rfl rfl rfl (refnum_fn (nS_ok l 0) hl) Try.func56 rfl rfl (by intro _ e; cases e; decide) (by repeat (first | exact Opnds.nil | refine Opnds.cons rfl (by exact Sub.refl _) ?_)) rfl hA rfl ?_
  intro _ _
  repeat (refine Plan.fieldC rfl rfl rfl rfl (by first | exact Try.underlying48 | exact Try.underlying42) rfl (by kernel_rfl) (by exact (rfl : _ = 0)) ?_)
  refine Plan.storeC (key := 1000) (q := 2) rfl rfl rfl rfl rfl rfl (by simp [Value.cells, Value.oneCell', str]) (by kernel_rfl) rfl hA rfl (obj_pat1 (Nat.le_of_ble_eq_true rfl)) ?_
  repeat (first | refine Plan.move rfl rfl rfl rfl ?_ | refine J.seq (J.region mixed hI (by kernel_rfl) ?_))
  refine Plan.callC (key := 1000) (q := 1) rfl rfl rfl (refnum_fn (nS_ok l 1) hl) Try.func56 rfl rfl (by intro _ e; cases e; decide) (by repeat (first | exact Opnds.nil | refine Opnds.cons rfl (by exact Sub.refl _) ?_)) rfl hA rfl ?_
  intro _ _
  repeat (refine Plan.fieldC rfl rfl rfl rfl (by first | exact Try.underlying48 | exact Try.underlying42) rfl (by kernel_rfl) (by first | exact (rfl : _ = 0) | exact (rfl : _ = 1)) ?_)
  refine Plan.storeC (key := 1000) (q := 2) rfl rfl rfl rfl rfl rfl (by simp [Value.cells, Value.oneCell', str]) (by kernel_rfl) rfl hA rfl (obj_pat1 (Nat.le_of_ble_eq_true rfl)) ?_
  repeat (first | refine Plan.move rfl rfl rfl rfl ?_ | refine J.seq (J.region mixed hI (by kernel_rfl) ?_))
  refine Plan.callC (key := 1000) (q := 1) rfl rfl rfl (refnum_fn (nS_ok l 2) hl) Try.func56 rfl rfl (by intro _ e; cases e; decide) (by repeat (first | exact Opnds.nil | refine Opnds.cons rfl (by exact Sub.refl _) ?_)) rfl hA rfl ?_
  intro _ _
  repeat (refine Plan.fieldC rfl rfl rfl rfl (by exact Try.underlying48) rfl (by kernel_rfl) (by exact (rfl : _ = 2)) ?_)
  refine Plan.storeC (key := 1000) (q := 2) rfl rfl rfl rfl rfl rfl (by simp [Value.cells, Value.oneCell', str]) (by kernel_rfl) rfl hA rfl (obj_pat1 (Nat.le_of_ble_eq_true rfl)) ?_
  repeat (first | refine Plan.assign rfl rfl rfl rfl ?_ | refine J.seq (J.seq (J.region mixed hI (by kernel_rfl) ?_)))
  refine J.block (J.loop (decLp w0 (str l) α β γ l 6) (fun i => i ≤ 16) (fun i => 16 - i) 0 (Nat.zero_le _) (Weak.cons rfl (Sub.refl _) (Weak.cons rfl (Sub.refl _) (Weak.cons rfl (Sub.refl _) (Weak.cons rfl (Sub.refl _) (Weak.cons rfl (Sub.refl _) (Weak.cons rfl (Sub.refl _) Weak.nil)))))) ?_)
  intro i hi
  repeat (first | refine Plan.move rfl rfl rfl rfl ?_ | (refine Plan.ints rfl rfl rfl rfl rfl rfl ?_; (skip)) | refine J.seq (J.seq (J.region mixed hI (by kernel_rfl) ?_)))
  refine J.condD rfl (fun hlt => ?_) (fun hlt => ?_)
  · have hlt' : i < 16 := by omega
    repeat (refine J.skip ?_)
    refine J.seq (J.block ?_)
    repeat (first | refine Plan.move rfl rfl rfl rfl ?_ | refine J.region mixed hI (by kernel_rfl) ?_)
    refine Plan.callC (key := 1000) (q := 1) rfl rfl rfl (refnum_fn (nS_ok l (3 + i)) hl) Try.func56 rfl rfl (by intro _ e; cases e; decide) (by repeat (first | exact Opnds.nil | refine Opnds.cons rfl (by exact Sub.refl _) ?_)) rfl hA rfl ?_
    intro _ _
    repeat (refine Plan.fieldC rfl rfl rfl rfl (by exact Try.underlying48) rfl (by kernel_rfl) (by exact (rfl : _ = 3)) ?_)
    refine Plan.indexArr (off := 3 + i) (len := 16) (sz := 1) rfl rfl rfl rfl rfl Try.underlying44 (by kernel_rfl) (by omega) (by omega) (by simp) ?_
    refine Plan.storeC (key := 1000) (q := 2) rfl rfl rfl rfl rfl rfl (by simp [Value.cells, Value.oneCell', str]) (by kernel_rfl) rfl hA rfl (obj_pat1 (by show 3 + i < 26; omega)) ?_
    repeat (first | refine Plan.move rfl rfl rfl rfl ?_ | refine Plan.assign rfl rfl rfl rfl ?_ | (refine Plan.ints rfl rfl rfl rfl rfl rfl ?_; (refine Plan.int (i64r (by omega)) ?_)) | refine J.region mixed hI (by kernel_rfl) ?_)
    refine Plan.int (y := ((i + 1 : Nat) : Int)) (by omega) ?_
    repeat (fail)
    refine Nrm.next (i + 1) (by omega) (by omega) ?_
    exact (Weak.cons rfl (Sub.refl _) (Weak.cons rfl (Sub.refl _) (Weak.cons rfl (Sub.refl _) (Weak.cons rfl (Sub.refl _) (Weak.cons rfl (Sub.refl _) (Weak.cons rfl (Sub.of_eq (by rw [← eD_succ l hlt'] <;> rfl)) Weak.nil))))))
  have hie : i = 16 := by omega
  subst hie
  obtain ⟨s, hs⟩ : ∃ s, nS l 19 = s := ⟨_, rfl⟩
  have h19 : nS l (3 + 16) = s := (congrArg (nS l) (show 3 + 16 = 19 from by decide)).trans hs
  have okl : okS l s := by rw [← hs]; exact nS_ok l _
  refine J.exit (Nrm.weak (decM w0 (str l) α β γ l s (eD l 16).enc) (Weak.cons rfl (Sub.refl _) (Weak.cons rfl (Sub.refl _) (Weak.cons rfl (Sub.refl _) (Weak.cons rfl (Sub.refl _) (Weak.cons rfl (Sub.of_eq (by rw [h19])) Weak.nil))))) ?_)
  refine J.seqMid (σ := Unit) (fun _ => rdM w0 α β γ l (oK l s) (rNum l s).2 (eD l 16).enc) (fun _ => True) ?_ fun _ _ => ?_
  · repeat (first | refine Plan.move rfl rfl rfl rfl ?_ | refine J.region mixed hI (by kernel_rfl) ?_)
    refine Plan.callC (key := 1000) (q := 1) rfl rfl rfl (refnum_fn okl hl) Try.func56 rfl rfl (by intro _ e; cases e; decide) (by repeat (first | exact Opnds.nil | refine Opnds.cons rfl (by exact Sub.refl _) ?_)) rfl hA rfl ?_
    intro _ _
    repeat (refine Plan.assign rfl rfl rfl rfl ?_)
    exact Nrm.mid () trivial (Weak.cons rfl (Sub.refl _) (Weak.cons rfl (Sub.refl _) (Weak.cons rfl (Sub.refl _) (Weak.cons rfl (Sub.refl _) (Weak.cons rfl (Sub.refl _) (Weak.cons rfl (Sub.refl _) Weak.nil))))))
  refine J.seqMid (σ := Unit) (fun _ => rdM w0 α β γ l (oK l s) (oS1 l s) (eD l 16).enc) (fun _ => True) ?_ fun _ _ => ?_
  · repeat (first | refine Plan.move rfl rfl rfl rfl ?_ | (refine Plan.ints rfl rfl rfl rfl rfl rfl ?_; (skip)) | refine Plan.nilOk rfl rfl rfl rfl ?_ | refine Plan.fieldC rfl rfl rfl rfl (by first | exact Try.underlying48 | exact Try.underlying105) rfl (by kernel_rfl) (by exact (rfl : _ = 2)) ?_ | refine Plan.loadC (key := 1000) (q := 1) rfl rfl rfl rfl rfl rfl (obj_reads1 rfl) (by exact Try.underlying3) (by rfl) (by decide) ?_ | refine J.seq (J.region mixed hI (by kernel_rfl) ?_))
    refine Plan.splitE (fun h1 => ?_) (fun h1 => ?_)
    · repeat (first | refine Plan.move rfl rfl rfl rfl ?_ | (refine Plan.ints rfl rfl rfl rfl rfl rfl ?_; (skip)))
      refine Plan.splitD (fun h2 => ?_) (fun h2 => ?_)
      · have e1 : oS1 l s = ((rNum l s).2.1, 3) := if_pos ⟨by omega, fun hk => by have := hk.1; omega⟩
        repeat (first | refine Plan.move rfl rfl rfl rfl ?_ | refine Plan.skip rfl rfl ?_ | refine Plan.pick rfl rfl rfl rfl rfl ?_ | refine Plan.nilOk rfl rfl rfl rfl ?_ | refine Plan.fieldC rfl rfl rfl rfl (by first | exact Try.underlying48 | exact Try.underlying105) rfl (by kernel_rfl) (by exact (rfl : _ = 2)) ?_ | refine J.region mixed hI (by kernel_rfl) ?_ | refine J.condT rfl ?_)
        refine Plan.storeC (key := 1000) (q := 1) rfl rfl rfl rfl rfl rfl (by simp [Value.cells, Value.oneCell', str]) (by kernel_rfl) rfl hA rfl (obj_pat1 (Nat.le_of_ble_eq_true rfl)) ?_
        repeat (fail)
        exact Nrm.mid () trivial ((Weak.cons rfl (Sub.refl _) (Weak.cons rfl (Sub.refl _) (Weak.cons rfl (Sub.refl _) (Weak.cons rfl (Sub.refl _) (Weak.cons rfl (Sub.refl _) (Weak.cons rfl (Sub.of_eq (by rw [e1] <;> rfl)) Weak.nil)))))))
      · repeat (first | refine Plan.move rfl rfl rfl rfl ?_ | refine Plan.pick rfl rfl rfl rfl rfl ?_ | (refine Plan.ints rfl rfl rfl rfl rfl rfl ?_; (skip)))
        refine J.condD rfl (fun h3 => ?_) (fun h3 => ?_)
        · have e1 : oS1 l s = ((rNum l s).2.1, 3) := if_pos ⟨by omega, fun hk => by have := hk.2; omega⟩
          repeat (first | refine Plan.move rfl rfl rfl rfl ?_ | refine Plan.nilOk rfl rfl rfl rfl ?_ | refine Plan.fieldC rfl rfl rfl rfl (by first | exact Try.underlying48 | exact Try.underlying105) rfl (by kernel_rfl) (by exact (rfl : _ = 2)) ?_ | refine J.region mixed hI (by kernel_rfl) ?_)
          refine Plan.storeC (key := 1000) (q := 1) rfl rfl rfl rfl rfl rfl (by simp [Value.cells, Value.oneCell', str]) (by kernel_rfl) rfl hA rfl (obj_pat1 (Nat.le_of_ble_eq_true rfl)) ?_
          repeat (fail)
          exact Nrm.mid () trivial ((Weak.cons rfl (Sub.refl _) (Weak.cons rfl (Sub.refl _) (Weak.cons rfl (Sub.refl _) (Weak.cons rfl (Sub.refl _) (Weak.cons rfl (Sub.refl _) (Weak.cons rfl (Sub.of_eq (by rw [e1] <;> rfl)) Weak.nil)))))))
        · have e1 : oS1 l s = (rNum l s).2 := if_neg fun hh => hh.2 ⟨by omega, by omega⟩
          refine J.skip ?_
          exact Nrm.mid () trivial ((Weak.cons rfl (Sub.refl _) (Weak.cons rfl (Sub.refl _) (Weak.cons rfl (Sub.refl _) (Weak.cons rfl (Sub.refl _) (Weak.cons rfl (Sub.refl _) (Weak.cons rfl (Sub.of_eq (by rw [e1])) Weak.nil)))))))
    · have e1 : oS1 l s = (rNum l s).2 := if_neg fun hh => h1 (by omega)
      repeat (first | refine Plan.skip rfl rfl ?_ | refine Plan.pick rfl rfl rfl rfl rfl ?_ | refine J.condF rfl ?_ | refine J.skip ?_)
      exact Nrm.mid () trivial ((Weak.cons rfl (Sub.refl _) (Weak.cons rfl (Sub.refl _) (Weak.cons rfl (Sub.refl _) (Weak.cons rfl (Sub.refl _) (Weak.cons rfl (Sub.refl _) (Weak.cons rfl (Sub.of_eq (by rw [e1])) Weak.nil)))))))
  refine J.seqMid (σ := Unit) (fun _ => rdM w0 α β γ l (oK l s) (oS1 l s) (eO l (oK l s) [] [] [] 0 0 0).enc) (fun _ => True) ?_ fun _ _ => ?_
  · repeat (first | refine Plan.move rfl rfl rfl rfl ?_ | refine Plan.fieldC rfl rfl rfl rfl (by first | exact Try.underlying48 | exact Try.underlying46) rfl (by kernel_rfl) (by exact (rfl : _ = 19)) ?_ | refine J.region mixed hI (by kernel_rfl) ?_)
    refine Plan.storeC (key := 1000) (q := 2) rfl rfl rfl rfl rfl rfl (by simp [Value.cells, Value.oneCell', str]) (by kernel_rfl) rfl hA rfl (obj_pat1 (Nat.le_of_ble_eq_true rfl)) ?_
    exact Nrm.mid () trivial (Weak.cons rfl (Sub.refl _) (Weak.cons rfl (Sub.refl _) (Weak.cons rfl (Sub.refl _) (Weak.cons rfl (Sub.refl _) (Weak.cons rfl (Sub.refl _) (Weak.cons rfl (Sub.of_eq (rfl)) Weak.nil))))))
  refine J.seqMid (σ := Unit) (fun _ => rdM w0 α β γ l (oK l s) (oKey l s).2 (eO l (oK l s) (oKey l s).1 [] [] 0 0 0).enc) (fun _ => True) ?_ fun _ _ => ?_
  · repeat (first | refine Plan.move rfl rfl rfl rfl ?_ | refine J.region mixed hI (by kernel_rfl) ?_)
    refine Plan.callC (key := 1000) (q := 1) rfl rfl rfl (reftext_fn (oS1_ok okl) hl) Try.func57 rfl rfl (by intro _ e; cases e; decide) (by repeat (first | exact Opnds.nil | refine Opnds.cons rfl (by exact Sub.refl _) ?_)) rfl hA rfl ?_
    intro _ _
    repeat (refine Plan.fieldC rfl rfl rfl rfl (by first | exact Try.underlying48 | exact Try.underlying46) rfl (by kernel_rfl) (by first | exact (rfl : _ = 19) | exact (rfl : _ = 20)) ?_)
    refine Plan.storeC (key := 1000) (q := 2) rfl rfl rfl rfl rfl rfl (by simp [Value.cells, Value.oneCell', str]) (by kernel_rfl) rfl hA rfl (obj_pat1 (Nat.le_of_ble_eq_true rfl)) ?_
    repeat (fail)
    exact Nrm.mid () trivial ((Weak.cons rfl (Sub.refl _) (Weak.cons rfl (Sub.refl _) (Weak.cons rfl (Sub.refl _) (Weak.cons rfl (Sub.refl _) (Weak.cons rfl (Sub.refl _) (Weak.cons rfl (Sub.of_eq (rfl)) Weak.nil)))))))
  refine J.seqMid (σ := Unit) (fun _ => rdM w0 α β γ l (oK l s) (oField l s).2 (eO l (oK l s) (oKey l s).1 (oField l s).1 [] 0 0 0).enc) (fun _ => True) ?_ fun _ _ => ?_
  · repeat (first | refine Plan.move rfl rfl rfl rfl ?_ | refine J.seq (J.region mixed hI (by kernel_rfl) ?_))
    refine Plan.call (B := 0) rfl rfl rfl (refField_fn (oK l s)) Try.func58 rfl rfl (fun _ _ => Nat.zero_le _) (by repeat (first | exact Opnds.nil | refine Opnds.cons rfl (by exact Sub.refl _) ?_)) ?_
    refine J.condD rfl (fun hf => ?_) (fun hf => ?_)
    · have hy : oField l s = _ := if_pos hf
      repeat (first | refine Plan.move rfl rfl rfl rfl ?_ | refine J.region mixed hI (by kernel_rfl) ?_)
      refine Plan.callC (key := 1000) (q := 1) rfl rfl rfl (reftext_fn (oKey_ok okl).1 hl) Try.func57 rfl rfl (by intro _ e; cases e; decide) (by repeat (first | exact Opnds.nil | refine Opnds.cons rfl (by exact Sub.refl _) ?_)) rfl hA rfl ?_
      intro _ _
      repeat (refine Plan.fieldC rfl rfl rfl rfl (by first | exact Try.underlying48 | exact Try.underlying46) rfl (by kernel_rfl) (by first | exact (rfl : _ = 19) | exact (rfl : _ = 21)) ?_)
      refine Plan.storeC (key := 1000) (q := 2) rfl rfl rfl rfl rfl rfl (by simp [Value.cells, Value.oneCell', str]) (by kernel_rfl) rfl hA rfl (obj_pat1 (Nat.le_of_ble_eq_true rfl)) ?_
      repeat (fail)
      exact Nrm.mid () trivial ((Weak.cons rfl (Sub.refl _) (Weak.cons rfl (Sub.refl _) (Weak.cons rfl (Sub.refl _) (Weak.cons rfl (Sub.refl _) (Weak.cons rfl (Sub.refl _) (Weak.cons rfl (Sub.of_eq (by rw [hy] <;> rfl)) Weak.nil)))))))
    · have hn : oField l s = _ := if_neg hf
      refine J.skip ?_
      exact Nrm.mid () trivial ((Weak.cons rfl (Sub.refl _) (Weak.cons rfl (Sub.refl _) (Weak.cons rfl (Sub.refl _) (Weak.cons rfl (Sub.refl _) (Weak.cons rfl (Sub.refl _) (Weak.cons rfl (Sub.of_eq (by rw [hn] <;> rfl)) Weak.nil)))))))
  refine J.seqMid (σ := Unit) (fun _ => rdM w0 α β γ l (oK l s) (oValue l s).2 (eO l (oK l s) (oKey l s).1 (oField l s).1 (oValue l s).1 0 0 0).enc) (fun _ => True) ?_ fun _ _ => ?_
  · repeat (first | refine Plan.move rfl rfl rfl rfl ?_ | refine J.seq (J.region mixed hI (by kernel_rfl) ?_))
    refine Plan.call (B := 0) rfl rfl rfl (refValue_fn (oK l s)) Try.func59 rfl rfl (fun _ _ => Nat.zero_le _) (by repeat (first | exact Opnds.nil | refine Opnds.cons rfl (by exact Sub.refl _) ?_)) ?_
    refine J.condD rfl (fun hf => ?_) (fun hf => ?_)
    · have hy : oValue l s = _ := if_pos hf
      repeat (first | refine Plan.move rfl rfl rfl rfl ?_ | refine J.region mixed hI (by kernel_rfl) ?_)
      refine Plan.callC (key := 1000) (q := 1) rfl rfl rfl (reftext_fn (oField_ok okl).1 hl) Try.func57 rfl rfl (by intro _ e; cases e; decide) (by repeat (first | exact Opnds.nil | refine Opnds.cons rfl (by exact Sub.refl _) ?_)) rfl hA rfl ?_
      intro _ _
      repeat (refine Plan.fieldC rfl rfl rfl rfl (by first | exact Try.underlying48 | exact Try.underlying46) rfl (by kernel_rfl) (by first | exact (rfl : _ = 19) | exact (rfl : _ = 22)) ?_)
      refine Plan.storeC (key := 1000) (q := 2) rfl rfl rfl rfl rfl rfl (by simp [Value.cells, Value.oneCell', str]) (by kernel_rfl) rfl hA rfl (obj_pat1 (Nat.le_of_ble_eq_true rfl)) ?_
      repeat (fail)
      exact Nrm.mid () trivial ((Weak.cons rfl (Sub.refl _) (Weak.cons rfl (Sub.refl _) (Weak.cons rfl (Sub.refl _) (Weak.cons rfl (Sub.refl _) (Weak.cons rfl (Sub.refl _) (Weak.cons rfl (Sub.of_eq (by rw [hy] <;> rfl)) Weak.nil)))))))
    · have hn : oValue l s = _ := if_neg hf
      refine J.skip ?_
      exact Nrm.mid () trivial ((Weak.cons rfl (Sub.refl _) (Weak.cons rfl (Sub.refl _) (Weak.cons rfl (Sub.refl _) (Weak.cons rfl (Sub.refl _) (Weak.cons rfl (Sub.refl _) (Weak.cons rfl (Sub.of_eq (by rw [hn] <;> rfl)) Weak.nil)))))))
  refine J.seqMid (σ := Unit) (fun _ => rdM w0 α β γ l (oK l s) (oNum l s).2 (eO l (oK l s) (oKey l s).1 (oField l s).1 (oValue l s).1 (oNum l s).1 0 0).enc) (fun _ => True) ?_ fun _ _ => ?_
  · repeat (first | refine Plan.move rfl rfl rfl rfl ?_ | refine J.seq (J.region mixed hI (by kernel_rfl) ?_))
    refine Plan.call (B := 0) rfl rfl rfl (refNum_fn (oK l s)) Try.func60 rfl rfl (fun _ _ => Nat.zero_le _) (by repeat (first | exact Opnds.nil | refine Opnds.cons rfl (by exact Sub.refl _) ?_)) ?_
    refine J.condD rfl (fun hf => ?_) (fun hf => ?_)
    · have hy : oNum l s = _ := if_pos hf
      repeat (first | refine Plan.move rfl rfl rfl rfl ?_ | refine J.region mixed hI (by kernel_rfl) ?_)
      refine Plan.callC (key := 1000) (q := 1) rfl rfl rfl (refsigned_fn (oValue_ok okl).1 hl) Try.func61 rfl rfl (by intro _ e; cases e; decide) (by repeat (first | exact Opnds.nil | refine Opnds.cons rfl (by exact Sub.refl _) ?_)) rfl hA rfl ?_
      intro _ _
      repeat (refine Plan.fieldC rfl rfl rfl rfl (by first | exact Try.underlying48 | exact Try.underlying46) rfl (by kernel_rfl) (by first | exact (rfl : _ = 19) | exact (rfl : _ = 23)) ?_)
      refine Plan.storeC (key := 1000) (q := 2) rfl rfl rfl rfl rfl rfl (by simp [Value.cells, Value.oneCell', str]) (by kernel_rfl) rfl hA rfl (obj_pat1 (Nat.le_of_ble_eq_true rfl)) ?_
      repeat (fail)
      exact Nrm.mid () trivial ((Weak.cons rfl (Sub.refl _) (Weak.cons rfl (Sub.refl _) (Weak.cons rfl (Sub.refl _) (Weak.cons rfl (Sub.refl _) (Weak.cons rfl (Sub.refl _) (Weak.cons rfl (Sub.of_eq (by rw [hy] <;> rfl)) Weak.nil)))))))
    · have hn : oNum l s = _ := if_neg hf
      refine J.skip ?_
      exact Nrm.mid () trivial ((Weak.cons rfl (Sub.refl _) (Weak.cons rfl (Sub.refl _) (Weak.cons rfl (Sub.refl _) (Weak.cons rfl (Sub.refl _) (Weak.cons rfl (Sub.refl _) (Weak.cons rfl (Sub.of_eq (by rw [hn] <;> rfl)) Weak.nil)))))))
  refine J.seqMid (σ := Unit) (fun _ => rdM w0 α β γ l (oK l s) (oRN l s).2 (decW l s).enc) (fun _ => True) ?_ fun _ _ => ?_
  · repeat (first | refine Plan.move rfl rfl rfl rfl ?_ | refine J.seq (J.region mixed hI (by kernel_rfl) ?_))
    refine Plan.call (B := 0) rfl rfl rfl (refRef_fn (oK l s)) Try.func62 rfl rfl (fun _ _ => Nat.zero_le _) (by repeat (first | exact Opnds.nil | refine Opnds.cons rfl (by exact Sub.refl _) ?_)) ?_
    refine J.condD rfl (fun hf => ?_) (fun hf => ?_)
    · have hy1 : oRR l s = _ := if_pos hf
      have hy2 : oRN l s = _ := if_pos hf
      have okr := (oRR_ok okl).1
      rw [hy1] at hy2 okr
      repeat (first | refine Plan.move rfl rfl rfl rfl ?_ | refine J.seq (J.region mixed hI (by kernel_rfl) ?_))
      refine Plan.callC (key := 1000) (q := 1) rfl rfl rfl (refnum_fn (oNum_ok okl).1 hl) Try.func56 rfl rfl (by intro _ e; cases e; decide) (by repeat (first | exact Opnds.nil | refine Opnds.cons rfl (by exact Sub.refl _) ?_)) rfl hA rfl ?_
      intro _ _
      repeat (refine Plan.fieldC rfl rfl rfl rfl (by first | exact Try.underlying48 | exact Try.underlying46 | exact Try.underlying42) rfl (by kernel_rfl) (by first | exact (rfl : _ = 19) | exact (rfl : _ = 24)) ?_)
      refine Plan.storeC (key := 1000) (q := 2) rfl rfl rfl rfl rfl rfl (by simp [Value.cells, Value.oneCell', str]) (by kernel_rfl) rfl hA rfl (obj_pat1 (Nat.le_of_ble_eq_true rfl)) ?_
      repeat (first | refine Plan.move rfl rfl rfl rfl ?_ | refine J.region mixed hI (by kernel_rfl) ?_)
      refine Plan.callC (key := 1000) (q := 1) rfl rfl rfl (refnum_fn okr hl) Try.func56 rfl rfl (by intro _ e; cases e; decide) (by repeat (first | exact Opnds.nil | refine Opnds.cons rfl (by exact Sub.refl _) ?_)) rfl hA rfl ?_
      intro _ _
      repeat (refine Plan.fieldC rfl rfl rfl rfl (by first | exact Try.underlying48 | exact Try.underlying46 | exact Try.underlying42) rfl (by kernel_rfl) (by first | exact (rfl : _ = 19) | exact (rfl : _ = 24) | exact (rfl : _ = 25)) ?_)
      refine Plan.storeC (key := 1000) (q := 2) rfl rfl rfl rfl rfl rfl (by simp [Value.cells, Value.oneCell', str]) (by kernel_rfl) rfl hA rfl (obj_pat1 (Nat.le_of_ble_eq_true rfl)) ?_
      repeat (fail)
      exact Nrm.mid () trivial ((Weak.cons rfl (Sub.refl _) (Weak.cons rfl (Sub.refl _) (Weak.cons rfl (Sub.refl _) (Weak.cons rfl (Sub.refl _) (Weak.cons rfl (Sub.refl _) (Weak.cons rfl (Sub.of_eq (by rw [← eO_all, hy2, hy1] <;> rfl)) Weak.nil)))))))
    · have hn1 : oRR l s = _ := if_neg hf
      have hn2 : oRN l s = _ := if_neg hf
      rw [hn1] at hn2
      refine J.skip ?_
      exact Nrm.mid () trivial ((Weak.cons rfl (Sub.refl _) (Weak.cons rfl (Sub.refl _) (Weak.cons rfl (Sub.refl _) (Weak.cons rfl (Sub.refl _) (Weak.cons rfl (Sub.refl _) (Weak.cons rfl (Sub.of_eq (by rw [← eO_all, hn2, hn1] <;> rfl)) Weak.nil)))))))
  have e1 : (oRN l s).2 = decS l := by rw [decS, hs]
  have e2 : decW l s = decV l := by rw [decV, hs]
  have okW := decV_ok l
  obtain ⟨hE1, hE2, hE3, hR1, hR2⟩ := dec_cases l
  rw [e1, e2]
  generalize decS l = fs at hE1 hE2 hE3 hR1 hR2 ⊢
  generalize decV l = W at okW hE2 hE3 hR1 hR2 ⊢
  generalize decE l = xE at hE1 hE2 hE3 hR1 hR2 ⊢
  generalize decR l = xR at hR1 hR2 ⊢
  clear e1 e2
  generalize oK l s = kk
  refine J.seqMid (σ := Unit) (fun _ => rdM w0 α β γ l kk (fs.1, xE) W.enc) (fun _ => True) ?_ fun _ _ => ?_
  · repeat (first | refine Plan.move rfl rfl rfl rfl ?_ | (refine Plan.ints rfl rfl rfl rfl rfl rfl ?_; (skip)) | refine Plan.nilOk rfl rfl rfl rfl ?_ | refine Plan.fieldC rfl rfl rfl rfl (by first | exact Try.underlying48 | exact Try.underlying105) rfl (by kernel_rfl) (by exact (rfl : _ = 2)) ?_ | refine Plan.loadC (key := 1000) (q := 1) rfl rfl rfl rfl rfl rfl (obj_reads1 rfl) (by exact Try.underlying3) (by rfl) (by decide) ?_ | refine J.seq (J.region mixed hI (by kernel_rfl) ?_))
    refine Plan.splitE (fun he => ?_) (fun he => ?_)
    · have he' : fs.2 = 0 := by omega
      repeat (first | refine Plan.move rfl rfl rfl rfl ?_ | refine Plan.lenStr rfl rfl rfl rfl Try.underlying9 ?_ | (refine Plan.ints rfl rfl rfl rfl rfl rfl ?_; (skip)) | refine Plan.nilOk rfl rfl rfl rfl ?_ | refine Plan.fieldC rfl rfl rfl rfl (by first | exact Try.underlying48 | exact Try.underlying105) rfl (by kernel_rfl) (by exact (rfl : _ = 1)) ?_ | refine Plan.loadC (key := 1000) (q := 1) rfl rfl rfl rfl rfl rfl (obj_reads1 rfl) (by exact Try.underlying3) (by rfl) (by decide) ?_)
      refine Plan.splitN (fun h1 => ?_) (fun h1 => ?_)
      · have hE : xE = 3 := hE2 he' (.inl (by omega))
        repeat (first | refine Plan.move rfl rfl rfl rfl ?_ | refine Plan.skip rfl rfl ?_ | refine Plan.pick rfl rfl rfl rfl rfl ?_ | refine Plan.nilOk rfl rfl rfl rfl ?_ | refine Plan.fieldC rfl rfl rfl rfl (by first | exact Try.underlying48 | exact Try.underlying105) rfl (by kernel_rfl) (by exact (rfl : _ = 2)) ?_ | refine J.region mixed hI (by kernel_rfl) ?_ | refine J.condT rfl ?_)
        refine Plan.storeC (key := 1000) (q := 1) rfl rfl rfl rfl rfl rfl (by simp [Value.cells, Value.oneCell', str]) (by kernel_rfl) rfl hA rfl (obj_pat1 (Nat.le_of_ble_eq_true rfl)) ?_
        repeat (fail)
        exact Nrm.mid () trivial ((Weak.cons rfl (Sub.refl _) (Weak.cons rfl (Sub.refl _) (Weak.cons rfl (Sub.refl _) (Weak.cons rfl (Sub.refl _) (Weak.cons rfl (Sub.refl _) (Weak.cons rfl (Sub.of_eq (by rw [hE] <;> rfl)) Weak.nil)))))))
      · repeat (fail)
        refine Plan.loadAggC (key := 1000) (q := 2) (vs := W.enc) rfl rfl rfl rfl rfl rfl obj_whole Try.underlying48 rfl (by rw [encE]; kernel_rfl) (by decide) ?_
        refine Plan.call (B := w0.heap.size) rfl rfl rfl (refRight_fn W okW) Try.func45 rfl rfl (hBb w0) (by repeat (first | exact Opnds.nil | refine Opnds.cons rfl (by exact Sub.refl _) ?_)) ?_
        repeat (first | refine Plan.pick rfl rfl rfl rfl rfl ?_ | refine Plan.un rfl rfl rfl rfl rfl ?_)
        refine J.condND rfl (fun hr => ?_) (fun hr => ?_)
        · have hE : xE = 3 := hE2 he' (.inr hr)
          repeat (first | refine Plan.move rfl rfl rfl rfl ?_ | refine Plan.nilOk rfl rfl rfl rfl ?_ | refine Plan.fieldC rfl rfl rfl rfl (by first | exact Try.underlying48 | exact Try.underlying105) rfl (by kernel_rfl) (by exact (rfl : _ = 2)) ?_ | refine J.region mixed hI (by kernel_rfl) ?_)
          refine Plan.storeC (key := 1000) (q := 1) rfl rfl rfl rfl rfl rfl (by simp [Value.cells, Value.oneCell', str]) (by kernel_rfl) rfl hA rfl (obj_pat1 (Nat.le_of_ble_eq_true rfl)) ?_
          repeat (fail)
          exact Nrm.mid () trivial ((Weak.cons rfl (Sub.refl _) (Weak.cons rfl (Sub.refl _) (Weak.cons rfl (Sub.refl _) (Weak.cons rfl (Sub.refl _) (Weak.cons rfl (Sub.refl _) (Weak.cons rfl (Sub.of_eq (by rw [hE] <;> rfl)) Weak.nil)))))))
        · have hE : xE = 0 := hE3 he' (by omega) hr
          refine J.skip ?_
          exact Nrm.mid () trivial ((Weak.cons rfl (Sub.refl _) (Weak.cons rfl (Sub.refl _) (Weak.cons rfl (Sub.refl _) (Weak.cons rfl (Sub.refl _) (Weak.cons rfl (Sub.refl _) (Weak.cons rfl (Sub.of_eq (by rw [hE, ← he'] <;> rfl)) Weak.nil)))))))
    · have hE : xE = fs.2 := hE1 (by omega)
      repeat (first | refine Plan.skip rfl rfl ?_ | refine Plan.pick rfl rfl rfl rfl rfl ?_ | refine J.condF rfl ?_ | refine J.skip ?_)
      exact Nrm.mid () trivial ((Weak.cons rfl (Sub.refl _) (Weak.cons rfl (Sub.refl _) (Weak.cons rfl (Sub.refl _) (Weak.cons rfl (Sub.refl _) (Weak.cons rfl (Sub.refl _) (Weak.cons rfl (Sub.of_eq (by rw [hE] <;> rfl)) Weak.nil)))))))
  repeat (first | refine Plan.move rfl rfl rfl rfl ?_ | (refine Plan.ints rfl rfl rfl rfl rfl rfl ?_; (skip)) | refine Plan.nilOk rfl rfl rfl rfl ?_ | refine Plan.fieldC rfl rfl rfl rfl (by first | exact Try.underlying48 | exact Try.underlying105) rfl (by kernel_rfl) (by exact (rfl : _ = 2)) ?_ | refine Plan.loadC (key := 1000) (q := 1) rfl rfl rfl rfl rfl rfl (obj_reads1 rfl) (by exact Try.underlying3) (by rfl) (by decide) ?_ | refine J.seq (J.seq (J.region mixed hI (by kernel_rfl) ?_)))
  refine J.condN rfl (fun he => ?_) (fun he => ?_)
  · have hR : xR = ev0 := hR1 (by omega)
    rw [hR]
    refine J.seq ?_
    refine J.draw mixed hI ?_; repeat' (first | refine Plan.move rfl rfl rfl rfl ?_ | refine Plan.assign rfl rfl rfl rfl ?_ | refine Plan.nilOk rfl rfl rfl rfl ?_ | refine Plan.fieldC rfl rfl rfl rfl (by first | exact Try.underlying48 | exact Try.underlying105) rfl (by kernel_rfl) (by exact (rfl : _ = 2)) ?_ | refine Plan.loadC (key := 1000) (q := 1) rfl rfl rfl rfl rfl rfl (obj_reads1 rfl) (by exact Try.underlying3) (by rfl) (by decide) ?_ | refine Plan.build (cells := ev0.enc.toArray) rfl rfl (ps := []) rfl Parts.nil (by kernel_rfl) ?_ | refine Plan.storeC (key := 1000) (q := 0) (off := 0) rfl rfl rfl rfl rfl rfl (by simp [Value.cells, Value.oneCell', ev0, EvV.enc, str]) (by show _ = some ev0.enc.toArray.size; kernel_rfl) rfl hA rfl (obj_pat (Nat.le_of_ble_eq_true rfl)) ?_ | refine D.go (D.two 0 2 (by decide +kernel) (by kernel_rfl) hI ?_ ?_) | refine D.go (D.two 0 3 (by decide +kernel) (by kernel_rfl) hI ?_ ?_) | refine D.go (D.two 0 4 (by decide +kernel) (by kernel_rfl) hI ?_ ?_) | refine D.go (D.two 1 5 (by decide +kernel) (by kernel_rfl) hI ?_ ?_) | refine D.go (D.two 2 5 (by decide +kernel) (by kernel_rfl) hI ?_ ?_) | refine D.go (D.two 3 5 (by decide +kernel) (by kernel_rfl) hI ?_ ?_) | refine D.go (D.two 4 5 (by decide +kernel) (by kernel_rfl) hI ?_ ?_) | refine D.go (D.one 0 (by decide +kernel) (by kernel_rfl) hI ?_) | refine D.go (D.one 5 (by decide +kernel) (by kernel_rfl) hI ?_) | refine D.go (D.one 1 (by decide +kernel) (by kernel_rfl) hI ?_) | refine D.go (D.one 2 (by decide +kernel) (by kernel_rfl) hI ?_) | refine D.go (D.one 3 (by decide +kernel) (by kernel_rfl) hI ?_) | refine D.go (D.one 4 (by decide +kernel) (by kernel_rfl) hI ?_) | refine D.go (D.one 6 (by decide +kernel) (by kernel_rfl) hI ?_) | refine D.go (D.done (by decide +kernel) ?_) | refine (D.two 0 1 (by decide +kernel) (by kernel_rfl) hI ?_ ?_))
    all_goals exact J.ret (Nrm.retCT (key := 1000) (q := 0) rfl (fun _ h => h) rfl rfl rfl obj_whole Try.underlying48 rfl (by kernel_rfl) fun B _ => ⟨_, _, rfl, rfl, Sub.refl _⟩)
  · have hE : xE = 0 := by omega
    have hR : xR = W := hR2 hE
    rw [hR, hE]
    repeat (first | refine J.seq (J.region mixed hI (by kernel_rfl) ?_) | refine J.skip ?_)
    refine Plan.loadAggC (key := 1000) (q := 2) (vs := W.enc) rfl rfl rfl rfl rfl rfl obj_whole Try.underlying48 rfl (by rw [encE]; kernel_rfl) (by decide) ?_
    refine Plan.storeC (key := 1000) (q := 0) (off := 0) rfl rfl rfl rfl rfl rfl (by simp [Value.cells, Value.oneCell', ev0, EvV.enc, str]) (by show _ = some W.enc.toArray.size; kernel_rfl) rfl hA rfl (obj_pat (Nat.le_of_ble_eq_true rfl)) ?_
    repeat (refine Plan.assign rfl rfl rfl rfl ?_)
    exact J.ret (Nrm.retCT (key := 1000) (q := 0) rfl (fun _ h => h) rfl rfl rfl obj_whole Try.underlying48 rfl (by kernel_rfl) fun B _ => ⟨_, _, rfl, rfl, Sub.refl _⟩)
end Go.Proofs.Ytepgphflnelpoaa
end

section
set_option linter.unusedSimpArgs false
set_option linter.unusedVariables false
set_option maxRecDepth 20000
namespace Go.Proofs.Ytepgphflnelpoaa
open Go.Free Go.RowKit Go.Proofs
set_option maxHeartbeats 8000000

def orE (F : Nat → Prop) (w0 w1 : World) (B β γ : Nat) (l : List UInt8) (f r : Nat) (bs : List (List UInt8)) (s : Nat × LogV × Nat) : Env :=
  [(0, .ex (ptr β)), (3, .ex (ptr γ)), (4, .old w1 (ownS B bs)), (7, .ex (vi s.2.2)), (25, .ex (vi bs.length)), (26, .ex (vi s.1)),
   (1000, heap (opD F w0 w1 B) [refC β l f r, logC γ β s.2.1 0])]
def orN (F : Nat → Prop) (w0 w1 : World) (B β γ : Nat) (l : List UInt8) (f r : Nat) (m : LogV) (p : Nat) : Env :=
  [(0, .ex (ptr β)), (3, .ex (ptr γ)), (7, .ex (vi p)), (1000, heap (opD F w0 w1 B) [refC β l f r, logC γ β m 0])]
theorem ref_OpenL (β : Nat) (l : List UInt8) (f r : Nat) (hl : l.length ≤ 65536) :
    SpcC Try.prog 25 [.ex (ptr β)] (refC β l f r) (fun _ : Nat => True) (fun γ => .ex (ptr γ))
      (fun γ => allC [logC γ β (openM l).1 (openM l).1.l.length, refC β (l.take (openM l).2) (if (openM l).2 < l.length then (openM l).2 else f) r]) := by
  have hag := (open_again l).1
  have hol := open_len l
  have hfew := scan_few l
  obtain ⟨hb1, hb2, t, hb3⟩ := scan_is l l.length 0 rfl (Nat.zero_le _)
  rw [List.drop_zero] at hb3
  have hbl : (frames (scanL l 0).1).length ≤ l.length := by have := congrArg List.length hb3; rw [List.length_append] at this; omega
  have hop : takesM (scanL l 0).1 true log0 0 = openM l := rfl
  have hscan := ref_Scan l (by omega)
  generalize scanL l 0 = sc at *
  obtain ⟨bs, se⟩ := sc
  dsimp only at *
  refine SpcC.intro Try.func25 rfl (Nat.le_of_ble_eq_true rfl) fun w0 F => ?_
  have hI := kept_below F w0
  have hA := Own.kept F w0
  repeat (first | refine Plan.move rfl rfl rfl rfl ?_ | refine Plan.assign rfl rfl rfl rfl ?_ | refine J.seq (J.region mixed hI (by kernel_rfl) ?_))
  refine Plan.build rfl rfl rfl (Parts.cons rfl Parts.nil) (cells := #[ptr β, str [], .bool false, .slice none 0 0, vi 0]) (by kernel_rfl) ?_
  refine Plan.boxC (key := 1000) rfl rfl rfl (by intro _ e; cases e; decide) rfl rfl hA fun γ => ?_
  repeat (refine Plan.assign rfl rfl rfl rfl ?_)
  refine J.nilRow (key := 1000) 48 26 rfl ?_
  refine J.regroup (key := 1000) [refC β l f r, logC γ β log0 0] rfl (Ent.sep (Ent.refl _) ((log_close (m := log0) (B := none) (cap := 0)).trans Ent.addEmp)) ?_
  refine J.fresh (key := 1000) rfl hA fun B hBA => ?_
  have hI := hFresh (B := B) (kept_below F w0)
  have hA := own_fresh (B := B) (Own.kept F w0)
  repeat (first | refine Plan.move rfl rfl rfl rfl ?_ | refine Plan.nilOk rfl rfl rfl rfl ?_ | refine Plan.fieldC rfl rfl rfl rfl (by first | exact Try.underlying74 | exact Try.underlying71) rfl (by kernel_rfl) (by exact (rfl : _ = 0)) ?_ | refine Plan.loadC (key := 1000) (q := 0) rfl rfl rfl rfl rfl rfl (obj_reads1 rfl) (by first | exact Try.underlying3 | exact Try.underlying9) (by rfl) (by decide) ?_ | refine J.seq (J.region mixed hI (by kernel_rfl) ?_))
  refine Plan.call (B := B) rfl rfl rfl hscan Try.func42 rfl rfl (fun _ h => h.2) (by repeat (first | exact Opnds.nil | refine Opnds.cons rfl (by exact Sub.refl _) ?_)) ?_
  repeat (first | refine Plan.move rfl rfl rfl rfl ?_ | refine Plan.assign rfl rfl rfl rfl ?_ | refine Plan.extract rfl rfl rfl rfl rfl ?_)
  refine J.since (key := 1000) (B := B) (A := fun b => F b ∨ w0.heap.size ≤ b) rfl hA fun w1 hw1 h1A => ?_
  have hI2 := since_I (G := fun b => (F b ∨ w0.heap.size ≤ b) ∧ b < B) (w1 := w1) hI
  have hA2 := since_own (G := fun b => (F b ∨ w0.heap.size ≤ b) ∧ b < B) (w1 := w1) hA (fun b hb => hb.1) h1A
  have hGB : ∀ b, (F b ∨ w0.heap.size ≤ b) ∧ b < B → b < B := fun b hb => hb.2
  have hI0 := hI
  clear hI
  have hI := hI2
  clear hA
  have hA := hA2
  refine J.seq (J.region mixed hI (by kernel_rfl) ?_)
  repeat (refine Plan.assign rfl rfl rfl rfl ?_)
  refine J.seqMid (σ := Unit) (fun _ => orN F w0 w1 B β γ l f r (openM l).1 (openM l).2) (fun _ => True) ?_ ?_
  · repeat (first | refine Plan.move rfl rfl rfl rfl ?_ | refine J.seq (J.region mixed hI (by kernel_rfl) ?_))
    refine Plan.lenRow (m := bs.length) rfl rfl rfl rfl (Sub.trans (Sub.sinceOwn hGB) Sub.own) Try.underlying86 (by rw [ss_length]; omega) (by decide) ?_
    repeat (refine Plan.move rfl rfl rfl rfl ?_)
    refine J.block (J.loop (orE F w0 w1 B β γ l f r bs) (fun s => s.1 ≤ bs.length ∧ takesM (bs.drop s.1) (decide (s.1 = 0)) s.2.1 s.2.2 = openM l ∧ s.2.2 = (frames (bs.take s.1)).length ∧ s.2.1.l.length ≤ s.1) (fun s => bs.length - s.1) (0, log0, 0) ⟨Nat.zero_le _, hop, rfl, Nat.le_refl _⟩ ?_ ?_)
    · repeat (first | exact Weak.nil | refine Weak.cons rfl (Sub.refl _) ?_)
    rintro ⟨i, m, p⟩ ⟨hi, htk, hp, hml⟩
    simp only at hi htk hp hml
    change J _ _ _ _ _ (orE F w0 w1 B β γ l f r bs (i, m, p))
    repeat (first | (refine Plan.ints rfl rfl rfl rfl rfl rfl ?_; (skip)) | refine J.seq (J.region mixed hI (by kernel_rfl) ?_))
    refine J.seq (J.condD rfl (fun hc => ?_) (fun hc => ?_))
    · have hlt : i < bs.length := by
        dsimp only at hc; omega
      obtain ⟨b, hb⟩ : ∃ b, b = bs[i] := ⟨_, rfl⟩
      have hbi : bs[i]? = some b := by rw [hb]; exact List.getElem?_eq_getElem hlt
      have hgd : bs.getD i [] = b := by rw [List.getD_eq_getElem?_getD, hbi]; rfl
      have hdr : bs.drop i = b :: bs.drop (i + 1) := by rw [hb]; exact List.drop_eq_getElem_cons hlt
      have hbm : b ∈ bs := hb ▸ List.getElem_mem hlt
      have hb6 := hb1 b hbm
      have hti : frames (bs.take (i + 1)) = frames (bs.take i) ++ fPut b := by rw [List.take_succ_eq_append_getElem hlt, frames_append, ← hb, frames_cons]; simp [frames]
      have hpl : p + b.length + 6 ≤ l.length := by
        have h1 : frames bs = frames (bs.take (i + 1)) ++ frames (bs.drop (i + 1)) := by rw [← frames_append, List.take_append_drop]
        have h2 := congrArg List.length h1
        rw [hti, List.length_append, List.length_append, fPut_length] at h2
        omega
      rw [hdr] at htk
      have hstop : takeM m b (decide (i = 0)) = none → m = (openM l).1 ∧ p = (openM l).2 := fun h => by
        rw [takes_none h] at htk
        exact ⟨congrArg Prod.fst htk, congrArg Prod.snd htk⟩
      repeat (refine J.skip ?_)
      refine J.seq (J.block ?_)
      repeat (first | refine Plan.move rfl rfl rfl rfl ?_ | refine Plan.assign rfl rfl rfl rfl ?_ | refine J.seq (J.region mixed hI (by kernel_rfl) ?_))
      refine Plan.indexAddr (fun l : List UInt8 => [str l]) 1 bs [] rfl rfl rfl rfl (Sub.trans (Sub.trans (Sub.sinceOwn hGB) Sub.own) (Sub.of_eq (by rw [ss_flat]))) rfl eltS (fun _ => rfl) (by omega) (by dsimp only; omega) ?_
      refine Plan.load rfl rfl rfl rfl (Sub.refl _) Try.underlying9 rfl ?_
      rw [Int.toNat_natCast, hgd]
      cases b with
      | nil =>
        obtain ⟨rfl, e2⟩ := hstop rfl
        repeat (first | refine Plan.move rfl rfl rfl rfl ?_ | refine Plan.assign rfl rfl rfl rfl ?_ | refine J.seq (J.seq (J.region mixed hI (by kernel_rfl) ?_)))
        refine Plan.strs rfl rfl rfl rfl rfl rfl ?_
        refine Plan.boolv (y := true) (by simp) ?_
        repeat (first | refine Plan.move rfl rfl rfl rfl ?_ | refine Plan.skip rfl rfl ?_ | refine Plan.pick rfl rfl rfl rfl rfl ?_ | refine J.condT rfl ?_)
        refine J.exit ?_
        rw [orE]
        dsimp only
        rw [e2]
        exact Nrm.mid () trivial (by repeat (first | exact Weak.nil | refine Weak.cons rfl (Sub.refl _) ?_))
      | cons y t =>
        have hne : ∀ z : UInt8, ¬ y = z → ¬ ((y.toNat : Int) = (z.toNat : Int)) := fun z h e => h (UInt8.toNat_inj.1 (by omega))
        have hg : (y :: t).getD (0 : Int).toNat 0 = y := rfl
        repeat (first | refine Plan.move rfl rfl rfl rfl ?_ | refine Plan.assign rfl rfl rfl rfl ?_ | refine J.seq (J.seq (J.region mixed hI (by kernel_rfl) ?_)))
        refine Plan.strs rfl rfl rfl rfl rfl rfl ?_
        refine Plan.boolv (y := false) (by simp) ?_
        by_cases h0 : y = 0
        · subst h0
          have k1 := refdecode_fn t (by simp only [List.length_cons] at hb6; omega)
          have hn : takeM m (0 :: t) (decide (i = 0)) = if decE t = 0 then some ⟨m.s, m.b, m.l ++ [decR t]⟩ else none := by simp [takeM]
          generalize decR t = V at *
          generalize decE t = er at *
          repeat (refine Plan.move rfl rfl rfl rfl ?_)
          refine Plan.index rfl rfl rfl rfl rfl Try.underlying9 (by omega) (by simp) ?_
          rw [hg]
          repeat (first | refine Plan.move rfl rfl rfl rfl ?_ | refine Plan.pick rfl rfl rfl rfl rfl ?_ | (refine Plan.ints rfl rfl rfl rfl rfl rfl ?_; (skip)))
          refine Plan.index rfl rfl rfl rfl rfl Try.underlying9 (by omega) (by simp) ?_
          rw [hg]
          repeat (first | refine Plan.move rfl rfl rfl rfl ?_ | refine Plan.skip rfl rfl ?_ | refine Plan.pick rfl rfl rfl rfl rfl ?_ | (refine Plan.ints rfl rfl rfl rfl rfl rfl ?_; (skip)) | refine J.seq (J.seq (J.region mixed hI (by kernel_rfl) ?_)) | refine J.condF rfl ?_ | refine J.skip ?_)
          refine Plan.index rfl rfl rfl rfl rfl Try.underlying9 (by omega) (by simp) ?_
          rw [hg]
          repeat (first | refine Plan.move rfl rfl rfl rfl ?_ | (refine Plan.ints rfl rfl rfl rfl rfl rfl ?_; (skip)) | refine J.seq (J.region mixed hI (by kernel_rfl) ?_) | refine J.condF rfl ?_)
          refine Plan.sliceStr (a0 := 1) (b0 := (0 :: t).length) rfl rfl rfl rfl Try.underlying9 (.inr ⟨_, _, rfl, rfl⟩) (.inl ⟨rfl, rfl⟩) (by simp) (Nat.le_refl _) ?_
          have hs : ((0 :: t).take (0 :: t).length).drop 1 = t := by rw [List.take_length]; rfl
          rw [hs]
          refine Plan.call (B := 0) rfl rfl rfl (k1) Try.func43 rfl rfl (fun _ _ => Nat.zero_le _) (by repeat (first | exact Opnds.nil | refine Opnds.cons rfl (by exact Sub.refl _) ?_)) ?_
          repeat (first | refine Plan.move rfl rfl rfl rfl ?_ | refine Plan.extract rfl rfl rfl rfl rfl ?_)
          refine Plan.allocC (key := 1000) (z := .agg ev0.enc.toArray) rfl rfl rfl (by intro _ e; cases e; decide) (by kernel_rfl) rfl hA fun ξ => ?_
          refine Plan.storeC (key := 1000) (q := 2) (off := 0) rfl rfl rfl rfl rfl rfl (encE_one V) (by show _ = some V.enc.toArray.size; kernel_rfl) rfl hA rfl (obj_pat (Nat.le_of_ble_eq_true rfl)) ?_
          repeat (first | refine Plan.move rfl rfl rfl rfl ?_ | refine Plan.assign rfl rfl rfl rfl ?_ | (refine Plan.ints rfl rfl rfl rfl rfl rfl ?_; (skip)) | refine J.seq (J.seq (J.region mixed hI (by kernel_rfl) ?_)))
          refine J.condN rfl (fun hx => ?_) (fun hx => ?_)
          · rw [if_neg (by omega)] at hn
            obtain ⟨rfl, e2⟩ := hstop hn
            refine J.regroup (key := 1000) [refC β l f r, logC γ β (openM l).1 0] rfl (Ent.pickC [0, 1] rfl rfl) ?_
            refine J.exit ?_
            rw [orE]
            dsimp only
            rw [e2]
            exact Nrm.mid () trivial (by repeat (first | exact Weak.nil | refine Weak.cons rfl (Sub.refl _) ?_))
          rw [if_pos (by omega)] at hn
          rw [takes_some hn] at htk
          refine J.skip ?_
          refine J.exC (key := 1000) (q := 1) rfl rfl fun x => ?_
          refine J.sepC (key := 1000) (q := 1) rfl rfl ?_
          refine J.loose2 [(0, ptr γ)] [(3, .ex (ptr γ))] mixed hI rfl rfl rfl (by kernel_rfl) (by kernel_rfl) (by kernel_rfl) rfl rfl (fun ⟨_, _, h⟩ => h) (fun _ _ _ _ h => h) (by repeat (first | exact Weak.nil | refine Weak.cons rfl (Sub.refl _) ?_)) ?_ ?_
          · exact Gives.cons [(3, .ex (ptr γ))] (by kernel_rfl) rfl (by kernel_rfl) (Plan.move rfl rfl rfl rfl (Plan.gives rfl)) Gives.nil
          repeat (first | refine Plan.move rfl rfl rfl rfl ?_ | refine Plan.assign rfl rfl rfl rfl ?_ | refine Plan.nilOk rfl rfl rfl rfl ?_ | refine Plan.fieldC rfl rfl rfl rfl (by first | exact Try.underlying74 | exact Try.underlying69) rfl (by kernel_rfl) (by exact (rfl : _ = 3)) ?_ | refine Plan.loadC (key := 1000) (q := 1) rfl rfl rfl rfl rfl rfl (obj_reads1 rfl) (by exact Try.underlying35) (by rfl) (by decide) ?_)
          refine Plan.loadAggC (key := 1000) (q := 2) (vs := V.enc) rfl rfl rfl rfl rfl rfl obj_whole Try.underlying48 rfl (by rw [encE]; kernel_rfl) (by decide) ?_
          refine Plan.lit (B := 0) rfl rfl rfl eltE rfl (fun _ _ => Nat.zero_le _) rfl (fun v hv => by rw [List.mem_singleton.1 hv]; rfl) (by decide) ?_
          refine Plan.appendC (key := 1000) (q := 3) (news := V.enc) rfl rfl rfl rfl rfl Sub.own eltE (by intro _ e; cases e; decide) rfl hA rfl (encE_one V) (by rw [evs_len, encE]; dsimp only; omega) fun B1 m1 c1 hm1 => ?_
          obtain rfl : m1 = (m.l ++ [V]).length := by rw [evs_len, encE] at hm1; dsimp only at hm1; simp only [List.length_append, List.length_cons, List.length_nil]; omega
          rw [evs_snoc]
          repeat (first | refine Plan.nilOk rfl rfl rfl rfl ?_ | refine Plan.fieldC rfl rfl rfl rfl (by first | exact Try.underlying74 | exact Try.underlying69) rfl (by kernel_rfl) (by exact (rfl : _ = 3)) ?_)
          refine Plan.storeC (key := 1000) (q := 1) rfl rfl rfl rfl rfl rfl (by simp [Value.cells, Value.oneCell', str]) (by kernel_rfl) rfl hA rfl (obj_pat1 (Nat.le_of_ble_eq_true rfl)) ?_
          refine J.regroup (key := 1000) [refC β l f r, logC γ β ⟨m.s, m.b, m.l ++ [V]⟩ 0] rfl ((Ent.pickC (H' := [refC β l f r, obj γ [ptr β, str m.s, .bool m.b, .slice B1 (m.l ++ [V]).length c1, vi 0], rowEv B1 (m.l ++ [V]).length c1 (evsC (m.l ++ [V]))]) [0, 1, 3] rfl rfl).trans (Ent.sep (Ent.refl _) ((log_close (m := ⟨m.s, m.b, m.l ++ [V]⟩)).trans Ent.addEmp))) ?_
          refine J.region mixed hI (by kernel_rfl) ?_
          repeat (first | refine Plan.move rfl rfl rfl rfl ?_ | refine Plan.assign rfl rfl rfl rfl ?_ | refine Plan.lenStr rfl rfl rfl rfl Try.underlying9 ?_ | (refine Plan.ints rfl rfl rfl rfl rfl rfl ?_; (skip)))
          have e81 : IntKind.i64.wrap ((p : Int) + (((0 :: t).length : Nat) : Int)) = (p : Int) + (((0 :: t).length : Nat) : Int) := i64r (by omega)
          refine Plan.int (y := ((p + (0 :: t).length + 6 : Nat) : Int)) (by dsimp only; rw [e81, i64r (by omega)]; omega) ?_
          repeat (first | refine Plan.move rfl rfl rfl rfl ?_ | (refine Plan.ints rfl rfl rfl rfl rfl rfl ?_; (refine Plan.int (i64r (by omega)) ?_)) | refine J.region mixed hI (by kernel_rfl) ?_)
          refine Plan.int (y := ((i + 1 : Nat) : Int)) (by omega) ?_
          repeat (fail)
          refine Plan.regroup [refC β l f r, logC γ β ⟨m.s, m.b, m.l ++ [V]⟩ 0] (by kernel_rfl) hI (key := 1000) rfl (Ent.refl _) ?_
          refine Nrm.next (i + 1, ⟨m.s, m.b, m.l ++ [V]⟩, p + (0 :: t).length + 6) ⟨by dsimp only; omega, ?_, by dsimp only; rw [hti, List.length_append, fPut_length]; omega, by simp only [List.length_append, List.length_cons, List.length_nil]; omega⟩ (by dsimp only; omega) (by repeat (first | exact Weak.nil | refine Weak.cons rfl (Sub.refl _) ?_))
          exact htk
        by_cases h1 : y = 1
        · subst h1
          repeat (refine Plan.move rfl rfl rfl rfl ?_)
          refine Plan.index rfl rfl rfl rfl rfl Try.underlying9 (by omega) (by simp) ?_
          rw [hg]
          repeat (first | refine Plan.move rfl rfl rfl rfl ?_ | refine Plan.pick rfl rfl rfl rfl rfl ?_ | (refine Plan.ints rfl rfl rfl rfl rfl rfl ?_; (skip)))
          refine Plan.index rfl rfl rfl rfl rfl Try.underlying9 (by omega) (by simp) ?_
          rw [hg]
          repeat (first | refine Plan.move rfl rfl rfl rfl ?_ | refine Plan.pick rfl rfl rfl rfl rfl ?_ | (refine Plan.ints rfl rfl rfl rfl rfl rfl ?_; (skip)))
          refine J.condD rfl (fun hx => ?_) (fun hx => ?_)
          · have hn : takeM m (1 :: t) (decide (i = 0)) = none := by
              have : decide (i = 0) = false := decide_eq_false (by dsimp only at hx; omega)
              rw [this]; simp [takeM]
            obtain ⟨rfl, e2⟩ := hstop hn
            refine J.exit ?_
            rw [orE]
            dsimp only
            rw [e2]
            exact Nrm.mid () trivial (by repeat (first | exact Weak.nil | refine Weak.cons rfl (Sub.refl _) ?_))
          have hi0 : i = 0 := by
            dsimp only at hx; omega
          have hn : takeM m (1 :: t) (decide (i = 0)) = some ⟨t, true, m.l⟩ := by rw [decide_eq_true hi0]; rfl
          rw [takes_some hn] at htk
          refine J.exC (key := 1000) (q := 1) rfl rfl fun x => ?_
          refine J.sepC (key := 1000) (q := 1) rfl rfl ?_
          repeat (first | refine Plan.move rfl rfl rfl rfl ?_ | refine J.seq (J.seq (J.region mixed hI (by kernel_rfl) ?_)) | refine J.skip ?_)
          refine Plan.index rfl rfl rfl rfl rfl Try.underlying9 (by omega) (by simp) ?_
          rw [hg]
          repeat (first | refine Plan.move rfl rfl rfl rfl ?_ | (refine Plan.ints rfl rfl rfl rfl rfl rfl ?_; (skip)) | refine J.seq (J.region mixed hI (by kernel_rfl) ?_) | refine J.condT rfl ?_)
          refine Plan.sliceStr (a0 := 1) (b0 := (1 :: t).length) rfl rfl rfl rfl Try.underlying9 (.inr ⟨_, _, rfl, rfl⟩) (.inl ⟨rfl, rfl⟩) (by simp) (Nat.le_refl _) ?_
          have hs : ((1 :: t).take (1 :: t).length).drop 1 = t := by rw [List.take_length]; rfl
          rw [hs]
          repeat (first | refine Plan.nilOk rfl rfl rfl rfl ?_ | refine Plan.fieldC rfl rfl rfl rfl (by first | exact Try.underlying74 | exact Try.underlying69) rfl (by kernel_rfl) (by exact (rfl : _ = 1)) ?_)
          refine Plan.storeC (key := 1000) (q := 1) rfl rfl rfl rfl rfl rfl (by simp [Value.cells, Value.oneCell', str]) (by kernel_rfl) rfl hA rfl (obj_pat1 (Nat.le_of_ble_eq_true rfl)) ?_
          repeat (first | refine Plan.move rfl rfl rfl rfl ?_ | refine Plan.nilOk rfl rfl rfl rfl ?_ | refine Plan.fieldC rfl rfl rfl rfl (by first | exact Try.underlying74 | exact Try.underlying69) rfl (by kernel_rfl) (by exact (rfl : _ = 2)) ?_ | refine J.region mixed hI (by kernel_rfl) ?_)
          refine Plan.storeC (key := 1000) (q := 1) rfl rfl rfl rfl rfl rfl (by simp [Value.cells, Value.oneCell', str]) (by kernel_rfl) rfl hA rfl (obj_pat1 (Nat.le_of_ble_eq_true rfl)) ?_
          refine J.regroup (key := 1000) [refC β l f r, logC γ β ⟨t, true, m.l⟩ 0] rfl (Ent.sep (Ent.refl _) ((log_close (m := ⟨t, true, m.l⟩) (B := x.1) (cap := x.2)).trans Ent.addEmp)) ?_
          refine J.region mixed hI (by kernel_rfl) ?_
          repeat (first | refine Plan.move rfl rfl rfl rfl ?_ | refine Plan.assign rfl rfl rfl rfl ?_ | refine Plan.lenStr rfl rfl rfl rfl Try.underlying9 ?_ | (refine Plan.ints rfl rfl rfl rfl rfl rfl ?_; (skip)))
          have e81 : IntKind.i64.wrap ((p : Int) + (((1 :: t).length : Nat) : Int)) = (p : Int) + (((1 :: t).length : Nat) : Int) := i64r (by omega)
          refine Plan.int (y := ((p + (1 :: t).length + 6 : Nat) : Int)) (by dsimp only; rw [e81, i64r (by omega)]; omega) ?_
          repeat (first | refine Plan.move rfl rfl rfl rfl ?_ | (refine Plan.ints rfl rfl rfl rfl rfl rfl ?_; (refine Plan.int (i64r (by omega)) ?_)) | refine J.region mixed hI (by kernel_rfl) ?_)
          refine Plan.int (y := ((i + 1 : Nat) : Int)) (by omega) ?_
          repeat (fail)
          refine Plan.regroup [refC β l f r, logC γ β ⟨t, true, m.l⟩ 0] (by kernel_rfl) hI (key := 1000) rfl (Ent.refl _) ?_
          refine Nrm.next (i + 1, ⟨t, true, m.l⟩, p + (1 :: t).length + 6) ⟨by dsimp only; omega, ?_, by dsimp only; rw [hti, List.length_append, fPut_length]; omega, by simp only [List.length_append, List.length_cons, List.length_nil]; omega⟩ (by dsimp only; omega) (by repeat (first | exact Weak.nil | refine Weak.cons rfl (Sub.refl _) ?_))
          exact htk
        have hy2 : 1 < y.toNat := by
          have h3 := hne 0 h0
          have h4 := hne 1 h1
          have e0 : (0 : UInt8).toNat = 0 := rfl
          have e1 : (1 : UInt8).toNat = 1 := rfl
          omega
        have hn : takeM m (y :: t) (decide (i = 0)) = none := by simp [takeM, h0, h1]
        obtain ⟨rfl, e2⟩ := hstop hn
        repeat (refine Plan.move rfl rfl rfl rfl ?_)
        refine Plan.index rfl rfl rfl rfl rfl Try.underlying9 (by omega) (by simp) ?_
        rw [hg]
        repeat (first | refine Plan.move rfl rfl rfl rfl ?_ | refine Plan.pick rfl rfl rfl rfl rfl ?_ | (refine Plan.ints rfl rfl rfl rfl rfl rfl ?_; (skip)))
        refine Plan.boolv (y := true) (decide_eq_true (by omega)) ?_
        repeat (first | refine Plan.skip rfl rfl ?_ | refine Plan.pick rfl rfl rfl rfl rfl ?_ | refine J.condT rfl ?_)
        refine J.exit ?_
        rw [orE]
        dsimp only
        rw [e2]
        exact Nrm.mid () trivial (by repeat (first | exact Weak.nil | refine Weak.cons rfl (Sub.refl _) ?_))
    · have hie : i = bs.length := by
        dsimp only at hc; omega
      rw [hie, List.drop_length] at htk
      refine J.exit ?_
      have e1 : m = (openM l).1 := congrArg Prod.fst htk
      have e2 : p = (openM l).2 := congrArg Prod.snd htk
      subst e1
      rw [e2]
      exact Nrm.mid () trivial (by repeat (first | exact Weak.nil | refine Weak.cons rfl (Sub.refl _) ?_))
  · intro _ _
    generalize openM l = o at *
    repeat (first | refine Plan.move rfl rfl rfl rfl ?_ | refine Plan.lenStr rfl rfl rfl rfl Try.underlying9 ?_ | (refine Plan.ints rfl rfl rfl rfl rfl rfl ?_; (skip)) | refine Plan.nilOk rfl rfl rfl rfl ?_ | refine Plan.fieldC rfl rfl rfl rfl (by first | exact Try.underlying74 | exact Try.underlying71) rfl (by kernel_rfl) (by exact (rfl : _ = 0)) ?_ | refine Plan.loadC (key := 1000) (q := 0) rfl rfl rfl rfl rfl rfl (obj_reads1 rfl) (by first | exact Try.underlying3 | exact Try.underlying9) (by rfl) (by decide) ?_ | refine J.seq (J.seq (J.region mixed hI (by kernel_rfl) ?_)))
    refine J.condD rfl (fun hc => ?_) (fun hc => ?_)
    · have hlt : o.2 < l.length := by omega
      have hcut := ref_Cut β l f r o.2
      rw [if_pos (by omega), if_pos (by omega), Int.toNat_natCast] at hcut
      rw [if_pos hlt]
      repeat (first | refine Plan.move rfl rfl rfl rfl ?_ | refine J.region mixed hI (by kernel_rfl) ?_)
      refine Plan.callC (key := 1000) (q := 0) rfl rfl rfl (hcut) Try.func44 rfl rfl (by intro _ e; cases e; decide) (by repeat (first | exact Opnds.nil | refine Opnds.cons rfl (by exact Sub.refl _) ?_)) rfl hA rfl ?_
      intro _ _
      repeat (fail)
      refine J.idle (I' := fun w => Kept F w0 w) (fun w h => h.1.1) ?_
      have hI := kept_below F w0
      have hA := Own.kept F w0
      refine J.widen (key := 1000) (A := fun b => F b ∨ w0.heap.size ≤ b) rfl (fun b hb => hb.elim (fun h => h.1) (h1A b)) ?_
      refine J.exC (key := 1000) (q := 1) rfl rfl fun x => ?_
      refine J.sepC (key := 1000) (q := 1) rfl rfl ?_
      repeat (first | refine Plan.move rfl rfl rfl rfl ?_ | refine Plan.nilOk rfl rfl rfl rfl ?_ | refine Plan.fieldC rfl rfl rfl rfl (by first | exact Try.underlying74 | exact Try.underlying69) rfl (by kernel_rfl) (by exact (rfl : _ = 3)) ?_ | refine Plan.loadC (key := 1000) (q := 1) rfl rfl rfl rfl rfl rfl (obj_reads1 rfl) (by first | exact Try.underlying3 | exact Try.underlying35) (by rfl) (by decide) ?_ | refine J.seq (J.region mixed hI (by kernel_rfl) ?_))
      refine Plan.lenE rfl rfl rfl rfl Try.underlying35 ?_
      repeat (first | refine Plan.nilOk rfl rfl rfl rfl ?_ | refine Plan.fieldC rfl rfl rfl rfl (by first | exact Try.underlying74 | exact Try.underlying69) rfl (by kernel_rfl) (by exact (rfl : _ = 4)) ?_)
      refine Plan.storeC (key := 1000) (q := 1) rfl rfl rfl rfl rfl rfl (by simp [Value.cells, Value.oneCell', str]) (by kernel_rfl) rfl hA rfl (obj_pat1 (Nat.le_of_ble_eq_true rfl)) ?_
      repeat (first | refine Plan.move rfl rfl rfl rfl ?_ | refine Plan.assign rfl rfl rfl rfl ?_ | refine J.seq (J.region mixed hI (by kernel_rfl) ?_))
      exact J.ret (Nrm.retC1 (key := 1000) γ rfl rfl rfl trivial (Sub.refl _) ((Ent.pickC (H' := [obj γ [ptr β, str o.1.s, .bool o.1.b, .slice x.1 o.1.l.length x.2, vi o.1.l.length], refC β (l.take o.2) o.2 r, rowEv x.1 o.1.l.length x.2 (evsC o.1.l)]) [1, 0, 2] rfl rfl).trans log_disk))
    · have hle : l.length ≤ o.2 := by omega
      rw [if_neg (by omega), List.take_of_length_le hle]
      refine J.skip ?_
      refine J.idle (I' := fun w => Kept F w0 w) (fun w h => h.1.1) ?_
      have hI := kept_below F w0
      have hA := Own.kept F w0
      refine J.widen (key := 1000) (A := fun b => F b ∨ w0.heap.size ≤ b) rfl (fun b hb => hb.elim (fun h => h.1) (h1A b)) ?_
      refine J.exC (key := 1000) (q := 1) rfl rfl fun x => ?_
      refine J.sepC (key := 1000) (q := 1) rfl rfl ?_
      repeat (first | refine Plan.move rfl rfl rfl rfl ?_ | refine Plan.nilOk rfl rfl rfl rfl ?_ | refine Plan.fieldC rfl rfl rfl rfl (by first | exact Try.underlying74 | exact Try.underlying69) rfl (by kernel_rfl) (by exact (rfl : _ = 3)) ?_ | refine Plan.loadC (key := 1000) (q := 1) rfl rfl rfl rfl rfl rfl (obj_reads1 rfl) (by first | exact Try.underlying3 | exact Try.underlying35) (by rfl) (by decide) ?_ | refine J.seq (J.region mixed hI (by kernel_rfl) ?_))
      refine Plan.lenE rfl rfl rfl rfl Try.underlying35 ?_
      repeat (first | refine Plan.nilOk rfl rfl rfl rfl ?_ | refine Plan.fieldC rfl rfl rfl rfl (by first | exact Try.underlying74 | exact Try.underlying69) rfl (by kernel_rfl) (by exact (rfl : _ = 4)) ?_)
      refine Plan.storeC (key := 1000) (q := 1) rfl rfl rfl rfl rfl rfl (by simp [Value.cells, Value.oneCell', str]) (by kernel_rfl) rfl hA rfl (obj_pat1 (Nat.le_of_ble_eq_true rfl)) ?_
      repeat (first | refine Plan.move rfl rfl rfl rfl ?_ | refine Plan.assign rfl rfl rfl rfl ?_ | refine J.seq (J.region mixed hI (by kernel_rfl) ?_))
      exact J.ret (Nrm.retC1 (key := 1000) γ rfl rfl rfl trivial (Sub.refl _) ((Ent.pickC (H' := [obj γ [ptr β, str o.1.s, .bool o.1.b, .slice x.1 o.1.l.length x.2, vi o.1.l.length], refC β l f r, rowEv x.1 o.1.l.length x.2 (evsC o.1.l)]) [1, 0, 2] rfl rfl).trans log_disk))
end Go.Proofs.Ytepgphflnelpoaa
end

section
set_option linter.unusedSimpArgs false
set_option linter.unusedVariables false
set_option maxRecDepth 20000
namespace Go.Proofs.Ytepgphflnelpoaa
open Go.Free Go.RowKit Go.Proofs
set_option maxHeartbeats 8000000

theorem ref_EventL (e : EvV) (hr : rightP e) : Spc Try.prog 47 [.ex (aggE e)] fun _ => .ex (str (evF e)) := by
  refine Spc.intro Try.func47 rfl (Nat.le_of_ble_eq_true rfl) fun w0 => ?_
  have hI := hIb w0
  have hA := Own.below w0
  have hle := encB_le hr
  refine J.heap0 1000 (newB w0) ?_
  repeat (refine J.seq (J.region mixed hI (by kernel_rfl) ?_))
  refine Plan.boxC (key := 1000) rfl rfl rfl (by intro _ e; cases e; decide) rfl rfl hA fun α => ?_
  repeat (first | refine Plan.assign rfl rfl rfl rfl ?_ | refine J.seq (J.region mixed hI (by kernel_rfl) ?_))
  refine Plan.loadAggC (key := 1000) (q := 0) (vs := e.enc) rfl rfl rfl rfl rfl rfl obj_whole Try.underlying48 rfl (by rw [encE]; kernel_rfl) (by decide) ?_
  refine Plan.call (B := w0.heap.size) rfl rfl rfl (refBytes_fn e hr) Try.func67 rfl rfl (hBb w0) (by repeat (first | exact Opnds.nil | refine Opnds.cons rfl (by exact Sub.refl _) ?_)) ?_
  refine Plan.concat (p := [0]) rfl rfl rfl rfl rfl (by simp only [List.length_cons, List.length_nil]; omega) ?_
  refine Plan.call (B := w0.heap.size) rfl rfl rfl (ref_Frame (0 :: encB e) (by simp only [List.length_cons]; omega)) Try.func48 rfl rfl (hBb w0) (by repeat (first | exact Opnds.nil | refine Opnds.cons rfl (by exact Sub.refl _) ?_)) ?_
  repeat (refine Plan.assign rfl rfl rfl rfl ?_)
  exact J.ret (Nrm.ret1 rfl (fun _ h => h) rfl fun B _ => Sub.refl _)
theorem ref_SyncL (γ β : Nat) (m : LogV) (f : Nat) (l : List UInt8) (df r : Nat) : SpcC Try.prog 27 [.ex (ptr γ)] (allC [logC γ β m f, refC β l df r]) (fun _ : Unit => True) (fun _ => Fa.any)
    (fun _ => allC [logC γ β m m.l.length, refC β l l.length r]) := by
  refine SpcC.intro Try.func27 rfl (Nat.le_of_ble_eq_true rfl) fun w0 F => ?_
  have hI := kept_below F w0
  have hA := Own.kept F w0
  refine J.open1 (key := 1000) rfl ?_
  refine J.exC (key := 1000) (q := 0) rfl rfl fun x => ?_
  refine J.sepC (key := 1000) (q := 0) rfl rfl ?_
  repeat (first | refine Plan.move rfl rfl rfl rfl ?_ | refine Plan.lenStr rfl rfl rfl rfl Try.underlying9 ?_ | refine Plan.nilOk rfl rfl rfl rfl ?_ | refine Plan.fieldC rfl rfl rfl rfl (by first | exact Try.underlying74 | exact Try.underlying71 | exact Try.underlying69) rfl (by kernel_rfl) (by first | exact (rfl : _ = 0) | exact (rfl : _ = 1)) ?_ | refine Plan.loadC (key := 1000) (q := 0) rfl rfl rfl rfl rfl rfl (obj_reads1 rfl) (by first | exact Try.underlying3 | exact Try.underlying9 | exact Try.underlying62) (by rfl) (by decide) ?_ | refine Plan.loadC (key := 1000) (q := 1) rfl rfl rfl rfl rfl rfl (obj_reads1 rfl) (by first | exact Try.underlying3 | exact Try.underlying9) (by rfl) (by decide) ?_ | refine J.seq (J.region mixed hI (by kernel_rfl) ?_))
  refine Plan.storeC (key := 1000) (q := 1) rfl rfl rfl rfl rfl rfl (by simp [Value.cells, Value.oneCell', str]) (by kernel_rfl) rfl hA rfl (obj_pat1 (Nat.le_of_ble_eq_true rfl)) ?_
  repeat (first | refine Plan.move rfl rfl rfl rfl ?_ | refine Plan.nilOk rfl rfl rfl rfl ?_ | refine Plan.fieldC rfl rfl rfl rfl (by first | exact Try.underlying74 | exact Try.underlying69) rfl (by kernel_rfl) (by exact (rfl : _ = 3)) ?_ | refine Plan.loadC (key := 1000) (q := 0) rfl rfl rfl rfl rfl rfl (obj_reads1 rfl) (by first | exact Try.underlying3 | exact Try.underlying35) (by rfl) (by decide) ?_ | refine J.region mixed hI (by kernel_rfl) ?_)
  refine Plan.lenE rfl rfl rfl rfl Try.underlying35 ?_
  repeat (first | refine Plan.nilOk rfl rfl rfl rfl ?_ | refine Plan.fieldC rfl rfl rfl rfl (by first | exact Try.underlying74 | exact Try.underlying69) rfl (by kernel_rfl) (by exact (rfl : _ = 4)) ?_)
  refine Plan.storeC (key := 1000) (q := 0) rfl rfl rfl rfl rfl rfl (by simp [Value.cells, Value.oneCell', str]) (by kernel_rfl) rfl hA rfl (obj_pat1 (Nat.le_of_ble_eq_true rfl)) ?_
  repeat (fail)
  exact Nrm.retC0 (key := 1000) () rfl rfl rfl trivial (log_disk (cap := x.2) (B := x.1)) (.inl rfl)
theorem ref_AddL (γ β : Nat) (m : LogV) (f : Nat) (l : List UInt8) (df r : Nat) (e : EvV) (he : e.okV) (hm : m.l.length ≤ 1000000) (hl : l.length ≤ r) (hr : r ≤ 65536) :
    SpcC Try.prog 26 [.ex (ptr γ), .ex (aggE e)] (allC [logC γ β m f, refC β l df r]) (fun _ : Unit => True) (fun _ => .ex (vi (addM m l r e).2.2))
      (fun _ => allC [logC γ β (addM m l r e).1 f, refC β (addM m l r e).2.1 df r]) := by
  refine SpcC.intro Try.func26 rfl (Nat.le_of_ble_eq_true rfl) fun w0 F => ?_
  have hI := kept_below F w0
  have hA := Own.kept F w0
  refine J.open1 (key := 1000) rfl ?_
  refine J.exC (key := 1000) (q := 0) rfl rfl fun x => ?_
  refine J.sepC (key := 1000) (q := 0) rfl rfl ?_
  have hri := refRight_fn e he
  repeat (refine J.seq (J.region mixed hI (by kernel_rfl) ?_))
  refine Plan.boxC (key := 1000) rfl rfl rfl (by intro _ e; cases e; decide) rfl rfl hA fun α => ?_
  repeat (first | refine Plan.assign rfl rfl rfl rfl ?_ | refine J.seq (J.seq (J.region mixed hI (by kernel_rfl) ?_)))
  refine Plan.loadAggC (key := 1000) (q := 3) (vs := e.enc) rfl rfl rfl rfl rfl rfl obj_whole Try.underlying48 rfl (by rw [encE]; kernel_rfl) (by decide) ?_
  by_cases hp : rightP e
  · have hle := evF_le hp
    have hev := ref_EventL e hp
    rw [decide_eq_true hp] at hri
    refine Plan.call (B := 0) rfl rfl rfl (hri) Try.func45 rfl rfl (fun _ _ => Nat.zero_le _) (by repeat (first | exact Opnds.nil | refine Opnds.cons rfl (by exact Sub.refl _) ?_)) ?_
    repeat (first | refine Plan.move rfl rfl rfl rfl ?_ | refine Plan.un rfl rfl rfl rfl rfl ?_ | refine Plan.nilOk rfl rfl rfl rfl ?_ | refine Plan.fieldC rfl rfl rfl rfl (by first | exact Try.underlying74 | exact Try.underlying69) rfl (by kernel_rfl) (by exact (rfl : _ = 0)) ?_ | refine Plan.loadC (key := 1000) (q := 0) rfl rfl rfl rfl rfl rfl (obj_reads1 rfl) (by first | exact Try.underlying3 | exact Try.underlying62) (by rfl) (by decide) ?_ | refine J.seq (J.region mixed hI (by kernel_rfl) ?_) | refine J.condF rfl ?_ | refine J.skip ?_)
    refine Plan.loadAggC (key := 1000) (q := 3) (vs := e.enc) rfl rfl rfl rfl rfl rfl obj_whole Try.underlying48 rfl (by rw [encE]; kernel_rfl) (by decide) ?_
    refine Plan.call (B := 0) rfl rfl rfl (hev) Try.func47 rfl rfl (fun _ _ => Nat.zero_le _) (by repeat (first | exact Opnds.nil | refine Opnds.cons rfl (by exact Sub.refl _) ?_)) ?_
    have hap := ref_Append β l df r (evF e) hl hr (by omega)
    by_cases hfit : l.length + (evF e).length ≤ r
    · have hadd : addM m l r e = (⟨m.s, m.b, m.l ++ [e]⟩, l ++ evF e, 0) := by unfold addM; rw [if_pos hp, if_pos hfit]
      rw [if_pos hfit, if_pos hfit] at hap
      rw [hadd]
      refine Plan.callC (key := 1000) (q := 1) rfl rfl rfl (hap) Try.func46 rfl rfl (by intro _ e; cases e; decide) (by repeat (first | exact Opnds.nil | refine Opnds.cons rfl (by exact Sub.refl _) ?_)) rfl hA rfl ?_
      intro _ _
      repeat (refine Plan.assign rfl rfl rfl rfl ?_)
      refine J.seq (J.seq (J.region mixed hI (by kernel_rfl) ?_))
      repeat (first | refine Plan.move rfl rfl rfl rfl ?_ | (refine Plan.ints rfl rfl rfl rfl rfl rfl ?_; (skip)))
      refine J.condT rfl ?_
      refine J.loose2 [(0, ptr γ)] [(0, .ex (ptr γ))] mixed hI rfl rfl rfl (by kernel_rfl) (by kernel_rfl) (by kernel_rfl) rfl rfl (fun ⟨_, _, h⟩ => h) (fun _ _ _ _ h => h) (by repeat (first | exact Weak.nil | refine Weak.cons rfl (Sub.refl _) ?_)) ?_ ?_
      · exact Gives.cons [(0, .ex (ptr γ))] (by kernel_rfl) rfl (by kernel_rfl) (Plan.move rfl rfl rfl rfl (Plan.gives rfl)) Gives.nil
      repeat (first | refine Plan.move rfl rfl rfl rfl ?_ | refine Plan.assign rfl rfl rfl rfl ?_ | refine Plan.nilOk rfl rfl rfl rfl ?_ | refine Plan.fieldC rfl rfl rfl rfl (by first | exact Try.underlying74 | exact Try.underlying69) rfl (by kernel_rfl) (by exact (rfl : _ = 3)) ?_ | refine Plan.loadC (key := 1000) (q := 0) rfl rfl rfl rfl rfl rfl (obj_reads1 rfl) (by exact Try.underlying35) (by rfl) (by decide) ?_)
      refine Plan.loadAggC (key := 1000) (q := 3) (vs := e.enc) rfl rfl rfl rfl rfl rfl obj_whole Try.underlying48 rfl (by rw [encE]; kernel_rfl) (by decide) ?_
      refine Plan.lit (B := 0) rfl rfl rfl eltE rfl (fun _ _ => Nat.zero_le _) rfl (fun v hv => by rw [List.mem_singleton.1 hv]; rfl) (by decide) ?_
      refine Plan.appendC (key := 1000) (q := 2) (news := e.enc) rfl rfl rfl rfl rfl Sub.own eltE (by intro _ e; cases e; decide) rfl hA rfl (encE_one e) (by rw [evs_len, encE]; omega) fun B1 m1 c1 hm1 => ?_
      obtain rfl : m1 = (m.l ++ [e]).length := by rw [evs_len, encE] at hm1; simp only [List.length_append, List.length_cons, List.length_nil]; omega
      rw [evs_snoc]
      repeat (first | refine Plan.nilOk rfl rfl rfl rfl ?_ | refine Plan.fieldC rfl rfl rfl rfl (by first | exact Try.underlying74 | exact Try.underlying69) rfl (by kernel_rfl) (by exact (rfl : _ = 3)) ?_)
      refine Plan.storeC (key := 1000) (q := 0) rfl rfl rfl rfl rfl rfl (by simp [Value.cells, Value.oneCell', str]) (by kernel_rfl) rfl hA rfl (obj_pat1 (Nat.le_of_ble_eq_true rfl)) ?_
      repeat (first | refine Plan.move rfl rfl rfl rfl ?_ | refine Plan.assign rfl rfl rfl rfl ?_ | refine J.seq (J.region mixed hI (by kernel_rfl) ?_))
      exact J.ret (Nrm.retC1 (key := 1000) () rfl rfl rfl trivial (Sub.refl _) ((Ent.pickC (H' := [obj γ [ptr β, str m.s, .bool m.b, .slice B1 (m.l ++ [e]).length c1, vi f], refC β (l ++ evF e) df r, rowEv B1 (m.l ++ [e]).length c1 (evsC (m.l ++ [e]))]) [0, 1, 2] rfl rfl).trans (log_disk (m := ⟨m.s, m.b, m.l ++ [e]⟩))))
    · have hadd : addM m l r e = (m, l, 9) := by unfold addM; rw [if_pos hp, if_neg hfit]
      rw [if_neg hfit, if_neg hfit] at hap
      rw [hadd]
      refine Plan.callC (key := 1000) (q := 1) rfl rfl rfl (hap) Try.func46 rfl rfl (by intro _ e; cases e; decide) (by repeat (first | exact Opnds.nil | refine Opnds.cons rfl (by exact Sub.refl _) ?_)) rfl hA rfl ?_
      intro _ _
      repeat (first | refine Plan.move rfl rfl rfl rfl ?_ | refine Plan.assign rfl rfl rfl rfl ?_ | (refine Plan.ints rfl rfl rfl rfl rfl rfl ?_; (skip)) | refine J.seq (J.region mixed hI (by kernel_rfl) ?_) | refine J.seq (J.seq (J.region mixed hI (by kernel_rfl) ?_)) | refine J.condF rfl ?_ | refine J.skip ?_)
      exact J.ret (Nrm.retC1 (key := 1000) () rfl rfl rfl trivial (Sub.refl _) ((Ent.pickC (H' := [obj γ [ptr β, str m.s, .bool m.b, .slice x.1 m.l.length x.2, vi f], refC β l df r, rowEv x.1 m.l.length x.2 (evsC m.l)]) [0, 1, 2] rfl rfl).trans log_disk))
  · have hadd : addM m l r e = (m, l, 1) := by unfold addM; rw [if_neg hp]
    rw [decide_eq_false hp] at hri
    rw [hadd]
    refine Plan.call (B := 0) rfl rfl rfl (hri) Try.func45 rfl rfl (fun _ _ => Nat.zero_le _) (by repeat (first | exact Opnds.nil | refine Opnds.cons rfl (by exact Sub.refl _) ?_)) ?_
    repeat (first | refine Plan.assign rfl rfl rfl rfl ?_ | refine Plan.un rfl rfl rfl rfl rfl ?_ | refine J.seq (J.region mixed hI (by kernel_rfl) ?_) | refine J.condT rfl ?_)
    exact J.ret (Nrm.retC1 (key := 1000) () rfl rfl rfl trivial (Sub.refl _) ((Ent.pickC (H' := [obj γ [ptr β, str m.s, .bool m.b, .slice x.1 m.l.length x.2, vi f], refC β l df r, rowEv x.1 m.l.length x.2 (evsC m.l)]) [0, 1, 2] rfl rfl).trans log_disk))
end Go.Proofs.Ytepgphflnelpoaa
end

section
set_option linter.unusedSimpArgs false
set_option linter.unusedVariables false
set_option maxRecDepth 20000
namespace Go.Proofs.Ytepgphflnelpoaa
open Go.Free Go.RowKit Go.Proofs
set_option maxHeartbeats 8000000

def rw1 (F G' : Nat → Prop) (w0 : World) (γ β : Nat) (m : LogV) (f : Nat) (l : List UInt8) (df r : Nat) (s : List UInt8) (L : List EvV) (v : Value) (x : Option Addr × Nat) (i : Nat) : Env :=
  [(0, .ex (ptr γ)), (1, .ex (str s)), (2, .ex v), (7, .ex (str (fPut (1 :: s)))), (18, .ex (vi L.length)), (19, .ex (vi i)),
   (1000, heap (fun b => (F b ∨ w0.heap.size ≤ b) ∧ ¬ G' b) [obj γ [ptr β, str m.s, .bool m.b, .slice x.1 m.l.length x.2, vi f], refC β l df r, rowEv x.1 m.l.length x.2 (evsC m.l)])]
def rw2 (F G' : Nat → Prop) (w0 : World) (γ β : Nat) (m : LogV) (f : Nat) (l : List UInt8) (df r : Nat) (s : List UInt8) (L : List EvV) (v : Value) (x : Option Addr × Nat) (i : Nat) : Env :=
  [(0, .ex (ptr γ)), (1, .ex (str s)), (2, .ex v), (7, .ex (str (rwB s (L.take i)))), (30, .ex (vi L.length)), (31, .ex (vi i)),
   (1000, heap (fun b => (F b ∨ w0.heap.size ≤ b) ∧ ¬ G' b) [obj γ [ptr β, str m.s, .bool m.b, .slice x.1 m.l.length x.2, vi f], refC β l df r, rowEv x.1 m.l.length x.2 (evsC m.l)])]
theorem ref_RewriteL (γ β : Nat) (m : LogV) (f : Nat) (l : List UInt8) (df r : Nat) (s : List UInt8) (L : List EvV) (v : Value) (w1 : World) (G : Nat → Prop)
    (hrow : ∀ w : World, (∀ b, G b → w.heap[b]? = w1.heap[b]?) → rowH 26 (evsC L) w v) (hr : r ≤ 65536) (hL : L.length ≤ 1000) (hok : ∀ e ∈ L, e.okV) (hsl : s.length ≤ 9223372036854775807) :
    SpcC Try.prog 28 [.ex (ptr γ), .ex (str s), .ex v] (allC [logC γ β m f, refC β l df r, frozenC w1 G]) (fun _ : Unit => True) (fun _ => .ex (vi (rwM m f l df r s L).2.2))
      (fun _ => allC [logC γ β (rwM m f l df r s L).1.1 (rwM m f l df r s L).1.2, refC β (rwM m f l df r s L).2.1.1 (rwM m f l df r s L).2.1.2 r, frozenC w1 G]) := by
  refine SpcC.intro Try.func28 rfl (Nat.le_of_ble_eq_true rfl) fun w0 F => ?_
  have hI0 := kept_below F w0
  have hA0 := Own.kept F w0
  refine J.open1 (key := 1000) rfl ?_
  refine J.exC (key := 1000) (q := 0) rfl rfl fun x => ?_
  refine J.sepC (key := 1000) (q := 0) rfl rfl ?_
  refine J.frameC (key := 1000) 2 rfl rfl fun G' hG' => ?_
  have hI := framedC_I (c := frozenC w1 G) (F := G') hI0
  have hA := framedC_own (c := frozenC w1 G) (F := G') hA0
  have hsub : Sub (framedC (fun w => Kept F w0 w) (frozenC w1 G) G') (.ex v) (row 26 (evsC L)) := fun w y hw hy => by
    simp only [Fa.den] at hy
    subst hy
    exact hrow w fun b hb => (hw.2.2 b hb).2
  repeat (first | refine Plan.move rfl rfl rfl rfl ?_ | refine Plan.assign rfl rfl rfl rfl ?_ | refine Plan.lenStr rfl rfl rfl rfl Try.underlying9 ?_ | (refine Plan.ints rfl rfl rfl rfl rfl rfl ?_; (skip)) | refine J.seq (J.region mixed hI (by kernel_rfl) ?_) | refine J.seq (J.seq (J.region mixed hI (by kernel_rfl) ?_)))
  refine J.condD rfl (fun hc => ?_) (fun hc => ?_)
  · have he : rwM m f l df r s L = ((m, f), (l, df), 4) := by unfold rwM; rw [if_pos (by omega)]
    rw [he]
    repeat (first | refine Plan.assign rfl rfl rfl rfl ?_ | refine J.seq (J.region mixed hI (by kernel_rfl) ?_))
    refine J.unframeC (key := 1000) hG' rfl ?_
    exact J.ret (Nrm.retC1 (key := 1000) () rfl rfl rfl trivial (Sub.refl _) ((Ent.pickC (H' := [obj γ [ptr β, str m.s, .bool m.b, .slice x.1 m.l.length x.2, vi f], rowEv x.1 m.l.length x.2 (evsC m.l), refC β l df r, frozenC w1 G]) [0, 2, 1, 3] rfl rfl).trans log_closeL))
  have hs : s.length ≤ 65528 := by omega
  repeat (first | refine Plan.move rfl rfl rfl rfl ?_ | refine J.seq (J.region mixed hI (by kernel_rfl) ?_) | refine J.skip ?_)
  refine Plan.concat (p := [1]) rfl rfl rfl rfl rfl (by simp only [List.length_cons, List.length_nil]; omega) ?_
  refine Plan.call (B := 0) rfl rfl rfl (ref_Frame (1 :: s) (by simp only [List.length_cons]; omega)) Try.func48 rfl rfl (fun _ _ => Nat.zero_le _) (by repeat (first | exact Opnds.nil | refine Opnds.cons rfl (by exact Sub.refl _) ?_)) ?_
  repeat (first | refine Plan.move rfl rfl rfl rfl ?_ | refine Plan.assign rfl rfl rfl rfl ?_ | refine J.seq (J.seq (J.region mixed hI (by kernel_rfl) ?_)))
  refine Plan.lenRow (m := L.length) rfl rfl rfl rfl hsub Try.underlying35 (by rw [evs_len]) (by decide) ?_
  repeat (refine Plan.move rfl rfl rfl rfl ?_)
  refine J.block (J.loop (rw1 F G' w0 γ β m f l df r s L v x) (fun i => i ≤ L.length ∧ ∀ e ∈ L.take i, rightP e) (fun i => L.length - i) 0 ⟨Nat.zero_le _, fun e he => by simp at he⟩ ?_ ?_)
  · repeat (first | exact Weak.nil | refine Weak.cons rfl (Sub.refl _) ?_)
  rintro i ⟨hi, hri⟩
  repeat (first | (refine Plan.ints rfl rfl rfl rfl rfl rfl ?_; (skip)) | refine J.seq (J.region mixed hI (by kernel_rfl) ?_))
  refine J.seq (J.condD rfl (fun hc => ?_) (fun hc => ?_))
  · have hlt : i < L.length := by omega
    have hx : L[i]? = some L[i] := List.getElem?_eq_getElem hlt
    obtain ⟨e, hee⟩ : ∃ e, e = L[i] := ⟨_, rfl⟩
    have hgd : L.getD i ev0 = e := by rw [hee, List.getD_eq_getElem?_getD, hx]; rfl
    have heM : e ∈ L := hee ▸ List.getElem_mem hlt
    have hrg := refRight_fn e (hok e heM)
    have htk : L.take (i + 1) = L.take i ++ [e] := by rw [hee]; exact List.take_succ_eq_append_getElem hlt
    repeat (refine J.skip ?_)
    refine J.seq (J.block ?_)
    repeat (first | refine Plan.move rfl rfl rfl rfl ?_ | refine Plan.assign rfl rfl rfl rfl ?_ | refine J.seq (J.region mixed hI (by kernel_rfl) ?_))
    refine Plan.indexAddr EvV.enc 26 L ev0 rfl rfl rfl rfl hsub rfl eltE encE (by omega) (by omega) ?_
    rw [Int.toNat_natCast, hgd]
    refine Plan.loadAggP rfl rfl rfl rfl (Sub.refl _) Try.underlying48 rfl (by rw [encE]; kernel_rfl) ?_
    by_cases hp : rightP e
    · rw [decide_eq_true hp] at hrg
      refine Plan.call (B := 0) rfl rfl rfl (hrg) Try.func45 rfl rfl (fun _ _ => Nat.zero_le _) (by repeat (first | exact Opnds.nil | refine Opnds.cons rfl (by exact Sub.refl _) ?_)) ?_
      repeat (first | refine Plan.move rfl rfl rfl rfl ?_ | (refine Plan.ints rfl rfl rfl rfl rfl rfl ?_; (refine Plan.int (i64r (by omega)) ?_)) | refine Plan.un rfl rfl rfl rfl rfl ?_ | refine J.region mixed hI (by kernel_rfl) ?_ | refine J.condF rfl ?_ | refine J.skip ?_)
      refine Plan.int (y := ((i + 1 : Nat) : Int)) (by omega) ?_
      repeat (fail)
      refine Nrm.next (i + 1) ⟨hlt, fun y hy => ?_⟩ (by omega) (by repeat (first | exact Weak.nil | refine Weak.cons rfl (Sub.refl _) ?_))
      rw [htk] at hy
      rcases List.mem_append.1 hy with hy | hy
      · exact hri y hy
      · rw [List.mem_singleton.1 hy]; exact hp
    · have hno : okAll L = false := by
        cases h : okAll L with
        | false => rfl
        | true => exact absurd (okAll_iff.1 h e heM) hp
      have he : rwM m f l df r s L = ((m, f), (l, df), 1) := by unfold rwM; rw [if_neg (by omega), if_pos hno]
      rw [he]
      rw [decide_eq_false hp] at hrg
      refine Plan.call (B := 0) rfl rfl rfl (hrg) Try.func45 rfl rfl (fun _ _ => Nat.zero_le _) (by repeat (first | exact Opnds.nil | refine Opnds.cons rfl (by exact Sub.refl _) ?_)) ?_
      repeat (first | refine Plan.assign rfl rfl rfl rfl ?_ | refine Plan.un rfl rfl rfl rfl rfl ?_ | refine J.seq (J.region mixed hI (by kernel_rfl) ?_) | refine J.condT rfl ?_)
      refine J.unframeC (key := 1000) hG' rfl ?_
      exact J.ret (Nrm.retC1 (key := 1000) () rfl rfl rfl trivial (Sub.refl _) ((Ent.pickC (H' := [obj γ [ptr β, str m.s, .bool m.b, .slice x.1 m.l.length x.2, vi f], rowEv x.1 m.l.length x.2 (evsC m.l), refC β l df r, frozenC w1 G]) [0, 2, 1, 3] rfl rfl).trans log_closeL))
  have hie : i = L.length := by omega
  subst hie
  rw [List.take_length] at hri
  have hyes : okAll L = true := okAll_iff.2 hri
  have hbl := rwB_le hs hri
  refine J.exit ?_
  repeat (first | refine Plan.move rfl rfl rfl rfl ?_ | refine J.seq (J.seq (J.region mixed hI (by kernel_rfl) ?_)))
  refine Plan.lenRow (m := L.length) rfl rfl rfl rfl hsub Try.underlying35 (by rw [evs_len]) (by decide) ?_
  repeat (refine Plan.move rfl rfl rfl rfl ?_)
  refine J.block (J.loop (rw2 F G' w0 γ β m f l df r s L v x) (fun i => i ≤ L.length) (fun i => L.length - i) 0 (Nat.zero_le _) ?_ ?_)
  · have h0 : rwB s (L.take 0) = fPut (1 :: s) := by simp [rwB]
    rw [rw2, h0]
    repeat (first | exact Weak.nil | refine Weak.cons rfl (Sub.refl _) ?_)
  rintro i hi
  repeat (first | (refine Plan.ints rfl rfl rfl rfl rfl rfl ?_; (skip)) | refine J.seq (J.region mixed hI (by kernel_rfl) ?_))
  refine J.seq (J.condD rfl (fun hc => ?_) (fun hc => ?_))
  · have hlt : i < L.length := by omega
    have hx : L[i]? = some L[i] := List.getElem?_eq_getElem hlt
    obtain ⟨e, hee⟩ : ∃ e, e = L[i] := ⟨_, rfl⟩
    have hgd : L.getD i ev0 = e := by rw [hee, List.getD_eq_getElem?_getD, hx]; rfl
    have heM : e ∈ L := hee ▸ List.getElem_mem hlt
    have hev := ref_EventL e (hri e heM)
    have hel := evF_le (hri e heM)
    have htk : L.take (i + 1) = L.take i ++ [e] := by rw [hee]; exact List.take_succ_eq_append_getElem hlt
    have hnx : rwB s (L.take i) ++ evF e = rwB s (L.take (i + 1)) := by rw [htk]; simp [rwB]
    have hbi := rwB_le (L := L.take i) hs fun y hy => hri y (List.mem_of_mem_take hy)
    rw [List.length_take, Nat.min_eq_left hi] at hbi
    repeat (refine J.skip ?_)
    refine J.seq (J.block ?_)
    repeat (first | refine Plan.move rfl rfl rfl rfl ?_ | refine Plan.assign rfl rfl rfl rfl ?_ | refine J.seq (J.region mixed hI (by kernel_rfl) ?_) | refine J.region mixed hI (by kernel_rfl) ?_)
    refine Plan.indexAddr EvV.enc 26 L ev0 rfl rfl rfl rfl hsub rfl eltE encE (by omega) (by omega) ?_
    rw [Int.toNat_natCast, hgd]
    refine Plan.loadAggP rfl rfl rfl rfl (Sub.refl _) Try.underlying48 rfl (by rw [encE]; kernel_rfl) ?_
    refine Plan.call (B := 0) rfl rfl rfl (hev) Try.func47 rfl rfl (fun _ _ => Nat.zero_le _) (by repeat (first | exact Opnds.nil | refine Opnds.cons rfl (by exact Sub.refl _) ?_)) ?_
    refine Plan.concat rfl rfl rfl rfl rfl (by omega) ?_
    rw [hnx]
    repeat (first | refine Plan.move rfl rfl rfl rfl ?_ | refine Plan.assign rfl rfl rfl rfl ?_ | (refine Plan.ints rfl rfl rfl rfl rfl rfl ?_; (refine Plan.int (i64r (by omega)) ?_)) | refine J.region mixed hI (by kernel_rfl) ?_)
    refine Plan.int (y := ((i + 1 : Nat) : Int)) (by omega) ?_
    repeat (fail)
    exact Nrm.next (i + 1) hlt (by omega) (by repeat (first | exact Weak.nil | refine Weak.cons rfl (Sub.refl _) ?_))
  have hie : i = L.length := by omega
  subst hie
  refine J.exit ?_
  rw [rw2, List.take_length]
  have hre := ref_Replace β l df r (rwB s L)
  repeat (first | refine Plan.move rfl rfl rfl rfl ?_ | refine Plan.nilOk rfl rfl rfl rfl ?_ | refine Plan.fieldC rfl rfl rfl rfl (by first | exact Try.underlying74 | exact Try.underlying69) rfl (by kernel_rfl) (by exact (rfl : _ = 0)) ?_ | refine Plan.loadC (key := 1000) (q := 0) rfl rfl rfl rfl rfl rfl (obj_reads1 rfl) (by first | exact Try.underlying3 | exact Try.underlying62) (by rfl) (by decide) ?_ | refine J.seq (J.region mixed hI (by kernel_rfl) ?_))
  by_cases hfit : (rwB s L).length ≤ r
  · have he : rwM m f l df r s L = ((⟨s, true, L⟩, L.length), (rwB s L, (rwB s L).length), 0) := by unfold rwM; rw [if_neg (by omega), if_neg (by rw [hyes]; decide), if_pos hfit]
    rw [he]
    rw [if_pos hfit] at hre
    simp only [if_pos hfit] at hre
    refine Plan.callC (key := 1000) (q := 1) rfl rfl rfl (hre) Try.func49 rfl rfl (by intro _ e; cases e; decide) (by repeat (first | exact Opnds.nil | refine Opnds.cons rfl (by exact Sub.refl _) ?_)) rfl hA rfl ?_
    intro _ _
    repeat (first | refine Plan.move rfl rfl rfl rfl ?_ | refine Plan.assign rfl rfl rfl rfl ?_ | (refine Plan.ints rfl rfl rfl rfl rfl rfl ?_; (skip)) | refine Plan.nilOk rfl rfl rfl rfl ?_ | refine Plan.fieldC rfl rfl rfl rfl (by first | exact Try.underlying74 | exact Try.underlying69) rfl (by kernel_rfl) (by exact (rfl : _ = 1)) ?_ | refine J.seq (J.region mixed hI (by kernel_rfl) ?_) | refine J.seq (J.seq (J.region mixed hI (by kernel_rfl) ?_)) | refine J.condF rfl ?_ | refine J.skip ?_)
    refine Plan.storeC (key := 1000) (q := 0) rfl rfl rfl rfl rfl rfl (by simp [Value.cells, Value.oneCell', str]) (by kernel_rfl) rfl hA rfl (obj_pat1 (Nat.le_of_ble_eq_true rfl)) ?_
    repeat (first | refine Plan.move rfl rfl rfl rfl ?_ | refine Plan.nilOk rfl rfl rfl rfl ?_ | refine Plan.fieldC rfl rfl rfl rfl (by first | exact Try.underlying74 | exact Try.underlying69) rfl (by kernel_rfl) (by exact (rfl : _ = 2)) ?_ | refine J.seq (J.region mixed hI (by kernel_rfl) ?_))
    refine Plan.storeC (key := 1000) (q := 0) rfl rfl rfl rfl rfl rfl (by simp [Value.cells, Value.oneCell', str]) (by kernel_rfl) rfl hA rfl (obj_pat1 (Nat.le_of_ble_eq_true rfl)) ?_
    repeat (first | refine Plan.move rfl rfl rfl rfl ?_ | refine J.seq (J.region mixed hI (by kernel_rfl) ?_))
    refine Plan.litC (key := 1000) (vs := []) rfl rfl rfl eltE rfl (by intro _ e; cases e; decide) rfl hA rfl (by simp) (by decide) fun B2 m0 c2 hm0 => ?_
    obtain rfl : m0 = 0 := by
      simp [flat] at hm0; omega
    repeat (refine Plan.move rfl rfl rfl rfl ?_)
    refine Plan.appendC (key := 1000) (q := 3) (news := evsC L) rfl rfl rfl rfl rfl hsub eltE (by intro _ e; cases e; decide) rfl hA rfl (evs_one L) (by rw [evs_len]; simp [flat]; omega) fun B3 m3 c3 hm3 => ?_
    obtain rfl : m3 = L.length := by rw [evs_len] at hm3; simp [flat] at hm3; omega
    have hfl : flat [] ++ evsC L = evsC L := rfl
    rw [hfl]
    repeat (first | refine Plan.nilOk rfl rfl rfl rfl ?_ | refine Plan.fieldC rfl rfl rfl rfl (by first | exact Try.underlying74 | exact Try.underlying69) rfl (by kernel_rfl) (by exact (rfl : _ = 3)) ?_)
    refine Plan.storeC (key := 1000) (q := 0) rfl rfl rfl rfl rfl rfl (by simp [Value.cells, Value.oneCell', str]) (by kernel_rfl) rfl hA rfl (obj_pat1 (Nat.le_of_ble_eq_true rfl)) ?_
    repeat (first | refine Plan.move rfl rfl rfl rfl ?_ | refine J.seq (J.region mixed hI (by kernel_rfl) ?_))
    refine Plan.lenRow (m := L.length) rfl rfl rfl rfl hsub Try.underlying35 (by rw [evs_len]) (by decide) ?_
    repeat (first | refine Plan.nilOk rfl rfl rfl rfl ?_ | refine Plan.fieldC rfl rfl rfl rfl (by first | exact Try.underlying74 | exact Try.underlying69) rfl (by kernel_rfl) (by exact (rfl : _ = 4)) ?_)
    refine Plan.storeC (key := 1000) (q := 0) rfl rfl rfl rfl rfl rfl (by simp [Value.cells, Value.oneCell', str]) (by kernel_rfl) rfl hA rfl (obj_pat1 (Nat.le_of_ble_eq_true rfl)) ?_
    repeat (first | refine Plan.assign rfl rfl rfl rfl ?_ | refine J.seq (J.region mixed hI (by kernel_rfl) ?_))
    refine J.unframeC (key := 1000) hG' rfl ?_
    exact J.ret (Nrm.retC1 (key := 1000) () rfl rfl rfl trivial (Sub.refl _) ((Ent.pickC (H' := [obj γ [ptr β, str s, .bool true, .slice B3 L.length c3, vi L.length], rowEv B3 L.length c3 (evsC L), refC β (rwB s L) (rwB s L).length r, frozenC w1 G]) [0, 3, 1, 4] rfl rfl).trans (log_closeL (m := ⟨s, true, L⟩))))
  · have he : rwM m f l df r s L = ((m, f), (l, df), 9) := by unfold rwM; rw [if_neg (by omega), if_neg (by rw [hyes]; decide), if_neg hfit]
    rw [he]
    rw [if_neg hfit] at hre
    simp only [if_neg hfit] at hre
    refine Plan.callC (key := 1000) (q := 1) rfl rfl rfl (hre) Try.func49 rfl rfl (by intro _ e; cases e; decide) (by repeat (first | exact Opnds.nil | refine Opnds.cons rfl (by exact Sub.refl _) ?_)) rfl hA rfl ?_
    intro _ _
    repeat (first | refine Plan.move rfl rfl rfl rfl ?_ | refine Plan.assign rfl rfl rfl rfl ?_ | (refine Plan.ints rfl rfl rfl rfl rfl rfl ?_; (skip)) | refine J.seq (J.region mixed hI (by kernel_rfl) ?_) | refine J.seq (J.seq (J.region mixed hI (by kernel_rfl) ?_)) | refine J.condT rfl ?_)
    refine J.unframeC (key := 1000) hG' rfl ?_
    exact J.ret (Nrm.retC1 (key := 1000) () rfl rfl rfl trivial (Sub.refl _) ((Ent.pickC (H' := [obj γ [ptr β, str m.s, .bool m.b, .slice x.1 m.l.length x.2, vi f], rowEv x.1 m.l.length x.2 (evsC m.l), refC β l df r, frozenC w1 G]) [0, 2, 1, 3] rfl rfl).trans log_closeL))
end Go.Proofs.Ytepgphflnelpoaa
end

section
set_option linter.unusedSimpArgs false
set_option linter.unusedVariables false
set_option maxRecDepth 20000
namespace Go.Proofs.Ytepgphflnelpoaa
open Go.Free Go.RowKit Go.Proofs

theorem flip_comm (l : List UInt8) (a b : Nat) : flipAt (flipAt l a) b = flipAt (flipAt l b) a := by
  unfold flipAt
  apply List.ext_getElem?
  intro i
  simp only [List.getElem?_set, List.length_set, List.getD_eq_getElem?_getD]
  by_cases hab : a / 8 = b / 8
  · rw [hab]
    by_cases hi : b / 8 = i
    · subst hi
      simp only [if_true]
      by_cases hl : b / 8 < l.length
      · simp [hl, UInt8.xor_assoc, UInt8.xor_comm (bitAt a) (bitAt b)]
      · simp [hl]
    · simp [hi]
  · by_cases hi : b / 8 = i
    · subst hi
      have h1 : ¬ a / 8 = b / 8 := hab
      have h2 : ¬ b / 8 = a / 8 := fun h => hab h.symm
      simp [h1, h2]
    · by_cases hj : a / 8 = i
      · subst hj
        have h2 : ¬ b / 8 = a / 8 := fun h => hab h.symm
        simp [h2]
      · simp [hi, hj]
def turnIf (l : List UInt8) (p m i : Nat) : List UInt8 := if m / 2 ^ (15 - i) % 2 = 1 then flipAt l (p + i) else l
theorem turn_comm (l : List UInt8) (p m i q n j : Nat) : turnIf (turnIf l p m i) q n j = turnIf (turnIf l q n j) p m i := by
  unfold turnIf; split <;> split <;> first | rfl | exact flip_comm _ _ _
theorem flips_succ (l : List UInt8) (p m i : Nat) : flips l p m (i + 1) = turnIf (flips l p m i) p m i := rfl
theorem flips_turn (l : List UInt8) (p m j : Nat) : ∀ i, flips (turnIf l p m j) p m i = turnIf (flips l p m i) p m j
  | 0 => rfl
  | i + 1 => by rw [flips_succ, flips_succ, flips_turn l p m j i, turn_comm]
/-- The highest place first. -/
def flipsR (l : List UInt8) (p m : Nat) : Nat → List UInt8
  | 0 => l
  | j + 1 => turnIf (flipsR l p m j) p m (15 - j)
theorem flipsR_eq (l : List UInt8) (p m : Nat) : flipsR l p m 16 = flips l p m 16 := by
  have key : ∀ j, j ≤ 16 → flips (flipsR l p m j) p m (16 - j) = flips l p m 16 := by
    intro j
    induction j with
    | zero => intro _; rfl
    | succ j ih =>
      intro hj
      rw [← ih (by omega), show 16 - j = (16 - (j + 1)) + 1 by omega, flips_succ]
      simp only [flipsR]
      rw [flips_turn, show 16 - (j + 1) = 15 - j by omega]
  exact key 16 (Nat.le_refl _)
theorem flipsR_length (l : List UInt8) (p m : Nat) : ∀ i, (flipsR l p m i).length = l.length
  | 0 => rfl
  | i + 1 => by simp only [flipsR, turnIf]; split <;> simp [flip_length, flipsR_length l p m i]

theorem flip_twice (l : List UInt8) (a : Nat) : flipAt (flipAt l a) a = l := by
  unfold flipAt
  by_cases h : a / 8 < l.length
  · rw [List.set_set]
    have e : (l.set (a / 8) (l.getD (a / 8) 0 ^^^ bitAt a)).getD (a / 8) 0 = l.getD (a / 8) 0 ^^^ bitAt a := by simp [List.getD_eq_getElem?_getD, h]
    rw [e, UInt8.xor_assoc, UInt8.xor_self, UInt8.xor_zero, List.getD_eq_getElem?_getD, List.getElem?_eq_getElem h]
    simp
  · rw [List.set_eq_of_length_le (by simp; omega), List.set_eq_of_length_le (by omega)]
theorem turn_twice (l : List UInt8) (p m i : Nat) : turnIf (turnIf l p m i) p m i = l := by
  unfold turnIf; split
  · exact flip_twice _ _
  · rfl
theorem flips_twice (l : List UInt8) (p m : Nat) : ∀ i, flips (flips l p m i) p m i = l
  | 0 => rfl
  | i + 1 => by
    rw [flips_succ, flips_succ, flips_turn, turn_twice, flips_twice l p m i]
theorem flips_none (l : List UInt8) (p : Nat) : ∀ i, flips l p 0 i = l
  | 0 => rfl
  | i + 1 => by
    have := flips_none l p i
    simp [flips, this]
end Go.Proofs.Ytepgphflnelpoaa
end

section
set_option linter.unusedSimpArgs false
set_option linter.unusedVariables false
set_option maxRecDepth 20000
namespace Go.Proofs.Ytepgphflnelpoaa
open Go.Free Go.RowKit Go.Proofs
set_option maxHeartbeats 2000000

def rcE (β g cap f r kp p m : Nat) (A : Nat → Prop) (l t0 : List UInt8) (j : Nat) : Env :=
  [(0, .ex (ptr β)), (8, .ex (.slice (some ⟨g, 0, none⟩) kp cap)), (9, .ex (.int .i64 p)), (10, .ex (.int .i64 (m / 2 ^ j : Nat))), (11, .ex (.int .i64 (15 - (j : Int)))),
   (1000, heap A [refC β l f r, wrow 5 g kp cap (bs (flipsR t0 p m j))])]
def rvE (β g cap f r kp p m k : Nat) (A : Nat → Prop) (l t0 : List UInt8) (j : Nat) (s : Nat × Nat) : Env :=
  (12, .ex (.int .i64 k)) :: (13, .ex (.int .i64 s.1)) :: (14, .ex (.int .u8 s.2)) :: rcE β g cap f r kp p m A l t0 j

theorem ref_Crash (β : Nat) (l : List UInt8) (f r : Nat) (keep at_ turn : Int) (hl : l.length ≤ 65536) (hf : f ≤ l.length)
    (hkeep : -9223372036854775808 ≤ keep ∧ keep ≤ 9223372036854775807) (hat : -9223372036854775808 ≤ at_ ∧ at_ ≤ 9223372036854775807) (hturn : -9223372036854775808 ≤ turn ∧ turn ≤ 9223372036854775807) :
    SpcC Try.prog 29 [.ex (ptr β), .ex (.int .i64 keep), .ex (.int .i64 at_), .ex (.int .i64 turn)] (refC β l f r) (fun _ : Unit => True)
    (fun _ => Fa.any) (fun _ => refC β (crashOf l f keep at_ turn) (crashOf l f keep at_ turn).length r) := by
  refine SpcC.intro Try.func29 rfl (Nat.le_of_ble_eq_true rfl) fun w0 F => ?_
  have hA := Own.kept F w0
  refine J.fresh (key := 1000) rfl hA fun B hBA => ?_
  have hI := hFresh (B := B) (kept_below F w0)
  repeat (first | refine Plan.move rfl rfl rfl rfl ?_ | refine Plan.nilOk rfl rfl rfl rfl ?_ | refine Plan.fieldC rfl rfl rfl rfl (by first | exact Try.underlying74 | exact Try.underlying71) rfl (by kernel_rfl) (by first | exact (rfl : _ = 0) | exact (rfl : _ = 1)) ?_ | refine Plan.loadC (key := 1000) (q := 0) rfl rfl rfl rfl rfl rfl (obj_reads1 rfl) (by first | exact Try.underlying3 | exact Try.underlying9) (by rfl) (by decide) ?_ | refine J.seq (J.region mixed hI (by kernel_rfl) ?_))
  refine Plan.sliceStr (a0 := f) (b0 := l.length) rfl rfl rfl rfl Try.underlying9 (.inr ⟨_, _, rfl, rfl⟩) (.inl ⟨rfl, rfl⟩) hf (Nat.le_refl _) ?_
  rw [List.take_of_length_le (Nat.le_refl _)]
  refine Plan.convSBW (B := B) rfl rfl rfl rfl Try.underlying9 Try.underlying27 Try.underlying5 (by simp; omega) (fun _ h => h.2) ?_
  repeat (refine Plan.assign rfl rfl rfl rfl ?_)
  refine J.takeW (t := 8) (key := 1000) rfl (Sub.refl _) rfl hBA fun g cap => ?_
  refine J.idle (I' := fun w => Kept F w0 w) (fun _ h => h.1) ?_
  have hI := kept_below F w0
  have hbl : (bs (l.drop f)).length = l.length - f := by rw [bs_length, List.length_drop]
  rw [hbl]
  refine J.factC (key := 1000) (q := 1) rfl rfl (fun w F hh => w_fact hh) fun hfact => ?_
  obtain ⟨-, hcap, hcapM⟩ := hfact
  repeat (first | refine Plan.move rfl rfl rfl rfl ?_ | refine Plan.lenE rfl rfl rfl rfl Try.underlying27 ?_ | refine J.seq (J.region mixed hI (by kernel_rfl) ?_))
  refine Plan.min2 rfl rfl rfl rfl rfl ?_
  refine Plan.max2 rfl rfl rfl rfl rfl ?_
  rw [← kept_eq]
  obtain ⟨kp, hkp⟩ : ∃ kp, kp = keptOf (l.length - f) keep := ⟨_, rfl⟩
  have hkple : kp ≤ l.length - f := by rw [hkp]; exact kept_le _ _
  rw [← hkp]
  refine Plan.sliceHi rfl rfl rfl rfl eltB rfl (by omega) ?_
  repeat (refine Plan.assign rfl rfl rfl rfl ?_)
  obtain ⟨t0, ht0⟩ : ∃ t0, t0 = (l.drop f).take kp := ⟨_, rfl⟩
  have ht0l : t0.length = kp := by rw [ht0, List.length_take, List.length_drop]; omega
  have hcr : crashOf l f keep at_ turn = l.take f ++ tailOf t0 at_ turn := by unfold crashOf; rw [← hkp, ← ht0]
  have hbt : (bs (l.drop f)).take kp = bs t0 := by rw [ht0]; simp [bs, List.map_take]
  have htl : (tailOf t0 at_ turn).length = kp := by rw [tail_length, ht0l]
  refine J.convC (key := 1000) (q := 1) rfl rfl (Ent.wCut (m := kp) hkple) ?_
  rw [hbt]
  repeat (first | refine Plan.move rfl rfl rfl rfl ?_ | refine Plan.lenE rfl rfl rfl rfl Try.underlying27 ?_ | (refine Plan.ints rfl rfl rfl rfl rfl rfl ?_; (skip)) | refine J.seq (J.seq (J.region mixed hI (by kernel_rfl) ?_)))
  by_cases h2 : 2 ≤ kp
  · refine J.condD rfl (fun h3 => ?_) (fun h3 => ?_)
    rotate_left
    · omega
    repeat (first | refine Plan.move rfl rfl rfl rfl ?_ | refine Plan.lenE rfl rfl rfl rfl Try.underlying27 ?_ | (refine Plan.ints rfl rfl rfl rfl rfl rfl ?_; (refine Plan.int (i64r (by omega)) ?_)) | refine J.seq (J.region mixed hI (by kernel_rfl) ?_))
    refine Plan.call (B := 0) rfl rfl rfl (ref_rest at_ (8 * (kp : Int) - 15) (by omega)) Try.func50 rfl rfl (fun _ _ => Nat.zero_le _) (by repeat (first | exact Opnds.nil | refine Opnds.cons rfl (by exact Sub.refl _) ?_)) ?_
    obtain ⟨p, hp⟩ : ∃ p : Nat, (p : Int) = at_ % (8 * (kp : Int) - 15) := ⟨(at_ % (8 * (kp : Int) - 15)).toNat, Int.toNat_of_nonneg (Int.emod_nonneg _ (by omega))⟩
    have hpl : p < 8 * kp - 15 := by
      have := Int.emod_lt_of_pos at_ (show (0 : Int) < 8 * (kp : Int) - 15 by omega)
      omega
    rw [← hp]
    obtain ⟨m, hm⟩ : ∃ m : Nat, (m : Int) = turn % 65536 := ⟨(turn % 65536).toNat, Int.toNat_of_nonneg (Int.emod_nonneg _ (by omega))⟩
    have hml : m < 65536 := by
      have := Int.emod_lt_of_pos turn (show (0 : Int) < 65536 by omega)
      omega
    have htail : tailOf t0 at_ turn = flipsR t0 p m 16 := by
      rw [flipsR_eq]
      unfold tailOf
      rw [ht0l, if_pos h2, show ((8 * kp : Nat) : Int) - 15 = 8 * (kp : Int) - 15 by omega, ← hp, ← hm]
      rfl
    repeat (first | refine Plan.move rfl rfl rfl rfl ?_ | refine Plan.assign rfl rfl rfl rfl ?_ | refine J.seq (J.region mixed hI (by kernel_rfl) ?_))
    refine Plan.call (B := 0) rfl rfl rfl (ref_rest turn 65536 (by omega)) Try.func50 rfl rfl (fun _ _ => Nat.zero_le _) (by repeat (first | exact Opnds.nil | refine Opnds.cons rfl (by exact Sub.refl _) ?_)) ?_
    rw [← hm]
    repeat (first | refine Plan.assign rfl rfl rfl rfl ?_ | refine J.seq (J.region mixed hI (by kernel_rfl) ?_))
    refine J.block (J.loop (rcE β g cap f r kp p m (fun b => F b ∨ w0.heap.size ≤ b) l t0) (fun j => j ≤ 16) (fun j => 16 - j) 0 (Nat.zero_le _) ?_ ?_)
    · refine Weak.cons rfl (Sub.refl _) ?_
      refine Weak.cons rfl (Sub.refl _) ?_
      refine Weak.cons rfl (Sub.refl _) ?_
      refine Weak.cons rfl (Sub.of_eq (by rw [Nat.pow_zero, Nat.div_one])) ?_
      repeat (first | exact Weak.nil | refine Weak.cons rfl (Sub.refl _) ?_)
    intro j hj
    have hfl := flipsR_length t0 p m j
    repeat (first | refine Plan.move rfl rfl rfl rfl ?_ | (refine Plan.ints rfl rfl rfl rfl rfl rfl ?_; (skip)) | refine J.seq (J.seq (J.region mixed hI (by kernel_rfl) ?_)))
    refine J.condD rfl (fun hlt => ?_) (fun hlt => ?_)
    · have hlt' : j < 16 := by omega
      repeat (refine J.skip ?_)
      refine J.seq (J.block ?_)
      repeat (first | refine Plan.move rfl rfl rfl rfl ?_ | (refine Plan.ints rfl rfl rfl rfl rfl rfl ?_; (first | refine Plan.int (remN _ _) ?_ | skip)) | refine J.seq (J.seq (J.region mixed hI (by kernel_rfl) ?_)))
      refine J.condE rfl (fun hbit => ?_) (fun hbit => ?_)
      · have hbit' : m / 2 ^ j % 2 = 1 := by omega
        obtain ⟨k, hk⟩ : ∃ k, k = p + (15 - j) := ⟨_, rfl⟩
        refine J.seq (J.region mixed hI (by kernel_rfl) ?_)
        repeat (first | refine Plan.move rfl rfl rfl rfl ?_ | refine Plan.assign rfl rfl rfl rfl ?_ | (refine Plan.ints rfl rfl rfl rfl rfl rfl ?_; (refine Plan.int (i64r (by omega)) ?_)))
        refine Plan.int (y := (k : Int)) (by omega) ?_
        refine J.seq (J.region mixed hI (by kernel_rfl) ?_)
        repeat (first | refine Plan.move rfl rfl rfl rfl ?_ | refine Plan.assign rfl rfl rfl rfl ?_ | (refine Plan.ints rfl rfl rfl rfl rfl rfl ?_; (first | refine Plan.int (i64r (by omega)) ?_ | refine Plan.int (remN _ _) ?_)))
        refine Plan.int (y := ((7 - k % 8 : Nat) : Int)) (by omega) ?_
        repeat (first | refine Plan.assign rfl rfl rfl rfl ?_ | refine J.seq (J.region mixed hI (by kernel_rfl) ?_))
        refine J.seq (J.block (J.loop (rvE β g cap f r kp p m k (fun b => F b ∨ w0.heap.size ≤ b) l t0 j) (fun s => s.2 * 2 ^ s.1 = 2 ^ (7 - k % 8) ∧ s.1 ≤ 7) (fun s => s.1) (7 - k % 8, 1) ⟨by simp, by dsimp only; omega⟩ ?_ ?_))
        · repeat (first | exact Weak.nil | refine Weak.cons rfl (Sub.refl _) ?_)
        rintro ⟨b, v⟩ ⟨hv, hb7⟩
        dsimp only at hv hb7
        repeat (first | refine Plan.move rfl rfl rfl rfl ?_ | (refine Plan.ints rfl rfl rfl rfl rfl rfl ?_; (skip)) | refine J.seq (J.seq (J.region mixed hI (by kernel_rfl) ?_)))
        refine J.condD rfl (fun hb0 => ?_) (fun hb0 => ?_)
        · have hb1 : 0 < b := by
            dsimp only at hb0; omega
          have hle : 2 ^ (7 - k % 8) ≤ 2 ^ 7 := Nat.pow_le_pow_right (by decide) (by omega)
          have hv2 : v * 2 * 2 ^ (b - 1) = 2 ^ (7 - k % 8) := by
            rw [Nat.mul_assoc, ← Nat.pow_succ', show (b - 1).succ = b by omega]; exact hv
          have hvl : v * 2 ≤ 128 := by
            have : v * 2 ≤ v * 2 * 2 ^ (b - 1) := Nat.le_mul_of_pos_right _ (Nat.pow_pos (by decide))
            omega
          repeat (refine J.skip ?_)
          refine J.block ?_
          refine J.seq (J.region mixed hI (by kernel_rfl) ?_)
          repeat (first | refine Plan.move rfl rfl rfl rfl ?_ | refine Plan.assign rfl rfl rfl rfl ?_ | (refine Plan.ints rfl rfl rfl rfl rfl rfl ?_; (refine Plan.int (u8r (by omega)) ?_)))
          refine Plan.int (y := ((v * 2 : Nat) : Int)) (by omega) ?_
          refine (J.region mixed hI (by kernel_rfl) ?_)
          repeat (first | refine Plan.move rfl rfl rfl rfl ?_ | refine Plan.assign rfl rfl rfl rfl ?_ | (refine Plan.ints rfl rfl rfl rfl rfl rfl ?_; (refine Plan.int (i64r (by omega)) ?_)))
          refine Plan.int (y := ((b - 1 : Nat) : Int)) (by dsimp only; omega) ?_
          exact Nrm.next (b - 1, v * 2) ⟨hv2, by dsimp only; omega⟩ (by dsimp only; omega) (by repeat (first | exact Weak.nil | refine Weak.cons rfl (Sub.refl _) ?_))
        · have hb1 : b = 0 := by
            dsimp only at hb0; omega
          subst hb1
          rw [Nat.pow_zero, Nat.mul_one] at hv
          have hle : 2 ^ (7 - k % 8) ≤ 2 ^ 7 := Nat.pow_le_pow_right (by decide) (by omega)
          have hvb : (v : Int) = (bitAt k).toNat := by
            have hb : (bitAt k).toNat = 2 ^ (7 - k % 8) := by unfold bitAt; rw [UInt8.toNat_ofNat']; exact Nat.mod_eq_of_lt (by omega)
            rw [hb, hv]
          have hq8 : k / 8 < (flipsR t0 p m j).length := by omega
          have hget : (bs (flipsR t0 p m j))[0 + k / 8 * 1]? = some (.int .u8 ((flipsR t0 p m j).getD (k / 8) 0).toNat) := by
            rw [show 0 + k / 8 * 1 = k / 8 by omega]
            simp only [bs]
            rw [List.getElem?_map, List.getElem?_eq_getElem hq8, List.getD_eq_getElem?_getD, List.getElem?_eq_getElem hq8]
            rfl
          refine J.exit ?_
          repeat (first | refine Plan.move rfl rfl rfl rfl ?_ | (refine Plan.ints rfl rfl rfl rfl rfl rfl ?_; (refine Plan.int (quoN (by omega)) ?_)) | refine J.region mixed hI (by kernel_rfl) ?_)
          refine Plan.indexC rfl rfl rfl rfl rfl eltB (by omega) rfl ?_
          refine Plan.loadC (key := 1000) (q := 1) rfl rfl rfl rfl rfl rfl (wrow_reads1 hget) Try.underlying5 rfl (by decide) ?_
          repeat (first | refine Plan.move rfl rfl rfl rfl ?_ | (refine Plan.ints rfl rfl rfl rfl rfl rfl ?_; (refine Plan.int (remN _ _) ?_)))
          refine Plan.int (y := (((flipsR t0 p m j).getD (k / 8) 0 ^^^ bitAt k).toNat : Int)) (by dsimp only; rw [hvb]; exact u8_xor _ _) ?_
          refine Plan.indexC rfl rfl rfl rfl rfl eltB (by omega) rfl ?_
          refine Plan.storeW (key := 1000) (q := 1) rfl rfl rfl rfl rfl rfl rfl rfl (by kernel_rfl) rfl hA rfl (List.getElem?_eq_some_iff.1 hget).1 ?_
          have hset : (bs (flipsR t0 p m j)).set (0 + k / 8 * 1) (.int .u8 ((flipsR t0 p m j).getD (k / 8) 0 ^^^ bitAt k).toNat) = bs (flipsR t0 p m (j + 1)) := by
            rw [bsSet, show 0 + k / 8 * 1 = k / 8 by omega]
            simp only [flipsR, turnIf, show 15 - (15 - j) = j by omega, if_pos hbit', ← hk]
            rfl
          rw [hset]
          refine (J.region mixed hI (by kernel_rfl) ?_)
          repeat (first | refine Plan.move rfl rfl rfl rfl ?_ | refine Plan.assign rfl rfl rfl rfl ?_ | (refine Plan.ints rfl rfl rfl rfl rfl rfl ?_; (skip)))
          refine Plan.int (y := ((m / 2 ^ (j + 1) : Nat) : Int)) (by rw [Nat.pow_succ, ← Nat.div_div_eq_div_mul]; exact quoN (y := 2) (by have := Nat.div_le_self m (2 ^ j); omega)) ?_
          refine (J.region mixed hI (by kernel_rfl) ?_)
          repeat (first | refine Plan.move rfl rfl rfl rfl ?_ | refine Plan.assign rfl rfl rfl rfl ?_ | (refine Plan.ints rfl rfl rfl rfl rfl rfl ?_; (refine Plan.int (i64r (by omega)) ?_)))
          refine Plan.int (y := 15 - ((j + 1 : Nat) : Int)) (by omega) ?_
          exact Nrm.next (j + 1) hlt' (by omega) (by repeat (first | exact Weak.nil | refine Weak.cons rfl (Sub.refl _) ?_))
      · have hbit' : ¬ m / 2 ^ j % 2 = 1 := by omega
        have hset : flipsR t0 p m j = flipsR t0 p m (j + 1) := by simp only [flipsR, turnIf, show 15 - (15 - j) = j by omega, if_neg hbit']
        refine J.convC (key := 1000) (q := 1) rfl rfl (Ent.wEq (congrArg bs hset)) ?_
        refine J.skip ?_
        refine (J.region mixed hI (by kernel_rfl) ?_)
        repeat (first | refine Plan.move rfl rfl rfl rfl ?_ | refine Plan.assign rfl rfl rfl rfl ?_ | (refine Plan.ints rfl rfl rfl rfl rfl rfl ?_; (skip)))
        refine Plan.int (y := ((m / 2 ^ (j + 1) : Nat) : Int)) (by rw [Nat.pow_succ, ← Nat.div_div_eq_div_mul]; exact quoN (y := 2) (by have := Nat.div_le_self m (2 ^ j); omega)) ?_
        refine (J.region mixed hI (by kernel_rfl) ?_)
        repeat (first | refine Plan.move rfl rfl rfl rfl ?_ | refine Plan.assign rfl rfl rfl rfl ?_ | (refine Plan.ints rfl rfl rfl rfl rfl rfl ?_; (refine Plan.int (i64r (by omega)) ?_)))
        refine Plan.int (y := 15 - ((j + 1 : Nat) : Int)) (by omega) ?_
        exact Nrm.next (j + 1) hlt' (by omega) (by repeat (first | exact Weak.nil | refine Weak.cons rfl (Sub.refl _) ?_))
    · have hi16 : j = 16 := by omega
      subst hi16
      refine J.exit ?_
      repeat (first | refine Plan.move rfl rfl rfl rfl ?_ | refine Plan.nilOk rfl rfl rfl rfl ?_ | refine Plan.fieldC rfl rfl rfl rfl (by first | exact Try.underlying74 | exact Try.underlying71) rfl (by kernel_rfl) (by first | exact (rfl : _ = 0) | exact (rfl : _ = 1)) ?_ | refine Plan.loadC (key := 1000) (q := 0) rfl rfl rfl rfl rfl rfl (obj_reads1 rfl) (by first | exact Try.underlying3 | exact Try.underlying9) (by rfl) (by decide) ?_ | refine J.seq (J.region mixed hI (by kernel_rfl) ?_))
      refine Plan.sliceStr (a0 := 0) (b0 := f) rfl rfl rfl rfl Try.underlying9 (.inl ⟨rfl, rfl⟩) (.inr ⟨_, _, rfl, rfl⟩) (Nat.zero_le _) hf ?_
      refine Plan.move rfl rfl rfl rfl ?_
      refine Plan.convBSC (key := 1000) (q := 1) (p := flipsR t0 p m 16) rfl rfl rfl rfl rfl rfl (fun w F hh => wrow_rowH hh.1) Try.underlying27 Try.underlying9 Try.underlying5 (by decide) ?_
      refine Plan.concat rfl rfl rfl rfl rfl (by rw [flipsR_length]; simp; omega) ?_
      rw [List.drop_zero, ← htail, ← hcr]
      repeat (first | refine Plan.nilOk rfl rfl rfl rfl ?_ | refine Plan.fieldC rfl rfl rfl rfl (by first | exact Try.underlying74 | exact Try.underlying71) rfl (by kernel_rfl) (by exact (rfl : _ = 0)) ?_)
      refine Plan.storeC (key := 1000) (q := 0) rfl rfl rfl rfl rfl rfl (by simp [Value.cells, Value.oneCell', str]) (by kernel_rfl) rfl hA rfl (obj_pat1 (Nat.le_of_ble_eq_true rfl)) ?_
      repeat (first | refine Plan.move rfl rfl rfl rfl ?_ | refine Plan.lenStr rfl rfl rfl rfl Try.underlying9 ?_ | refine Plan.nilOk rfl rfl rfl rfl ?_ | refine Plan.fieldC rfl rfl rfl rfl (by first | exact Try.underlying74 | exact Try.underlying71) rfl (by kernel_rfl) (by first | exact (rfl : _ = 0) | exact (rfl : _ = 1)) ?_ | refine Plan.loadC (key := 1000) (q := 0) rfl rfl rfl rfl rfl rfl (obj_reads1 rfl) (by first | exact Try.underlying3 | exact Try.underlying9) (by rfl) (by decide) ?_ | refine J.region mixed hI (by kernel_rfl) ?_)
      refine Plan.storeC (key := 1000) (q := 0) rfl rfl rfl rfl rfl rfl (by simp [Value.cells, Value.oneCell', str]) (by kernel_rfl) rfl hA rfl (obj_pat1 (Nat.le_of_ble_eq_true rfl)) ?_
      exact Nrm.retC0 (key := 1000) () rfl rfl rfl trivial Ent.left (.inl rfl)
  · have htail : tailOf t0 at_ turn = t0 := by unfold tailOf; rw [ht0l, if_neg h2]
    refine J.condD rfl (fun h3 => ?_) (fun h3 => ?_)
    · omega
    repeat (first | refine Plan.move rfl rfl rfl rfl ?_ | refine Plan.nilOk rfl rfl rfl rfl ?_ | refine Plan.fieldC rfl rfl rfl rfl (by first | exact Try.underlying74 | exact Try.underlying71) rfl (by kernel_rfl) (by first | exact (rfl : _ = 0) | exact (rfl : _ = 1)) ?_ | refine Plan.loadC (key := 1000) (q := 0) rfl rfl rfl rfl rfl rfl (obj_reads1 rfl) (by first | exact Try.underlying3 | exact Try.underlying9) (by rfl) (by decide) ?_ | refine J.seq (J.region mixed hI (by kernel_rfl) ?_) | refine J.skip ?_)
    refine Plan.sliceStr (a0 := 0) (b0 := f) rfl rfl rfl rfl Try.underlying9 (.inl ⟨rfl, rfl⟩) (.inr ⟨_, _, rfl, rfl⟩) (Nat.zero_le _) hf ?_
    refine Plan.move rfl rfl rfl rfl ?_
    refine Plan.convBSC (key := 1000) (q := 1) (p := t0) rfl rfl rfl rfl rfl rfl (fun w F hh => wrow_rowH hh.1) Try.underlying27 Try.underlying9 Try.underlying5 (by decide) ?_
    refine Plan.concat rfl rfl rfl rfl rfl (by simp; omega) ?_
    rw [List.drop_zero]
    refine Plan.re (v' := str (crashOf l f keep at_ turn)) (by rw [hcr, htail]) ?_
    repeat (first | refine Plan.nilOk rfl rfl rfl rfl ?_ | refine Plan.fieldC rfl rfl rfl rfl (by first | exact Try.underlying74 | exact Try.underlying71) rfl (by kernel_rfl) (by exact (rfl : _ = 0)) ?_)
    refine Plan.storeC (key := 1000) (q := 0) rfl rfl rfl rfl rfl rfl (by simp [Value.cells, Value.oneCell', str]) (by kernel_rfl) rfl hA rfl (obj_pat1 (Nat.le_of_ble_eq_true rfl)) ?_
    repeat (first | refine Plan.move rfl rfl rfl rfl ?_ | refine Plan.lenStr rfl rfl rfl rfl Try.underlying9 ?_ | refine Plan.nilOk rfl rfl rfl rfl ?_ | refine Plan.fieldC rfl rfl rfl rfl (by first | exact Try.underlying74 | exact Try.underlying71) rfl (by kernel_rfl) (by first | exact (rfl : _ = 0) | exact (rfl : _ = 1)) ?_ | refine Plan.loadC (key := 1000) (q := 0) rfl rfl rfl rfl rfl rfl (obj_reads1 rfl) (by first | exact Try.underlying3 | exact Try.underlying9) (by rfl) (by decide) ?_ | refine J.region mixed hI (by kernel_rfl) ?_)
    refine Plan.storeC (key := 1000) (q := 0) rfl rfl rfl rfl rfl rfl (by simp [Value.cells, Value.oneCell', str]) (by kernel_rfl) rfl hA rfl (obj_pat1 (Nat.le_of_ble_eq_true rfl)) ?_
    exact Nrm.retC0 (key := 1000) () rfl rfl rfl trivial Ent.left (.inl rfl)
end Go.Proofs.Ytepgphflnelpoaa
end
