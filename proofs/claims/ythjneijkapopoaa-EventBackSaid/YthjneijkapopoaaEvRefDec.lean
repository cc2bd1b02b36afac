/-
  Events: bytes are decoded, by the document.
-/
import Derived.Test.YthjneijkapopoaaEvDecFn
import Derived.Test.YthjneijkapopoaaEvRefRight
set_option linter.unusedSimpArgs false
set_option linter.unusedVariables false
set_option maxRecDepth 20000
namespace Go.Proofs.Ythjneijkapopoaa
open Go.Free Go.RowKit Go.Proofs
set_option maxHeartbeats 4000000

def eO (l : List UInt8) (k : Int) (a b c : List UInt8) (x r n : Int) : EvV := ⟨nV l 0, nV l 1, nV l 2, fun i => nV l (3 + i), k, a, b, c, x, r, n⟩
theorem eO_k (l : List UInt8) (k : Int) : (eD l 16).enc.set 19 (vi k) = (eO l k [] [] [] 0 0 0).enc := rfl
theorem eO_all (l : List UInt8) (s : RS) : (eO l (oK l s) (oKey l s).1 (oField l s).1 (oValue l s).1 (oNum l s).1 (oRR l s).1 (oRN l s).1) = decW l s := rfl
def rdM (w0 : World) (α β γ : Nat) (l : List UInt8) (k : Int) (s : RS) (cs : List Value) : Env := [(0, .ex (str l)), (2, .ex (ptr α)), (4, .ex (ptr β)), (5, .ex (ptr γ)), (7, .ex (vi k)), (1000, heap (newB w0) [obj α ev0.enc, rdC β (str l) s, obj γ cs])]
theorem refdecode_fn (l : List UInt8) (hl : l.length ≤ 9223372036854775807) : Spc Try.prog 30 [.ex (str l)] fun _ => .tup [.ex (aggE (decR l)), .ex (vi (decE l))] := by
  refine Spc.intro Try.func30 rfl (Nat.le_of_ble_eq_true rfl) fun w0 => ?_
  have hI := hIb w0
  have hA := Own.below w0
  refine J.heap0 1000 (newB w0) ?_
  repeat (refine J.seq (J.region mixed hI (by kernel_rfl) ?_))
  refine Plan.allocC (key := 1000) (z := .agg ev0.enc.toArray) rfl rfl rfl (by intro _ e; cases e; decide) (by kernel_rfl) rfl hA fun α => ?_
  repeat (first | refine Plan.move rfl rfl rfl rfl ?_ | refine Plan.assign rfl rfl rfl rfl ?_ | refine J.seq (J.region mixed hI (by kernel_rfl) ?_))
  refine Plan.build (cells := #[str l, vi 0, vi 0]) rfl rfl (ps := [(0, _)]) rfl (Parts.cons rfl Parts.nil) (by kernel_rfl) ?_
  refine Plan.boxC (key := 1000) rfl rfl rfl (by intro _ e; cases e; decide) rfl rfl hA fun β => ?_
  repeat (first | refine Plan.assign rfl rfl rfl rfl ?_ | refine J.seq (J.region mixed hI (by kernel_rfl) ?_))
  refine Plan.allocC (key := 1000) (z := .agg ev0.enc.toArray) rfl rfl rfl (by intro _ e; cases e; decide) (by kernel_rfl) rfl hA fun γ => ?_
  repeat (first | refine Plan.move rfl rfl rfl rfl ?_ | refine J.seq (J.region mixed hI (by kernel_rfl) ?_))
  refine Plan.callC (key := 1000) (q := 1) rfl rfl rfl (refnum_fn (nS_ok l 0) hl) Try.func47 rfl rfl (by intro _ e; cases e; decide) (by repeat (first | exact Opnds.nil | refine Opnds.cons rfl (by exact Sub.refl _) ?_)) rfl hA rfl ?_
  intro _ _
  repeat (refine Plan.fieldC rfl rfl rfl rfl (by first | exact Try.underlying31 | exact Try.underlying25) rfl (by kernel_rfl) (by exact (rfl : _ = 0)) ?_)
  refine Plan.storeC (key := 1000) (q := 2) rfl rfl rfl rfl rfl rfl (by simp [Value.cells, Value.oneCell', str]) (by kernel_rfl) rfl hA rfl (obj_pat1 (Nat.le_of_ble_eq_true rfl)) ?_
  repeat (first | refine Plan.move rfl rfl rfl rfl ?_ | refine J.seq (J.region mixed hI (by kernel_rfl) ?_))
  refine Plan.callC (key := 1000) (q := 1) rfl rfl rfl (refnum_fn (nS_ok l 1) hl) Try.func47 rfl rfl (by intro _ e; cases e; decide) (by repeat (first | exact Opnds.nil | refine Opnds.cons rfl (by exact Sub.refl _) ?_)) rfl hA rfl ?_
  intro _ _
  repeat (refine Plan.fieldC rfl rfl rfl rfl (by first | exact Try.underlying31 | exact Try.underlying25) rfl (by kernel_rfl) (by first | exact (rfl : _ = 0) | exact (rfl : _ = 1)) ?_)
  refine Plan.storeC (key := 1000) (q := 2) rfl rfl rfl rfl rfl rfl (by simp [Value.cells, Value.oneCell', str]) (by kernel_rfl) rfl hA rfl (obj_pat1 (Nat.le_of_ble_eq_true rfl)) ?_
  repeat (first | refine Plan.move rfl rfl rfl rfl ?_ | refine J.seq (J.region mixed hI (by kernel_rfl) ?_))
  refine Plan.callC (key := 1000) (q := 1) rfl rfl rfl (refnum_fn (nS_ok l 2) hl) Try.func47 rfl rfl (by intro _ e; cases e; decide) (by repeat (first | exact Opnds.nil | refine Opnds.cons rfl (by exact Sub.refl _) ?_)) rfl hA rfl ?_
  intro _ _
  repeat (refine Plan.fieldC rfl rfl rfl rfl (by exact Try.underlying31) rfl (by kernel_rfl) (by exact (rfl : _ = 2)) ?_)
  refine Plan.storeC (key := 1000) (q := 2) rfl rfl rfl rfl rfl rfl (by simp [Value.cells, Value.oneCell', str]) (by kernel_rfl) rfl hA rfl (obj_pat1 (Nat.le_of_ble_eq_true rfl)) ?_
  repeat (first | refine Plan.assign rfl rfl rfl rfl ?_ | refine J.seq (J.seq (J.region mixed hI (by kernel_rfl) ?_)))
  refine J.block (J.loop (decLp w0 (str l) α β γ l 6) (fun i => i ≤ 16) (fun i => 16 - i) 0 (Nat.zero_le _) (Weak.cons rfl (Sub.refl _) (Weak.cons rfl (Sub.refl _) (Weak.cons rfl (Sub.refl _) (Weak.cons rfl (Sub.refl _) (Weak.cons rfl (Sub.refl _) (Weak.cons rfl (Sub.refl _) Weak.nil)))))) ?_)
  intro i hi
  repeat (first | refine Plan.move rfl rfl rfl rfl ?_ | (refine Plan.ints rfl rfl rfl rfl rfl rfl ?_; (skip)) | refine J.seq (J.seq (J.region mixed hI (by kernel_rfl) ?_)))
  refine J.condD rfl (fun hlt => ?_) (fun hlt => ?_)
  · have hlt' : i < 16 := by omega
    repeat (refine J.skip ?_)
    refine J.seq (J.block ?_)
    repeat (first | refine Plan.move rfl rfl rfl rfl ?_ | refine J.region mixed hI (by kernel_rfl) ?_)
    refine Plan.callC (key := 1000) (q := 1) rfl rfl rfl (refnum_fn (nS_ok l (3 + i)) hl) Try.func47 rfl rfl (by intro _ e; cases e; decide) (by repeat (first | exact Opnds.nil | refine Opnds.cons rfl (by exact Sub.refl _) ?_)) rfl hA rfl ?_
    intro _ _
    repeat (refine Plan.fieldC rfl rfl rfl rfl (by exact Try.underlying31) rfl (by kernel_rfl) (by exact (rfl : _ = 3)) ?_)
    refine Plan.indexArr (off := 3 + i) (len := 16) (sz := 1) rfl rfl rfl rfl rfl Try.underlying27 (by kernel_rfl) (by omega) (by omega) (by simp) ?_
    refine Plan.storeC (key := 1000) (q := 2) rfl rfl rfl rfl rfl rfl (by simp [Value.cells, Value.oneCell', str]) (by kernel_rfl) rfl hA rfl (obj_pat1 (by show 3 + i < 26; omega)) ?_
    repeat (first | refine Plan.move rfl rfl rfl rfl ?_ | refine Plan.assign rfl rfl rfl rfl ?_ | (refine Plan.ints rfl rfl rfl rfl rfl rfl ?_; (refine Plan.int (i64r (by omega)) ?_)) | refine J.region mixed hI (by kernel_rfl) ?_)
    refine Plan.int (y := ((i + 1 : Nat) : Int)) (by omega) ?_
    repeat (fail)
    refine Nrm.next (i + 1) (by omega) (by omega) ?_
    exact (Weak.cons rfl (Sub.refl _) (Weak.cons rfl (Sub.refl _) (Weak.cons rfl (Sub.refl _) (Weak.cons rfl (Sub.refl _) (Weak.cons rfl (Sub.refl _) (Weak.cons rfl (Sub.of_eq (by rw [← eD_succ l hlt'] <;> rfl)) Weak.nil))))))
  have hie : i = 16 := by omega
  subst hie
  obtain ⟨s, hs⟩ : ∃ s, nS l 19 = s := ⟨_, rfl⟩
  have h19 : nS l (3 + 16) = s := (congrArg (nS l) (show 3 + 16 = 19 from by decide)).trans hs
  have okl : okS l s := by rw [← hs]; exact nS_ok l _
  refine J.exit (Nrm.weak (decM w0 (str l) α β γ l s (eD l 16).enc) (Weak.cons rfl (Sub.refl _) (Weak.cons rfl (Sub.refl _) (Weak.cons rfl (Sub.refl _) (Weak.cons rfl (Sub.refl _) (Weak.cons rfl (Sub.of_eq (by rw [h19])) Weak.nil))))) ?_)
  refine J.seqMid (σ := Unit) (fun _ => rdM w0 α β γ l (oK l s) (rNum l s).2 (eD l 16).enc) (fun _ => True) ?_ fun _ _ => ?_
  · repeat (first | refine Plan.move rfl rfl rfl rfl ?_ | refine J.region mixed hI (by kernel_rfl) ?_)
    refine Plan.callC (key := 1000) (q := 1) rfl rfl rfl (refnum_fn okl hl) Try.func47 rfl rfl (by intro _ e; cases e; decide) (by repeat (first | exact Opnds.nil | refine Opnds.cons rfl (by exact Sub.refl _) ?_)) rfl hA rfl ?_
    intro _ _
    repeat (refine Plan.assign rfl rfl rfl rfl ?_)
    exact Nrm.mid () trivial (Weak.cons rfl (Sub.refl _) (Weak.cons rfl (Sub.refl _) (Weak.cons rfl (Sub.refl _) (Weak.cons rfl (Sub.refl _) (Weak.cons rfl (Sub.refl _) (Weak.cons rfl (Sub.refl _) Weak.nil))))))
  refine J.seqMid (σ := Unit) (fun _ => rdM w0 α β γ l (oK l s) (oS1 l s) (eD l 16).enc) (fun _ => True) ?_ fun _ _ => ?_
  · repeat (first | refine Plan.move rfl rfl rfl rfl ?_ | (refine Plan.ints rfl rfl rfl rfl rfl rfl ?_; (skip)) | refine Plan.nilOk rfl rfl rfl rfl ?_ | refine Plan.fieldC rfl rfl rfl rfl (by first | exact Try.underlying31 | exact Try.underlying80) rfl (by kernel_rfl) (by exact (rfl : _ = 2)) ?_ | refine Plan.loadC (key := 1000) (q := 1) rfl rfl rfl rfl rfl rfl (obj_reads1 rfl) (by exact Try.underlying3) (by rfl) (by decide) ?_ | refine J.seq (J.region mixed hI (by kernel_rfl) ?_))
    refine Plan.splitE (fun h1 => ?_) (fun h1 => ?_)
    · repeat (first | refine Plan.move rfl rfl rfl rfl ?_ | (refine Plan.ints rfl rfl rfl rfl rfl rfl ?_; (skip)))
      refine Plan.splitD (fun h2 => ?_) (fun h2 => ?_)
      · have e1 : oS1 l s = ((rNum l s).2.1, 3) := if_pos ⟨by omega, fun hk => by have := hk.1; omega⟩
        repeat (first | refine Plan.move rfl rfl rfl rfl ?_ | refine Plan.skip rfl rfl ?_ | refine Plan.pick rfl rfl rfl rfl rfl ?_ | refine Plan.nilOk rfl rfl rfl rfl ?_ | refine Plan.fieldC rfl rfl rfl rfl (by first | exact Try.underlying31 | exact Try.underlying80) rfl (by kernel_rfl) (by exact (rfl : _ = 2)) ?_ | refine J.region mixed hI (by kernel_rfl) ?_ | refine J.condT rfl ?_)
        refine Plan.storeC (key := 1000) (q := 1) rfl rfl rfl rfl rfl rfl (by simp [Value.cells, Value.oneCell', str]) (by kernel_rfl) rfl hA rfl (obj_pat1 (Nat.le_of_ble_eq_true rfl)) ?_
        repeat (fail)
        exact Nrm.mid () trivial ((Weak.cons rfl (Sub.refl _) (Weak.cons rfl (Sub.refl _) (Weak.cons rfl (Sub.refl _) (Weak.cons rfl (Sub.refl _) (Weak.cons rfl (Sub.refl _) (Weak.cons rfl (Sub.of_eq (by rw [e1] <;> rfl)) Weak.nil)))))))
      · repeat (first | refine Plan.move rfl rfl rfl rfl ?_ | refine Plan.pick rfl rfl rfl rfl rfl ?_ | (refine Plan.ints rfl rfl rfl rfl rfl rfl ?_; (skip)))
        refine J.condD rfl (fun h3 => ?_) (fun h3 => ?_)
        · have e1 : oS1 l s = ((rNum l s).2.1, 3) := if_pos ⟨by omega, fun hk => by have := hk.2; omega⟩
          repeat (first | refine Plan.move rfl rfl rfl rfl ?_ | refine Plan.nilOk rfl rfl rfl rfl ?_ | refine Plan.fieldC rfl rfl rfl rfl (by first | exact Try.underlying31 | exact Try.underlying80) rfl (by kernel_rfl) (by exact (rfl : _ = 2)) ?_ | refine J.region mixed hI (by kernel_rfl) ?_)
          refine Plan.storeC (key := 1000) (q := 1) rfl rfl rfl rfl rfl rfl (by simp [Value.cells, Value.oneCell', str]) (by kernel_rfl) rfl hA rfl (obj_pat1 (Nat.le_of_ble_eq_true rfl)) ?_
          repeat (fail)
          exact Nrm.mid () trivial ((Weak.cons rfl (Sub.refl _) (Weak.cons rfl (Sub.refl _) (Weak.cons rfl (Sub.refl _) (Weak.cons rfl (Sub.refl _) (Weak.cons rfl (Sub.refl _) (Weak.cons rfl (Sub.of_eq (by rw [e1] <;> rfl)) Weak.nil)))))))
        · have e1 : oS1 l s = (rNum l s).2 := if_neg fun hh => hh.2 ⟨by omega, by omega⟩
          refine J.skip ?_
          exact Nrm.mid () trivial ((Weak.cons rfl (Sub.refl _) (Weak.cons rfl (Sub.refl _) (Weak.cons rfl (Sub.refl _) (Weak.cons rfl (Sub.refl _) (Weak.cons rfl (Sub.refl _) (Weak.cons rfl (Sub.of_eq (by rw [e1])) Weak.nil)))))))
    · have e1 : oS1 l s = (rNum l s).2 := if_neg fun hh => h1 (by omega)
      repeat (first | refine Plan.skip rfl rfl ?_ | refine Plan.pick rfl rfl rfl rfl rfl ?_ | refine J.condF rfl ?_ | refine J.skip ?_)
      exact Nrm.mid () trivial ((Weak.cons rfl (Sub.refl _) (Weak.cons rfl (Sub.refl _) (Weak.cons rfl (Sub.refl _) (Weak.cons rfl (Sub.refl _) (Weak.cons rfl (Sub.refl _) (Weak.cons rfl (Sub.of_eq (by rw [e1])) Weak.nil)))))))
  refine J.seqMid (σ := Unit) (fun _ => rdM w0 α β γ l (oK l s) (oS1 l s) (eO l (oK l s) [] [] [] 0 0 0).enc) (fun _ => True) ?_ fun _ _ => ?_
  · repeat (first | refine Plan.move rfl rfl rfl rfl ?_ | refine Plan.fieldC rfl rfl rfl rfl (by first | exact Try.underlying31 | exact Try.underlying29) rfl (by kernel_rfl) (by exact (rfl : _ = 19)) ?_ | refine J.region mixed hI (by kernel_rfl) ?_)
    refine Plan.storeC (key := 1000) (q := 2) rfl rfl rfl rfl rfl rfl (by simp [Value.cells, Value.oneCell', str]) (by kernel_rfl) rfl hA rfl (obj_pat1 (Nat.le_of_ble_eq_true rfl)) ?_
    exact Nrm.mid () trivial (Weak.cons rfl (Sub.refl _) (Weak.cons rfl (Sub.refl _) (Weak.cons rfl (Sub.refl _) (Weak.cons rfl (Sub.refl _) (Weak.cons rfl (Sub.refl _) (Weak.cons rfl (Sub.of_eq (rfl)) Weak.nil))))))
  refine J.seqMid (σ := Unit) (fun _ => rdM w0 α β γ l (oK l s) (oKey l s).2 (eO l (oK l s) (oKey l s).1 [] [] 0 0 0).enc) (fun _ => True) ?_ fun _ _ => ?_
  · repeat (first | refine Plan.move rfl rfl rfl rfl ?_ | refine J.region mixed hI (by kernel_rfl) ?_)
    refine Plan.callC (key := 1000) (q := 1) rfl rfl rfl (reftext_fn (oS1_ok okl) hl) Try.func48 rfl rfl (by intro _ e; cases e; decide) (by repeat (first | exact Opnds.nil | refine Opnds.cons rfl (by exact Sub.refl _) ?_)) rfl hA rfl ?_
    intro _ _
    repeat (refine Plan.fieldC rfl rfl rfl rfl (by first | exact Try.underlying31 | exact Try.underlying29) rfl (by kernel_rfl) (by first | exact (rfl : _ = 19) | exact (rfl : _ = 20)) ?_)
    refine Plan.storeC (key := 1000) (q := 2) rfl rfl rfl rfl rfl rfl (by simp [Value.cells, Value.oneCell', str]) (by kernel_rfl) rfl hA rfl (obj_pat1 (Nat.le_of_ble_eq_true rfl)) ?_
    repeat (fail)
    exact Nrm.mid () trivial ((Weak.cons rfl (Sub.refl _) (Weak.cons rfl (Sub.refl _) (Weak.cons rfl (Sub.refl _) (Weak.cons rfl (Sub.refl _) (Weak.cons rfl (Sub.refl _) (Weak.cons rfl (Sub.of_eq (rfl)) Weak.nil)))))))
  refine J.seqMid (σ := Unit) (fun _ => rdM w0 α β γ l (oK l s) (oField l s).2 (eO l (oK l s) (oKey l s).1 (oField l s).1 [] 0 0 0).enc) (fun _ => True) ?_ fun _ _ => ?_
  · repeat (first | refine Plan.move rfl rfl rfl rfl ?_ | refine J.seq (J.region mixed hI (by kernel_rfl) ?_))
    refine Plan.call (B := 0) rfl rfl rfl (refField_fn (oK l s)) Try.func49 rfl rfl (fun _ _ => Nat.zero_le _) (by repeat (first | exact Opnds.nil | refine Opnds.cons rfl (by exact Sub.refl _) ?_)) ?_
    refine J.condD rfl (fun hf => ?_) (fun hf => ?_)
    · have hy : oField l s = _ := if_pos hf
      repeat (first | refine Plan.move rfl rfl rfl rfl ?_ | refine J.region mixed hI (by kernel_rfl) ?_)
      refine Plan.callC (key := 1000) (q := 1) rfl rfl rfl (reftext_fn (oKey_ok okl).1 hl) Try.func48 rfl rfl (by intro _ e; cases e; decide) (by repeat (first | exact Opnds.nil | refine Opnds.cons rfl (by exact Sub.refl _) ?_)) rfl hA rfl ?_
      intro _ _
      repeat (refine Plan.fieldC rfl rfl rfl rfl (by first | exact Try.underlying31 | exact Try.underlying29) rfl (by kernel_rfl) (by first | exact (rfl : _ = 19) | exact (rfl : _ = 21)) ?_)
      refine Plan.storeC (key := 1000) (q := 2) rfl rfl rfl rfl rfl rfl (by simp [Value.cells, Value.oneCell', str]) (by kernel_rfl) rfl hA rfl (obj_pat1 (Nat.le_of_ble_eq_true rfl)) ?_
      repeat (fail)
      exact Nrm.mid () trivial ((Weak.cons rfl (Sub.refl _) (Weak.cons rfl (Sub.refl _) (Weak.cons rfl (Sub.refl _) (Weak.cons rfl (Sub.refl _) (Weak.cons rfl (Sub.refl _) (Weak.cons rfl (Sub.of_eq (by rw [hy] <;> rfl)) Weak.nil)))))))
    · have hn : oField l s = _ := if_neg hf
      refine J.skip ?_
      exact Nrm.mid () trivial ((Weak.cons rfl (Sub.refl _) (Weak.cons rfl (Sub.refl _) (Weak.cons rfl (Sub.refl _) (Weak.cons rfl (Sub.refl _) (Weak.cons rfl (Sub.refl _) (Weak.cons rfl (Sub.of_eq (by rw [hn] <;> rfl)) Weak.nil)))))))
  refine J.seqMid (σ := Unit) (fun _ => rdM w0 α β γ l (oK l s) (oValue l s).2 (eO l (oK l s) (oKey l s).1 (oField l s).1 (oValue l s).1 0 0 0).enc) (fun _ => True) ?_ fun _ _ => ?_
  · repeat (first | refine Plan.move rfl rfl rfl rfl ?_ | refine J.seq (J.region mixed hI (by kernel_rfl) ?_))
    refine Plan.call (B := 0) rfl rfl rfl (refValue_fn (oK l s)) Try.func50 rfl rfl (fun _ _ => Nat.zero_le _) (by repeat (first | exact Opnds.nil | refine Opnds.cons rfl (by exact Sub.refl _) ?_)) ?_
    refine J.condD rfl (fun hf => ?_) (fun hf => ?_)
    · have hy : oValue l s = _ := if_pos hf
      repeat (first | refine Plan.move rfl rfl rfl rfl ?_ | refine J.region mixed hI (by kernel_rfl) ?_)
      refine Plan.callC (key := 1000) (q := 1) rfl rfl rfl (reftext_fn (oField_ok okl).1 hl) Try.func48 rfl rfl (by intro _ e; cases e; decide) (by repeat (first | exact Opnds.nil | refine Opnds.cons rfl (by exact Sub.refl _) ?_)) rfl hA rfl ?_
      intro _ _
      repeat (refine Plan.fieldC rfl rfl rfl rfl (by first | exact Try.underlying31 | exact Try.underlying29) rfl (by kernel_rfl) (by first | exact (rfl : _ = 19) | exact (rfl : _ = 22)) ?_)
      refine Plan.storeC (key := 1000) (q := 2) rfl rfl rfl rfl rfl rfl (by simp [Value.cells, Value.oneCell', str]) (by kernel_rfl) rfl hA rfl (obj_pat1 (Nat.le_of_ble_eq_true rfl)) ?_
      repeat (fail)
      exact Nrm.mid () trivial ((Weak.cons rfl (Sub.refl _) (Weak.cons rfl (Sub.refl _) (Weak.cons rfl (Sub.refl _) (Weak.cons rfl (Sub.refl _) (Weak.cons rfl (Sub.refl _) (Weak.cons rfl (Sub.of_eq (by rw [hy] <;> rfl)) Weak.nil)))))))
    · have hn : oValue l s = _ := if_neg hf
      refine J.skip ?_
      exact Nrm.mid () trivial ((Weak.cons rfl (Sub.refl _) (Weak.cons rfl (Sub.refl _) (Weak.cons rfl (Sub.refl _) (Weak.cons rfl (Sub.refl _) (Weak.cons rfl (Sub.refl _) (Weak.cons rfl (Sub.of_eq (by rw [hn] <;> rfl)) Weak.nil)))))))
  refine J.seqMid (σ := Unit) (fun _ => rdM w0 α β γ l (oK l s) (oNum l s).2 (eO l (oK l s) (oKey l s).1 (oField l s).1 (oValue l s).1 (oNum l s).1 0 0).enc) (fun _ => True) ?_ fun _ _ => ?_
  · repeat (first | refine Plan.move rfl rfl rfl rfl ?_ | refine J.seq (J.region mixed hI (by kernel_rfl) ?_))
    refine Plan.call (B := 0) rfl rfl rfl (refNum_fn (oK l s)) Try.func51 rfl rfl (fun _ _ => Nat.zero_le _) (by repeat (first | exact Opnds.nil | refine Opnds.cons rfl (by exact Sub.refl _) ?_)) ?_
    refine J.condD rfl (fun hf => ?_) (fun hf => ?_)
    · have hy : oNum l s = _ := if_pos hf
      repeat (first | refine Plan.move rfl rfl rfl rfl ?_ | refine J.region mixed hI (by kernel_rfl) ?_)
      refine Plan.callC (key := 1000) (q := 1) rfl rfl rfl (refsigned_fn (oValue_ok okl).1 hl) Try.func52 rfl rfl (by intro _ e; cases e; decide) (by repeat (first | exact Opnds.nil | refine Opnds.cons rfl (by exact Sub.refl _) ?_)) rfl hA rfl ?_
      intro _ _
      repeat (refine Plan.fieldC rfl rfl rfl rfl (by first | exact Try.underlying31 | exact Try.underlying29) rfl (by kernel_rfl) (by first | exact (rfl : _ = 19) | exact (rfl : _ = 23)) ?_)
      refine Plan.storeC (key := 1000) (q := 2) rfl rfl rfl rfl rfl rfl (by simp [Value.cells, Value.oneCell', str]) (by kernel_rfl) rfl hA rfl (obj_pat1 (Nat.le_of_ble_eq_true rfl)) ?_
      repeat (fail)
      exact Nrm.mid () trivial ((Weak.cons rfl (Sub.refl _) (Weak.cons rfl (Sub.refl _) (Weak.cons rfl (Sub.refl _) (Weak.cons rfl (Sub.refl _) (Weak.cons rfl (Sub.refl _) (Weak.cons rfl (Sub.of_eq (by rw [hy] <;> rfl)) Weak.nil)))))))
    · have hn : oNum l s = _ := if_neg hf
      refine J.skip ?_
      exact Nrm.mid () trivial ((Weak.cons rfl (Sub.refl _) (Weak.cons rfl (Sub.refl _) (Weak.cons rfl (Sub.refl _) (Weak.cons rfl (Sub.refl _) (Weak.cons rfl (Sub.refl _) (Weak.cons rfl (Sub.of_eq (by rw [hn] <;> rfl)) Weak.nil)))))))
  refine J.seqMid (σ := Unit) (fun _ => rdM w0 α β γ l (oK l s) (oRN l s).2 (decW l s).enc) (fun _ => True) ?_ fun _ _ => ?_
  · repeat (first | refine Plan.move rfl rfl rfl rfl ?_ | refine J.seq (J.region mixed hI (by kernel_rfl) ?_))
    refine Plan.call (B := 0) rfl rfl rfl (refRef_fn (oK l s)) Try.func53 rfl rfl (fun _ _ => Nat.zero_le _) (by repeat (first | exact Opnds.nil | refine Opnds.cons rfl (by exact Sub.refl _) ?_)) ?_
    refine J.condD rfl (fun hf => ?_) (fun hf => ?_)
    · have hy1 : oRR l s = _ := if_pos hf
      have hy2 : oRN l s = _ := if_pos hf
      have okr := (oRR_ok okl).1
      rw [hy1] at hy2 okr
      repeat (first | refine Plan.move rfl rfl rfl rfl ?_ | refine J.seq (J.region mixed hI (by kernel_rfl) ?_))
      refine Plan.callC (key := 1000) (q := 1) rfl rfl rfl (refnum_fn (oNum_ok okl).1 hl) Try.func47 rfl rfl (by intro _ e; cases e; decide) (by repeat (first | exact Opnds.nil | refine Opnds.cons rfl (by exact Sub.refl _) ?_)) rfl hA rfl ?_
      intro _ _
      repeat (refine Plan.fieldC rfl rfl rfl rfl (by first | exact Try.underlying31 | exact Try.underlying29 | exact Try.underlying25) rfl (by kernel_rfl) (by first | exact (rfl : _ = 19) | exact (rfl : _ = 24)) ?_)
      refine Plan.storeC (key := 1000) (q := 2) rfl rfl rfl rfl rfl rfl (by simp [Value.cells, Value.oneCell', str]) (by kernel_rfl) rfl hA rfl (obj_pat1 (Nat.le_of_ble_eq_true rfl)) ?_
      repeat (first | refine Plan.move rfl rfl rfl rfl ?_ | refine J.region mixed hI (by kernel_rfl) ?_)
      refine Plan.callC (key := 1000) (q := 1) rfl rfl rfl (refnum_fn okr hl) Try.func47 rfl rfl (by intro _ e; cases e; decide) (by repeat (first | exact Opnds.nil | refine Opnds.cons rfl (by exact Sub.refl _) ?_)) rfl hA rfl ?_
      intro _ _
      repeat (refine Plan.fieldC rfl rfl rfl rfl (by first | exact Try.underlying31 | exact Try.underlying29 | exact Try.underlying25) rfl (by kernel_rfl) (by first | exact (rfl : _ = 19) | exact (rfl : _ = 24) | exact (rfl : _ = 25)) ?_)
      refine Plan.storeC (key := 1000) (q := 2) rfl rfl rfl rfl rfl rfl (by simp [Value.cells, Value.oneCell', str]) (by kernel_rfl) rfl hA rfl (obj_pat1 (Nat.le_of_ble_eq_true rfl)) ?_
      repeat (fail)
      exact Nrm.mid () trivial ((Weak.cons rfl (Sub.refl _) (Weak.cons rfl (Sub.refl _) (Weak.cons rfl (Sub.refl _) (Weak.cons rfl (Sub.refl _) (Weak.cons rfl (Sub.refl _) (Weak.cons rfl (Sub.of_eq (by rw [← eO_all, hy2, hy1] <;> rfl)) Weak.nil)))))))
    · have hn1 : oRR l s = _ := if_neg hf
      have hn2 : oRN l s = _ := if_neg hf
      rw [hn1] at hn2
      refine J.skip ?_
      exact Nrm.mid () trivial ((Weak.cons rfl (Sub.refl _) (Weak.cons rfl (Sub.refl _) (Weak.cons rfl (Sub.refl _) (Weak.cons rfl (Sub.refl _) (Weak.cons rfl (Sub.refl _) (Weak.cons rfl (Sub.of_eq (by rw [← eO_all, hn2, hn1] <;> rfl)) Weak.nil)))))))
  have e1 : (oRN l s).2 = decS l := by rw [decS, hs]
  have e2 : decW l s = decV l := by rw [decV, hs]
  have okW := decV_ok l
  obtain ⟨hE1, hE2, hE3, hR1, hR2⟩ := dec_cases l
  rw [e1, e2]
  generalize decS l = fs at hE1 hE2 hE3 hR1 hR2 ⊢
  generalize decV l = W at okW hE2 hE3 hR1 hR2 ⊢
  generalize decE l = xE at hE1 hE2 hE3 hR1 hR2 ⊢
  generalize decR l = xR at hR1 hR2 ⊢
  clear e1 e2
  generalize oK l s = kk
  refine J.seqMid (σ := Unit) (fun _ => rdM w0 α β γ l kk (fs.1, xE) W.enc) (fun _ => True) ?_ fun _ _ => ?_
  · repeat (first | refine Plan.move rfl rfl rfl rfl ?_ | (refine Plan.ints rfl rfl rfl rfl rfl rfl ?_; (skip)) | refine Plan.nilOk rfl rfl rfl rfl ?_ | refine Plan.fieldC rfl rfl rfl rfl (by first | exact Try.underlying31 | exact Try.underlying80) rfl (by kernel_rfl) (by exact (rfl : _ = 2)) ?_ | refine Plan.loadC (key := 1000) (q := 1) rfl rfl rfl rfl rfl rfl (obj_reads1 rfl) (by exact Try.underlying3) (by rfl) (by decide) ?_ | refine J.seq (J.region mixed hI (by kernel_rfl) ?_))
    refine Plan.splitE (fun he => ?_) (fun he => ?_)
    · have he' : fs.2 = 0 := by omega
      repeat (first | refine Plan.move rfl rfl rfl rfl ?_ | refine Plan.lenStr rfl rfl rfl rfl Try.underlying9 ?_ | (refine Plan.ints rfl rfl rfl rfl rfl rfl ?_; (skip)) | refine Plan.nilOk rfl rfl rfl rfl ?_ | refine Plan.fieldC rfl rfl rfl rfl (by first | exact Try.underlying31 | exact Try.underlying80) rfl (by kernel_rfl) (by exact (rfl : _ = 1)) ?_ | refine Plan.loadC (key := 1000) (q := 1) rfl rfl rfl rfl rfl rfl (obj_reads1 rfl) (by exact Try.underlying3) (by rfl) (by decide) ?_)
      refine Plan.splitN (fun h1 => ?_) (fun h1 => ?_)
      · have hE : xE = 3 := hE2 he' (.inl (by omega))
        repeat (first | refine Plan.move rfl rfl rfl rfl ?_ | refine Plan.skip rfl rfl ?_ | refine Plan.pick rfl rfl rfl rfl rfl ?_ | refine Plan.nilOk rfl rfl rfl rfl ?_ | refine Plan.fieldC rfl rfl rfl rfl (by first | exact Try.underlying31 | exact Try.underlying80) rfl (by kernel_rfl) (by exact (rfl : _ = 2)) ?_ | refine J.region mixed hI (by kernel_rfl) ?_ | refine J.condT rfl ?_)
        refine Plan.storeC (key := 1000) (q := 1) rfl rfl rfl rfl rfl rfl (by simp [Value.cells, Value.oneCell', str]) (by kernel_rfl) rfl hA rfl (obj_pat1 (Nat.le_of_ble_eq_true rfl)) ?_
        repeat (fail)
        exact Nrm.mid () trivial ((Weak.cons rfl (Sub.refl _) (Weak.cons rfl (Sub.refl _) (Weak.cons rfl (Sub.refl _) (Weak.cons rfl (Sub.refl _) (Weak.cons rfl (Sub.refl _) (Weak.cons rfl (Sub.of_eq (by rw [hE] <;> rfl)) Weak.nil)))))))
      · repeat (fail)
        refine Plan.loadAggC (key := 1000) (q := 2) (vs := W.enc) rfl rfl rfl rfl rfl rfl obj_whole Try.underlying31 rfl (by rw [encE]; kernel_rfl) (by decide) ?_
        refine Plan.call (B := w0.heap.size) rfl rfl rfl (refRight_fn W okW) Try.func23 rfl rfl (hBb w0) (by repeat (first | exact Opnds.nil | refine Opnds.cons rfl (by exact Sub.refl _) ?_)) ?_
        repeat (first | refine Plan.pick rfl rfl rfl rfl rfl ?_ | refine Plan.un rfl rfl rfl rfl rfl ?_)
        refine J.condND rfl (fun hr => ?_) (fun hr => ?_)
        · have hE : xE = 3 := hE2 he' (.inr hr)
          repeat (first | refine Plan.move rfl rfl rfl rfl ?_ | refine Plan.nilOk rfl rfl rfl rfl ?_ | refine Plan.fieldC rfl rfl rfl rfl (by first | exact Try.underlying31 | exact Try.underlying80) rfl (by kernel_rfl) (by exact (rfl : _ = 2)) ?_ | refine J.region mixed hI (by kernel_rfl) ?_)
          refine Plan.storeC (key := 1000) (q := 1) rfl rfl rfl rfl rfl rfl (by simp [Value.cells, Value.oneCell', str]) (by kernel_rfl) rfl hA rfl (obj_pat1 (Nat.le_of_ble_eq_true rfl)) ?_
          repeat (fail)
          exact Nrm.mid () trivial ((Weak.cons rfl (Sub.refl _) (Weak.cons rfl (Sub.refl _) (Weak.cons rfl (Sub.refl _) (Weak.cons rfl (Sub.refl _) (Weak.cons rfl (Sub.refl _) (Weak.cons rfl (Sub.of_eq (by rw [hE] <;> rfl)) Weak.nil)))))))
        · have hE : xE = 0 := hE3 he' (by omega) hr
          refine J.skip ?_
          exact Nrm.mid () trivial ((Weak.cons rfl (Sub.refl _) (Weak.cons rfl (Sub.refl _) (Weak.cons rfl (Sub.refl _) (Weak.cons rfl (Sub.refl _) (Weak.cons rfl (Sub.refl _) (Weak.cons rfl (Sub.of_eq (by rw [hE, ← he'] <;> rfl)) Weak.nil)))))))
    · have hE : xE = fs.2 := hE1 (by omega)
      repeat (first | refine Plan.skip rfl rfl ?_ | refine Plan.pick rfl rfl rfl rfl rfl ?_ | refine J.condF rfl ?_ | refine J.skip ?_)
      exact Nrm.mid () trivial ((Weak.cons rfl (Sub.refl _) (Weak.cons rfl (Sub.refl _) (Weak.cons rfl (Sub.refl _) (Weak.cons rfl (Sub.refl _) (Weak.cons rfl (Sub.refl _) (Weak.cons rfl (Sub.of_eq (by rw [hE] <;> rfl)) Weak.nil)))))))
  repeat (first | refine Plan.move rfl rfl rfl rfl ?_ | (refine Plan.ints rfl rfl rfl rfl rfl rfl ?_; (skip)) | refine Plan.nilOk rfl rfl rfl rfl ?_ | refine Plan.fieldC rfl rfl rfl rfl (by first | exact Try.underlying31 | exact Try.underlying80) rfl (by kernel_rfl) (by exact (rfl : _ = 2)) ?_ | refine Plan.loadC (key := 1000) (q := 1) rfl rfl rfl rfl rfl rfl (obj_reads1 rfl) (by exact Try.underlying3) (by rfl) (by decide) ?_ | refine J.seq (J.seq (J.region mixed hI (by kernel_rfl) ?_)))
  refine J.condN rfl (fun he => ?_) (fun he => ?_)
  · have hR : xR = ev0 := hR1 (by omega)
    rw [hR]
    refine J.seq ?_
    refine J.draw mixed hI ?_; repeat' (first | refine Plan.move rfl rfl rfl rfl ?_ | refine Plan.assign rfl rfl rfl rfl ?_ | refine Plan.nilOk rfl rfl rfl rfl ?_ | refine Plan.fieldC rfl rfl rfl rfl (by first | exact Try.underlying31 | exact Try.underlying80) rfl (by kernel_rfl) (by exact (rfl : _ = 2)) ?_ | refine Plan.loadC (key := 1000) (q := 1) rfl rfl rfl rfl rfl rfl (obj_reads1 rfl) (by exact Try.underlying3) (by rfl) (by decide) ?_ | refine Plan.build (cells := ev0.enc.toArray) rfl rfl (ps := []) rfl Parts.nil (by kernel_rfl) ?_ | refine Plan.storeC (key := 1000) (q := 0) (off := 0) rfl rfl rfl rfl rfl rfl (by simp [Value.cells, Value.oneCell', ev0, EvV.enc, str]) (by show _ = some ev0.enc.toArray.size; kernel_rfl) rfl hA rfl (obj_pat (Nat.le_of_ble_eq_true rfl)) ?_ | refine D.go (D.two 0 2 (by decide +kernel) (by kernel_rfl) hI ?_ ?_) | refine D.go (D.two 0 3 (by decide +kernel) (by kernel_rfl) hI ?_ ?_) | refine D.go (D.two 0 4 (by decide +kernel) (by kernel_rfl) hI ?_ ?_) | refine D.go (D.two 1 5 (by decide +kernel) (by kernel_rfl) hI ?_ ?_) | refine D.go (D.two 2 5 (by decide +kernel) (by kernel_rfl) hI ?_ ?_) | refine D.go (D.two 3 5 (by decide +kernel) (by kernel_rfl) hI ?_ ?_) | refine D.go (D.two 4 5 (by decide +kernel) (by kernel_rfl) hI ?_ ?_) | refine D.go (D.one 0 (by decide +kernel) (by kernel_rfl) hI ?_) | refine D.go (D.one 5 (by decide +kernel) (by kernel_rfl) hI ?_) | refine D.go (D.one 1 (by decide +kernel) (by kernel_rfl) hI ?_) | refine D.go (D.one 2 (by decide +kernel) (by kernel_rfl) hI ?_) | refine D.go (D.one 3 (by decide +kernel) (by kernel_rfl) hI ?_) | refine D.go (D.one 4 (by decide +kernel) (by kernel_rfl) hI ?_) | refine D.go (D.one 6 (by decide +kernel) (by kernel_rfl) hI ?_) | refine D.go (D.done (by decide +kernel) ?_) | refine (D.two 0 1 (by decide +kernel) (by kernel_rfl) hI ?_ ?_))
    all_goals exact J.ret (Nrm.retCT (key := 1000) (q := 0) rfl (fun _ h => h) rfl rfl rfl obj_whole Try.underlying31 rfl (by kernel_rfl) fun B _ => ⟨_, _, rfl, rfl, Sub.refl _⟩)
  · have hE : xE = 0 := by omega
    have hR : xR = W := hR2 hE
    rw [hR, hE]
    repeat (first | refine J.seq (J.region mixed hI (by kernel_rfl) ?_) | refine J.skip ?_)
    refine Plan.loadAggC (key := 1000) (q := 2) (vs := W.enc) rfl rfl rfl rfl rfl rfl obj_whole Try.underlying31 rfl (by rw [encE]; kernel_rfl) (by decide) ?_
    refine Plan.storeC (key := 1000) (q := 0) (off := 0) rfl rfl rfl rfl rfl rfl (by simp [Value.cells, Value.oneCell', ev0, EvV.enc, str]) (by show _ = some W.enc.toArray.size; kernel_rfl) rfl hA rfl (obj_pat (Nat.le_of_ble_eq_true rfl)) ?_
    repeat (refine Plan.assign rfl rfl rfl rfl ?_)
    exact J.ret (Nrm.retCT (key := 1000) (q := 0) rfl (fun _ h => h) rfl rfl rfl obj_whole Try.underlying31 rfl (by kernel_rfl) fun B _ => ⟨_, _, rfl, rfl, Sub.refl _⟩)
end Go.Proofs.Ythjneijkapopoaa
