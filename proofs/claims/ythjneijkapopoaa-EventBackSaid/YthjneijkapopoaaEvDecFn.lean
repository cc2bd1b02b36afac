/-
  Events: bytes are decoded, by the program.
-/
import Derived.Test.YthjneijkapopoaaEvOp
set_option linter.unusedSimpArgs false
set_option linter.unusedVariables false
set_option maxRecDepth 20000
namespace Go.Proofs.Ythjneijkapopoaa
open Go.Free Go.RowKit Go.Proofs
set_option maxHeartbeats 4000000

theorem enc_set (e : EvV) {i : Nat} (h : i < 16) (x : Int) : e.enc.set (3 + i) (vi x) = (EvV.mk e.r e.n e.time (fun j => if j = i then x else e.d j) e.kind e.key e.field e.value e.num e.rr e.rn).enc := by
  match i, h with
  | 0, _ => rfl | 1, _ => rfl | 2, _ => rfl | 3, _ => rfl | 4, _ => rfl | 5, _ => rfl | 6, _ => rfl | 7, _ => rfl
  | 8, _ => rfl | 9, _ => rfl | 10, _ => rfl | 11, _ => rfl | 12, _ => rfl | 13, _ => rfl | 14, _ => rfl | 15, _ => rfl
  | _ + 16, h => exact absurd h (by omega)
def eD (l : List UInt8) (i : Nat) : EvV := ⟨nV l 0, nV l 1, nV l 2, fun j => if j < i then nV l (3 + j) else 0, 0, [], [], [], 0, 0, 0⟩
theorem eD_succ (l : List UInt8) {i : Nat} (h : i < 16) : (eD l i).enc.set (3 + i) (vi (nV l (3 + i))) = (eD l (i + 1)).enc := by
  rw [enc_set _ h]
  have : (fun j => if j = i then nV l (3 + i) else if j < i then nV l (3 + j) else 0) = fun j => if j < i + 1 then nV l (3 + j) else 0 := by
    funext j
    by_cases hj : j = i
    · subst hj; simp
    · simp only [if_neg hj]
      by_cases hlt : j < i
      · rw [if_pos hlt, if_pos (by omega)]
      · rw [if_neg hlt, if_neg (by omega)]
  simp only [eD, this]
theorem enc_op (l : List UInt8) (s : RS) : (eD l 16).enc.take 19 ++ opV l s ++ (eD l 16).enc.drop 26 = (decW l s).enc := rfl
def decM (w0 : World) (u : Value) (α β γ : Nat) (l : List UInt8) (s : RS) (cs : List Value) : Env := [(0, .ex u), (2, .ex (ptr α)), (4, .ex (ptr β)), (5, .ex (ptr γ)), (1000, heap (newB w0) [obj α ev0.enc, rdC β u s, obj γ cs])]
def decLp (w0 : World) (u : Value) (α β γ : Nat) (l : List UInt8) (t i : Nat) : Env := [(0, .ex u), (2, .ex (ptr α)), (4, .ex (ptr β)), (5, .ex (ptr γ)), (t, .ex (vi i)), (1000, heap (newB w0) [obj α ev0.enc, rdC β u (nS l (3 + i)), obj γ (eD l i).enc])]
theorem row_slice {l : List UInt8} {w : World} {u : Value} (h : (bytesF l).den w u) : ∃ A c, u = .slice A l.length c := by
  obtain ⟨A, n, c, rfl, _, _, h3, _⟩ := h
  rw [bs_length, Nat.mul_one] at h3
  exact ⟨A, c, by rw [h3]⟩
theorem dec_cases (l : List UInt8) : ((decS l).2 ≠ 0 → decE l = (decS l).2) ∧ ((decS l).2 = 0 → ((decS l).1 ≠ l.length ∨ ¬ rightP (decV l)) → decE l = 3) ∧ ((decS l).2 = 0 → (decS l).1 = l.length → rightP (decV l) → decE l = 0) ∧ (decE l ≠ 0 → decR l = ev0) ∧ (decE l = 0 → decR l = decV l) := by
  refine ⟨fun h => if_pos h, fun h h2 => ?_, fun h h2 h3 => ?_, fun h => if_pos h, fun h => if_neg (fun hh => hh h)⟩
  · unfold decE; rw [if_neg (fun hh => hh h), if_pos h2]
  · unfold decE; rw [if_neg (fun hh => hh h), if_neg (by rintro (hh | hh); exact hh h2; exact hh h3)]
theorem decode_fn (l : List UInt8) (hl : l.length ≤ 9223372036854775807) : Spc Try.prog 29 [bytesF l] fun _ => .tup [.ex (aggE (decR l)), .ex (vi (decE l))] := by
  refine Spc.intro Try.func29 rfl (Nat.le_of_ble_eq_true rfl) fun w0 => ?_
  have hI := hIb w0
  have hA := Own.below w0
  have hbe : ∀ w, Below w0.heap.size w0 w → Below w0.heap.size w0 w := fun _ h => h
  refine J.heap0 1000 (newB w0) ?_
  refine J.nameOld (t := 0) rfl fun u hv => ?_
  obtain ⟨uA, uc, hu⟩ := row_slice hv
  repeat (refine J.seq (J.region mixed hI (by kernel_rfl) ?_))
  refine Plan.allocC (key := 1000) (z := .agg ev0.enc.toArray) rfl rfl rfl (by intro _ e; cases e; decide) (by kernel_rfl) rfl hA fun α => ?_
  repeat (first | refine Plan.move rfl rfl rfl rfl ?_ | refine Plan.assign rfl rfl rfl rfl ?_ | refine J.seq (J.region mixed hI (by kernel_rfl) ?_))
  subst hu
  refine Plan.build (cells := #[.slice uA l.length uc, vi 0, vi 0]) rfl rfl (ps := [(0, _)]) rfl (Parts.cons rfl Parts.nil) (by kernel_rfl) ?_
  refine Plan.boxC (key := 1000) rfl rfl rfl (by intro _ e; cases e; decide) rfl rfl hA fun β => ?_
  repeat (first | refine Plan.assign rfl rfl rfl rfl ?_ | refine J.seq (J.region mixed hI (by kernel_rfl) ?_))
  refine Plan.allocC (key := 1000) (z := .agg ev0.enc.toArray) rfl rfl rfl (by intro _ e; cases e; decide) (by kernel_rfl) rfl hA fun γ => ?_
  refine J.inA (key := 1000) (q := 1) (β := β) rfl rfl obj_in fun hβ => ?_
  repeat (first | refine Plan.move rfl rfl rfl rfl ?_ | refine J.seq (J.region mixed hI (by kernel_rfl) ?_))
  refine Plan.callC (key := 1000) (q := 1) rfl rfl rfl (number_fn hv hβ (nS_ok l 0) hl) Try.func45 rfl rfl (by intro _ e; cases e; decide) (by repeat (first | exact Opnds.nil | refine Opnds.cons rfl (by exact Sub.exIn hbe) ?_)) rfl hA rfl ?_
  intro _ _
  repeat (refine Plan.fieldC rfl rfl rfl rfl (by first | exact Try.underlying31 | exact Try.underlying25) rfl (by kernel_rfl) (by exact (rfl : _ = 0)) ?_)
  refine Plan.storeC (key := 1000) (q := 2) rfl rfl rfl rfl rfl rfl (by simp [Value.cells, Value.oneCell', str]) (by kernel_rfl) rfl hA rfl (obj_pat1 (Nat.le_of_ble_eq_true rfl)) ?_
  repeat (first | refine Plan.move rfl rfl rfl rfl ?_ | refine J.seq (J.region mixed hI (by kernel_rfl) ?_))
  refine Plan.callC (key := 1000) (q := 1) rfl rfl rfl (number_fn hv hβ (nS_ok l 1) hl) Try.func45 rfl rfl (by intro _ e; cases e; decide) (by repeat (first | exact Opnds.nil | refine Opnds.cons rfl (by exact Sub.exIn hbe) ?_)) rfl hA rfl ?_
  intro _ _
  repeat (refine Plan.fieldC rfl rfl rfl rfl (by first | exact Try.underlying31 | exact Try.underlying25) rfl (by kernel_rfl) (by first | exact (rfl : _ = 0) | exact (rfl : _ = 1)) ?_)
  refine Plan.storeC (key := 1000) (q := 2) rfl rfl rfl rfl rfl rfl (by simp [Value.cells, Value.oneCell', str]) (by kernel_rfl) rfl hA rfl (obj_pat1 (Nat.le_of_ble_eq_true rfl)) ?_
  repeat (first | refine Plan.move rfl rfl rfl rfl ?_ | refine J.seq (J.region mixed hI (by kernel_rfl) ?_))
  refine Plan.callC (key := 1000) (q := 1) rfl rfl rfl (number_fn hv hβ (nS_ok l 2) hl) Try.func45 rfl rfl (by intro _ e; cases e; decide) (by repeat (first | exact Opnds.nil | refine Opnds.cons rfl (by exact Sub.exIn hbe) ?_)) rfl hA rfl ?_
  intro _ _
  repeat (refine Plan.fieldC rfl rfl rfl rfl (by exact Try.underlying31) rfl (by kernel_rfl) (by exact (rfl : _ = 2)) ?_)
  refine Plan.storeC (key := 1000) (q := 2) rfl rfl rfl rfl rfl rfl (by simp [Value.cells, Value.oneCell', str]) (by kernel_rfl) rfl hA rfl (obj_pat1 (Nat.le_of_ble_eq_true rfl)) ?_
  repeat (first | refine Plan.move rfl rfl rfl rfl ?_ | refine J.seq (J.seq (J.region mixed hI (by kernel_rfl) ?_)))
  refine J.block (J.loop (decLp w0 (.slice uA l.length uc) α β γ l 21) (fun i => i ≤ 16) (fun i => 16 - i) 0 (Nat.zero_le _) (Weak.cons rfl (Sub.refl _) (Weak.cons rfl (Sub.refl _) (Weak.cons rfl (Sub.refl _) (Weak.cons rfl (Sub.refl _) (Weak.cons rfl (Sub.refl _) (Weak.cons rfl (Sub.refl _) Weak.nil)))))) ?_)
  intro i hi
  repeat (first | (refine Plan.ints rfl rfl rfl rfl rfl rfl ?_; (skip)) | refine J.seq (J.region mixed hI (by kernel_rfl) ?_))
  refine J.seq (J.condD rfl (fun hlt => ?_) (fun hlt => ?_))
  · have hlt' : i < 16 := by omega
    repeat (refine J.skip ?_)
    refine J.seq (J.block ?_)
    repeat (first | refine Plan.move rfl rfl rfl rfl ?_ | refine Plan.assign rfl rfl rfl rfl ?_ | refine J.seq (J.region mixed hI (by kernel_rfl) ?_) | refine J.region mixed hI (by kernel_rfl) ?_)
    refine Plan.callC (key := 1000) (q := 1) rfl rfl rfl (number_fn hv hβ (nS_ok l (3 + i)) hl) Try.func45 rfl rfl (by intro _ e; cases e; decide) (by repeat (first | exact Opnds.nil | refine Opnds.cons rfl (by exact Sub.exIn hbe) ?_)) rfl hA rfl ?_
    intro _ _
    repeat (refine Plan.fieldC rfl rfl rfl rfl (by exact Try.underlying31) rfl (by kernel_rfl) (by exact (rfl : _ = 3)) ?_)
    refine Plan.indexArr (off := 3 + i) (len := 16) (sz := 1) rfl rfl rfl rfl rfl Try.underlying27 (by kernel_rfl) (by omega) (by omega) (by simp) ?_
    refine Plan.storeC (key := 1000) (q := 2) rfl rfl rfl rfl rfl rfl (by simp [Value.cells, Value.oneCell', str]) (by kernel_rfl) rfl hA rfl (obj_pat1 (by show 3 + i < 26; omega)) ?_
    repeat (first | refine Plan.move rfl rfl rfl rfl ?_ | (refine Plan.ints rfl rfl rfl rfl rfl rfl ?_; (refine Plan.int (i64r (by omega)) ?_)) | refine J.region mixed hI (by kernel_rfl) ?_)
    refine Plan.int (y := ((i + 1 : Nat) : Int)) (by omega) ?_
    repeat (fail)
    refine Nrm.next (i + 1) (by omega) (by omega) ?_
    exact (Weak.cons rfl (Sub.refl _) (Weak.cons rfl (Sub.refl _) (Weak.cons rfl (Sub.refl _) (Weak.cons rfl (Sub.refl _) (Weak.cons rfl (Sub.refl _) (Weak.cons rfl (Sub.of_eq (by rw [← eD_succ l hlt'] <;> rfl)) Weak.nil))))))
  have hie : i = 16 := by omega
  subst hie
  obtain ⟨s, hs⟩ : ∃ s, nS l 19 = s := ⟨_, rfl⟩
  have h19 : nS l (3 + 16) = s := (congrArg (nS l) (show 3 + 16 = 19 from by decide)).trans hs
  have okl : okS l s := by rw [← hs]; exact nS_ok l _
  refine J.exit (Nrm.weak (decM w0 (.slice uA l.length uc) α β γ l s (eD l 16).enc) (Weak.cons rfl (Sub.refl _) (Weak.cons rfl (Sub.refl _) (Weak.cons rfl (Sub.refl _) (Weak.cons rfl (Sub.refl _) (Weak.cons rfl (Sub.of_eq (by rw [h19])) Weak.nil))))) ?_)
  refine J.seqMid (σ := Unit) (fun _ => decM w0 (.slice uA l.length uc) α β γ l (oRN l s).2 (decW l s).enc) (fun _ => True) ?_ fun _ _ => ?_
  · repeat (first | refine Plan.move rfl rfl rfl rfl ?_ | refine J.region mixed hI (by kernel_rfl) ?_)
    refine Plan.callC (key := 1000) (q := 1) rfl rfl rfl (op_fn hv hβ okl hl) Try.func46 rfl rfl (by intro _ e; cases e; decide) (by repeat (first | exact Opnds.nil | refine Opnds.cons rfl (by exact Sub.exIn hbe) ?_)) rfl hA rfl ?_
    intro _ _
    repeat (refine Plan.fieldC rfl rfl rfl rfl (by exact Try.underlying31) rfl (by kernel_rfl) (by exact (rfl : _ = 19)) ?_)
    refine Plan.storeC (key := 1000) (q := 2) rfl rfl rfl rfl rfl rfl (by simp [Value.cells, Value.oneCell', opV, opL, str]) (by show _ = some (opV l s).toArray.size; kernel_rfl) rfl hA rfl (obj_pat (Nat.le_of_ble_eq_true rfl)) ?_
    exact Nrm.mid () trivial (Weak.cons rfl (Sub.refl _) (Weak.cons rfl (Sub.refl _) (Weak.cons rfl (Sub.refl _) (Weak.cons rfl (Sub.refl _) (Weak.cons rfl (Sub.of_eq (by rw [← enc_op l s] <;> rfl)) Weak.nil)))))
  have e1 : (oRN l s).2 = decS l := by rw [decS, hs]
  have e2 : decW l s = decV l := by rw [decV, hs]
  have okW := decV_ok l
  obtain ⟨hE1, hE2, hE3, hR1, hR2⟩ := dec_cases l
  rw [e1, e2]
  generalize decS l = fs at hE1 hE2 hE3 hR1 hR2 ⊢
  generalize decV l = W at okW hE2 hE3 hR1 hR2 ⊢
  generalize decE l = xE at hE1 hE2 hE3 hR1 hR2 ⊢
  generalize decR l = xR at hR1 hR2 ⊢
  clear e1 e2
  refine J.seq (J.block ?_)
  repeat (first | refine Plan.move rfl rfl rfl rfl ?_ | refine Plan.assign rfl rfl rfl rfl ?_ | (refine Plan.ints rfl rfl rfl rfl rfl rfl ?_; (skip)) | refine Plan.nilOk rfl rfl rfl rfl ?_ | refine Plan.fieldC rfl rfl rfl rfl (by first | exact Try.underlying31 | exact Try.underlying75) rfl (by kernel_rfl) (by exact (rfl : _ = 2)) ?_ | refine Plan.loadC (key := 1000) (q := 1) rfl rfl rfl rfl rfl rfl (obj_reads1 rfl) (by exact Try.underlying3) (by rfl) (by decide) ?_ | refine J.seq (J.region mixed hI (by kernel_rfl) ?_))
  refine J.condN rfl (fun he => ?_) (fun he => ?_)
  · have hE : xE = fs.2 := hE1 (by omega)
    have hR : xR = ev0 := hR1 (by omega)
    rw [hR, hE]
    refine J.seq ?_
    refine J.draw mixed hI ?_; repeat' (first | refine Plan.move rfl rfl rfl rfl ?_ | refine Plan.assign rfl rfl rfl rfl ?_ | refine Plan.nilOk rfl rfl rfl rfl ?_ | refine Plan.fieldC rfl rfl rfl rfl (by first | exact Try.underlying31 | exact Try.underlying75) rfl (by kernel_rfl) (by exact (rfl : _ = 2)) ?_ | refine Plan.loadC (key := 1000) (q := 1) rfl rfl rfl rfl rfl rfl (obj_reads1 rfl) (by exact Try.underlying3) (by rfl) (by decide) ?_ | refine Plan.build (cells := ev0.enc.toArray) rfl rfl (ps := []) rfl Parts.nil (by kernel_rfl) ?_ | refine Plan.storeC (key := 1000) (q := 0) (off := 0) rfl rfl rfl rfl rfl rfl (by simp [Value.cells, Value.oneCell', ev0, EvV.enc, str]) (by show _ = some ev0.enc.toArray.size; kernel_rfl) rfl hA rfl (obj_pat (Nat.le_of_ble_eq_true rfl)) ?_ | refine D.go (D.two 0 2 (by decide +kernel) (by kernel_rfl) hI ?_ ?_) | refine D.go (D.two 0 3 (by decide +kernel) (by kernel_rfl) hI ?_ ?_) | refine D.go (D.two 0 4 (by decide +kernel) (by kernel_rfl) hI ?_ ?_) | refine D.go (D.two 1 5 (by decide +kernel) (by kernel_rfl) hI ?_ ?_) | refine D.go (D.two 2 5 (by decide +kernel) (by kernel_rfl) hI ?_ ?_) | refine D.go (D.two 3 5 (by decide +kernel) (by kernel_rfl) hI ?_ ?_) | refine D.go (D.two 4 5 (by decide +kernel) (by kernel_rfl) hI ?_ ?_) | refine D.go (D.one 0 (by decide +kernel) (by kernel_rfl) hI ?_) | refine D.go (D.one 5 (by decide +kernel) (by kernel_rfl) hI ?_) | refine D.go (D.one 1 (by decide +kernel) (by kernel_rfl) hI ?_) | refine D.go (D.one 2 (by decide +kernel) (by kernel_rfl) hI ?_) | refine D.go (D.one 3 (by decide +kernel) (by kernel_rfl) hI ?_) | refine D.go (D.one 4 (by decide +kernel) (by kernel_rfl) hI ?_) | refine D.go (D.one 6 (by decide +kernel) (by kernel_rfl) hI ?_) | refine D.go (D.done (by decide +kernel) ?_) | refine (D.two 0 1 (by decide +kernel) (by kernel_rfl) hI ?_ ?_))
    all_goals exact J.ret (Nrm.retCT (key := 1000) (q := 0) rfl (fun _ h => h) rfl rfl rfl obj_whole Try.underlying31 rfl (by kernel_rfl) fun B _ => ⟨_, _, rfl, rfl, Sub.refl _⟩)
  have he' : fs.2 = 0 := by omega
  repeat (first | refine Plan.move rfl rfl rfl rfl ?_ | refine Plan.lenE rfl rfl rfl rfl Try.underlying40 ?_ | (refine Plan.ints rfl rfl rfl rfl rfl rfl ?_; (skip)) | refine Plan.nilOk rfl rfl rfl rfl ?_ | refine Plan.fieldC rfl rfl rfl rfl (by first | exact Try.underlying31 | exact Try.underlying75) rfl (by kernel_rfl) (by exact (rfl : _ = 1)) ?_ | refine Plan.loadC (key := 1000) (q := 1) rfl rfl rfl rfl rfl rfl (obj_reads1 rfl) (by exact Try.underlying3) (by rfl) (by decide) ?_ | refine J.seq (J.region mixed hI (by kernel_rfl) ?_))
  refine Plan.splitN (fun h1 => ?_) (fun h1 => ?_)
  · have hE : xE = 3 := hE2 he' (.inl (by omega))
    have hR : xR = ev0 := hR1 (by omega)
    rw [hR, hE]
    repeat (first | refine Plan.assign rfl rfl rfl rfl ?_ | refine Plan.skip rfl rfl ?_ | refine Plan.pick rfl rfl rfl rfl rfl ?_ | refine J.seq (J.region mixed hI (by kernel_rfl) ?_) | refine J.condT rfl ?_)
    refine Plan.build (cells := ev0.enc.toArray) rfl rfl (ps := []) rfl Parts.nil (by kernel_rfl) ?_
    refine Plan.storeC (key := 1000) (q := 0) (off := 0) rfl rfl rfl rfl rfl rfl (by simp [Value.cells, Value.oneCell', ev0, EvV.enc, str]) (by show _ = some ev0.enc.toArray.size; kernel_rfl) rfl hA rfl (obj_pat (Nat.le_of_ble_eq_true rfl)) ?_
    repeat (refine Plan.assign rfl rfl rfl rfl ?_)
    exact J.ret (Nrm.retCT (key := 1000) (q := 0) rfl (fun _ h => h) rfl rfl rfl obj_whole Try.underlying31 rfl (by kernel_rfl) fun B _ => ⟨_, _, rfl, rfl, Sub.refl _⟩)
  repeat (fail)
  refine Plan.loadAggC (key := 1000) (q := 2) (vs := W.enc) rfl rfl rfl rfl rfl rfl obj_whole Try.underlying31 rfl (by rw [encE]; kernel_rfl) (by decide) ?_
  refine Plan.call (B := w0.heap.size) rfl rfl rfl (right_fn W okW) Try.func22 rfl rfl (hBb w0) (by repeat (first | exact Opnds.nil | refine Opnds.cons rfl (by exact Sub.refl _) ?_)) ?_
  repeat (first | refine Plan.assign rfl rfl rfl rfl ?_ | refine Plan.pick rfl rfl rfl rfl rfl ?_ | refine Plan.un rfl rfl rfl rfl rfl ?_)
  refine J.condND rfl (fun hr => ?_) (fun hr => ?_)
  · have hE : xE = 3 := hE2 he' (.inr hr)
    have hR : xR = ev0 := hR1 (by omega)
    rw [hR, hE]
    repeat (refine J.seq (J.region mixed hI (by kernel_rfl) ?_))
    refine Plan.build (cells := ev0.enc.toArray) rfl rfl (ps := []) rfl Parts.nil (by kernel_rfl) ?_
    refine Plan.storeC (key := 1000) (q := 0) (off := 0) rfl rfl rfl rfl rfl rfl (by simp [Value.cells, Value.oneCell', ev0, EvV.enc, str]) (by show _ = some ev0.enc.toArray.size; kernel_rfl) rfl hA rfl (obj_pat (Nat.le_of_ble_eq_true rfl)) ?_
    repeat (refine Plan.assign rfl rfl rfl rfl ?_)
    exact J.ret (Nrm.retCT (key := 1000) (q := 0) rfl (fun _ h => h) rfl rfl rfl obj_whole Try.underlying31 rfl (by kernel_rfl) fun B _ => ⟨_, _, rfl, rfl, Sub.refl _⟩)
  · have hE : xE = 0 := hE3 he' (by omega) hr
    have hR : xR = W := hR2 hE
    rw [hR, hE]
    repeat (first | refine J.seq (J.region mixed hI (by kernel_rfl) ?_) | refine J.skip ?_)
    refine Plan.loadAggC (key := 1000) (q := 2) (vs := W.enc) rfl rfl rfl rfl rfl rfl obj_whole Try.underlying31 rfl (by rw [encE]; kernel_rfl) (by decide) ?_
    refine Plan.storeC (key := 1000) (q := 0) (off := 0) rfl rfl rfl rfl rfl rfl (by simp [Value.cells, Value.oneCell', ev0, EvV.enc, str]) (by show _ = some W.enc.toArray.size; kernel_rfl) rfl hA rfl (obj_pat (Nat.le_of_ble_eq_true rfl)) ?_
    repeat (refine Plan.assign rfl rfl rfl rfl ?_)
    exact J.ret (Nrm.retCT (key := 1000) (q := 0) rfl (fun _ h => h) rfl rfl rfl obj_whole Try.underlying31 rfl (by kernel_rfl) fun B _ => ⟨_, _, rfl, rfl, Sub.refl _⟩)
end Go.Proofs.Ythjneijkapopoaa
