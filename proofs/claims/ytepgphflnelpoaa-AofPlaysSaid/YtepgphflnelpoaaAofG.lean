/-
  Laid together: EvDecFn, DiskFns, DiskFns2, CrcXor, CrcBurst, DiskFns3, FreeLoose, FreeFull, FreeFull2, FreeSlices.
-/
import Derived.Test.YtepgphflnelpoaaAofF
import Derived.Lib.AppendStr
import Derived.Lib.Overlaps

section
set_option linter.unusedSimpArgs false
set_option linter.unusedVariables false
set_option maxRecDepth 20000
namespace Go.Proofs.Ytepgphflnelpoaa
open Go.Free Go.RowKit Go.Proofs
set_option maxHeartbeats 4000000

theorem enc_set (e : EvV) {i : Nat} (h : i < 16) (x : Int) : e.enc.set (3 + i) (vi x) = (EvV.mk e.r e.n e.time (fun j => if j = i then x else e.d j) e.kind e.key e.field e.value e.num e.rr e.rn).enc := by
  match i, h with
  | 0, _ => rfl | 1, _ => rfl | 2, _ => rfl | 3, _ => rfl | 4, _ => rfl | 5, _ => rfl | 6, _ => rfl | 7, _ => rfl
  | 8, _ => rfl | 9, _ => rfl | 10, _ => rfl | 11, _ => rfl | 12, _ => rfl | 13, _ => rfl | 14, _ => rfl | 15, _ => rfl
  | _ + 16, h => exact absurd h (by omega)
def eD (l : List UInt8) (i : Nat) : EvV := ⟨nV l 0, nV l 1, nV l 2, fun j => if j < i then nV l (3 + j) else 0, 0, [], [], [], 0, 0, 0⟩
theorem eD_succ (l : List UInt8) {i : Nat} (h : i < 16) : (eD l i).enc.set (3 + i) (vi (nV l (3 + i))) = (eD l (i + 1)).enc := by
  rw [enc_set _ h]
  have : (fun j => if j = i then nV l (3 + i) else if j < i then nV l (3 + j) else 0) = fun j => if j < i + 1 then nV l (3 + j) else 0 := by
    funext j
    by_cases hj : j = i
    · subst hj; simp
    · simp only [if_neg hj]
      by_cases hlt : j < i
      · rw [if_pos hlt, if_pos (by omega)]
      · rw [if_neg hlt, if_neg (by omega)]
  simp only [eD, this]
theorem enc_op (l : List UInt8) (s : RS) : (eD l 16).enc.take 19 ++ opV l s ++ (eD l 16).enc.drop 26 = (decW l s).enc := rfl
def decM (w0 : World) (u : Value) (α β γ : Nat) (l : List UInt8) (s : RS) (cs : List Value) : Env := [(0, .ex u), (2, .ex (ptr α)), (4, .ex (ptr β)), (5, .ex (ptr γ)), (1000, heap (newB w0) [obj α ev0.enc, rdC β u s, obj γ cs])]
def decLp (w0 : World) (u : Value) (α β γ : Nat) (l : List UInt8) (t i : Nat) : Env := [(0, .ex u), (2, .ex (ptr α)), (4, .ex (ptr β)), (5, .ex (ptr γ)), (t, .ex (vi i)), (1000, heap (newB w0) [obj α ev0.enc, rdC β u (nS l (3 + i)), obj γ (eD l i).enc])]
theorem row_slice {l : List UInt8} {w : World} {u : Value} (h : (bytesF l).den w u) : ∃ A c, u = .slice A l.length c := by
  obtain ⟨A, n, c, rfl, _, _, h3, _⟩ := h
  rw [bs_length, Nat.mul_one] at h3
  exact ⟨A, c, by rw [h3]⟩
theorem dec_cases (l : List UInt8) : ((decS l).2 ≠ 0 → decE l = (decS l).2) ∧ ((decS l).2 = 0 → ((decS l).1 ≠ l.length ∨ ¬ rightP (decV l)) → decE l = 3) ∧ ((decS l).2 = 0 → (decS l).1 = l.length → rightP (decV l) → decE l = 0) ∧ (decE l ≠ 0 → decR l = ev0) ∧ (decE l = 0 → decR l = decV l) := by
  refine ⟨fun h => if_pos h, fun h h2 => ?_, fun h h2 h3 => ?_, fun h => if_pos h, fun h => if_neg (fun hh => hh h)⟩
  · unfold decE; rw [if_neg (fun hh => hh h), if_pos h2]
  · unfold decE; rw [if_neg (fun hh => hh h), if_neg (by rintro (hh | hh); exact hh h2; exact hh h3)]
theorem decode_fn (l : List UInt8) (hl : l.length ≤ 9223372036854775807) : Spc Try.prog 52 [bytesF l] fun _ => .tup [.ex (aggE (decR l)), .ex (vi (decE l))] := by
  refine Spc.intro Try.func52 rfl (Nat.le_of_ble_eq_true rfl) fun w0 => ?_
  have hI := hIb w0
  have hA := Own.below w0
  have hbe : ∀ w, Below w0.heap.size w0 w → Below w0.heap.size w0 w := fun _ h => h
  refine J.heap0 1000 (newB w0) ?_
  refine J.nameOld (t := 0) rfl fun u hv => ?_
  obtain ⟨uA, uc, hu⟩ := row_slice hv
  repeat (refine J.seq (J.region mixed hI (by kernel_rfl) ?_))
  refine Plan.allocC (key := 1000) (z := .agg ev0.enc.toArray) rfl rfl rfl (by intro _ e; cases e; decide) (by kernel_rfl) rfl hA fun α => ?_
  repeat (first | refine Plan.move rfl rfl rfl rfl ?_ | refine Plan.assign rfl rfl rfl rfl ?_ | refine J.seq (J.region mixed hI (by kernel_rfl) ?_))
  subst hu
  refine Plan.build (cells := #[.slice uA l.length uc, vi 0, vi 0]) rfl rfl (ps := [(0, _)]) rfl (Parts.cons rfl Parts.nil) (by kernel_rfl) ?_
  refine Plan.boxC (key := 1000) rfl rfl rfl (by intro _ e; cases e; decide) rfl rfl hA fun β => ?_
  repeat (first | refine Plan.assign rfl rfl rfl rfl ?_ | refine J.seq (J.region mixed hI (by kernel_rfl) ?_))
  refine Plan.allocC (key := 1000) (z := .agg ev0.enc.toArray) rfl rfl rfl (by intro _ e; cases e; decide) (by kernel_rfl) rfl hA fun γ => ?_
  refine J.inA (key := 1000) (q := 1) (β := β) rfl rfl obj_in fun hβ => ?_
  repeat (first | refine Plan.move rfl rfl rfl rfl ?_ | refine J.seq (J.region mixed hI (by kernel_rfl) ?_))
  refine Plan.callC (key := 1000) (q := 1) rfl rfl rfl (number_fn hv hβ (nS_ok l 0) hl) Try.func70 rfl rfl (by intro _ e; cases e; decide) (by repeat (first | exact Opnds.nil | refine Opnds.cons rfl (by exact Sub.exIn hbe) ?_)) rfl hA rfl ?_
  intro _ _
  repeat (refine Plan.fieldC rfl rfl rfl rfl (by first | exact Try.underlying48 | exact Try.underlying42) rfl (by kernel_rfl) (by exact (rfl : _ = 0)) ?_)
  refine Plan.storeC (key := 1000) (q := 2) rfl rfl rfl rfl rfl rfl (by simp [Value.cells, Value.oneCell', str]) (by kernel_rfl) rfl hA rfl (obj_pat1 (Nat.le_of_ble_eq_true rfl)) ?_
  repeat (first | refine Plan.move rfl rfl rfl rfl ?_ | refine J.seq (J.region mixed hI (by kernel_rfl) ?_))
  refine Plan.callC (key := 1000) (q := 1) rfl rfl rfl (number_fn hv hβ (nS_ok l 1) hl) Try.func70 rfl rfl (by intro _ e; cases e; decide) (by repeat (first | exact Opnds.nil | refine Opnds.cons rfl (by exact Sub.exIn hbe) ?_)) rfl hA rfl ?_
  intro _ _
  repeat (refine Plan.fieldC rfl rfl rfl rfl (by first | exact Try.underlying48 | exact Try.underlying42) rfl (by kernel_rfl) (by first | exact (rfl : _ = 0) | exact (rfl : _ = 1)) ?_)
  refine Plan.storeC (key := 1000) (q := 2) rfl rfl rfl rfl rfl rfl (by simp [Value.cells, Value.oneCell', str]) (by kernel_rfl) rfl hA rfl (obj_pat1 (Nat.le_of_ble_eq_true rfl)) ?_
  repeat (first | refine Plan.move rfl rfl rfl rfl ?_ | refine J.seq (J.region mixed hI (by kernel_rfl) ?_))
  refine Plan.callC (key := 1000) (q := 1) rfl rfl rfl (number_fn hv hβ (nS_ok l 2) hl) Try.func70 rfl rfl (by intro _ e; cases e; decide) (by repeat (first | exact Opnds.nil | refine Opnds.cons rfl (by exact Sub.exIn hbe) ?_)) rfl hA rfl ?_
  intro _ _
  repeat (refine Plan.fieldC rfl rfl rfl rfl (by exact Try.underlying48) rfl (by kernel_rfl) (by exact (rfl : _ = 2)) ?_)
  refine Plan.storeC (key := 1000) (q := 2) rfl rfl rfl rfl rfl rfl (by simp [Value.cells, Value.oneCell', str]) (by kernel_rfl) rfl hA rfl (obj_pat1 (Nat.le_of_ble_eq_true rfl)) ?_
  repeat (first | refine Plan.move rfl rfl rfl rfl ?_ | refine J.seq (J.seq (J.region mixed hI (by kernel_rfl) ?_)))
  refine J.block (J.loop (decLp w0 (.slice uA l.length uc) α β γ l 21) (fun i => i ≤ 16) (fun i => 16 - i) 0 (Nat.zero_le _) (Weak.cons rfl (Sub.refl _) (Weak.cons rfl (Sub.refl _) (Weak.cons rfl (Sub.refl _) (Weak.cons rfl (Sub.refl _) (Weak.cons rfl (Sub.refl _) (Weak.cons rfl (Sub.refl _) Weak.nil)))))) ?_)
  intro i hi
  repeat (first | (refine Plan.ints rfl rfl rfl rfl rfl rfl ?_; (skip)) | refine J.seq (J.region mixed hI (by kernel_rfl) ?_))
  refine J.seq (J.condD rfl (fun hlt => ?_) (fun hlt => ?_))
  · have hlt' : i < 16 := by omega
    repeat (refine J.skip ?_)
    refine J.seq (J.block ?_)
    repeat (first | refine Plan.move rfl rfl rfl rfl ?_ | refine Plan.assign rfl rfl rfl rfl ?_ | refine J.seq (J.region mixed hI (by kernel_rfl) ?_) | refine J.region mixed hI (by kernel_rfl) ?_)
    refine Plan.callC (key := 1000) (q := 1) rfl rfl rfl (number_fn hv hβ (nS_ok l (3 + i)) hl) Try.func70 rfl rfl (by intro _ e; cases e; decide) (by repeat (first | exact Opnds.nil | refine Opnds.cons rfl (by exact Sub.exIn hbe) ?_)) rfl hA rfl ?_
    intro _ _
    repeat (refine Plan.fieldC rfl rfl rfl rfl (by exact Try.underlying48) rfl (by kernel_rfl) (by exact (rfl : _ = 3)) ?_)
    refine Plan.indexArr (off := 3 + i) (len := 16) (sz := 1) rfl rfl rfl rfl rfl Try.underlying44 (by kernel_rfl) (by omega) (by omega) (by simp) ?_
    refine Plan.storeC (key := 1000) (q := 2) rfl rfl rfl rfl rfl rfl (by simp [Value.cells, Value.oneCell', str]) (by kernel_rfl) rfl hA rfl (obj_pat1 (by show 3 + i < 26; omega)) ?_
    repeat (first | refine Plan.move rfl rfl rfl rfl ?_ | (refine Plan.ints rfl rfl rfl rfl rfl rfl ?_; (refine Plan.int (i64r (by omega)) ?_)) | refine J.region mixed hI (by kernel_rfl) ?_)
    refine Plan.int (y := ((i + 1 : Nat) : Int)) (by omega) ?_
    repeat (fail)
    refine Nrm.next (i + 1) (by omega) (by omega) ?_
    exact (Weak.cons rfl (Sub.refl _) (Weak.cons rfl (Sub.refl _) (Weak.cons rfl (Sub.refl _) (Weak.cons rfl (Sub.refl _) (Weak.cons rfl (Sub.refl _) (Weak.cons rfl (Sub.of_eq (by rw [← eD_succ l hlt'] <;> rfl)) Weak.nil))))))
  have hie : i = 16 := by omega
  subst hie
  obtain ⟨s, hs⟩ : ∃ s, nS l 19 = s := ⟨_, rfl⟩
  have h19 : nS l (3 + 16) = s := (congrArg (nS l) (show 3 + 16 = 19 from by decide)).trans hs
  have okl : okS l s := by rw [← hs]; exact nS_ok l _
  refine J.exit (Nrm.weak (decM w0 (.slice uA l.length uc) α β γ l s (eD l 16).enc) (Weak.cons rfl (Sub.refl _) (Weak.cons rfl (Sub.refl _) (Weak.cons rfl (Sub.refl _) (Weak.cons rfl (Sub.refl _) (Weak.cons rfl (Sub.of_eq (by rw [h19])) Weak.nil))))) ?_)
  refine J.seqMid (σ := Unit) (fun _ => decM w0 (.slice uA l.length uc) α β γ l (oRN l s).2 (decW l s).enc) (fun _ => True) ?_ fun _ _ => ?_
  · repeat (first | refine Plan.move rfl rfl rfl rfl ?_ | refine J.region mixed hI (by kernel_rfl) ?_)
    refine Plan.callC (key := 1000) (q := 1) rfl rfl rfl (op_fn hv hβ okl hl) Try.func71 rfl rfl (by intro _ e; cases e; decide) (by repeat (first | exact Opnds.nil | refine Opnds.cons rfl (by exact Sub.exIn hbe) ?_)) rfl hA rfl ?_
    intro _ _
    repeat (refine Plan.fieldC rfl rfl rfl rfl (by exact Try.underlying48) rfl (by kernel_rfl) (by exact (rfl : _ = 19)) ?_)
    refine Plan.storeC (key := 1000) (q := 2) rfl rfl rfl rfl rfl rfl (by simp [Value.cells, Value.oneCell', opV, opL, str]) (by show _ = some (opV l s).toArray.size; kernel_rfl) rfl hA rfl (obj_pat (Nat.le_of_ble_eq_true rfl)) ?_
    exact Nrm.mid () trivial (Weak.cons rfl (Sub.refl _) (Weak.cons rfl (Sub.refl _) (Weak.cons rfl (Sub.refl _) (Weak.cons rfl (Sub.refl _) (Weak.cons rfl (Sub.of_eq (by rw [← enc_op l s] <;> rfl)) Weak.nil)))))
  have e1 : (oRN l s).2 = decS l := by rw [decS, hs]
  have e2 : decW l s = decV l := by rw [decV, hs]
  have okW := decV_ok l
  obtain ⟨hE1, hE2, hE3, hR1, hR2⟩ := dec_cases l
  rw [e1, e2]
  generalize decS l = fs at hE1 hE2 hE3 hR1 hR2 ⊢
  generalize decV l = W at okW hE2 hE3 hR1 hR2 ⊢
  generalize decE l = xE at hE1 hE2 hE3 hR1 hR2 ⊢
  generalize decR l = xR at hR1 hR2 ⊢
  clear e1 e2
  refine J.seq (J.block ?_)
  repeat (first | refine Plan.move rfl rfl rfl rfl ?_ | refine Plan.assign rfl rfl rfl rfl ?_ | (refine Plan.ints rfl rfl rfl rfl rfl rfl ?_; (skip)) | refine Plan.nilOk rfl rfl rfl rfl ?_ | refine Plan.fieldC rfl rfl rfl rfl (by first | exact Try.underlying48 | exact Try.underlying116) rfl (by kernel_rfl) (by exact (rfl : _ = 2)) ?_ | refine Plan.loadC (key := 1000) (q := 1) rfl rfl rfl rfl rfl rfl (obj_reads1 rfl) (by exact Try.underlying3) (by rfl) (by decide) ?_ | refine J.seq (J.region mixed hI (by kernel_rfl) ?_))
  refine J.condN rfl (fun he => ?_) (fun he => ?_)
  · have hE : xE = fs.2 := hE1 (by omega)
    have hR : xR = ev0 := hR1 (by omega)
    rw [hR, hE]
    refine J.seq ?_
    refine J.draw mixed hI ?_; repeat' (first | refine Plan.move rfl rfl rfl rfl ?_ | refine Plan.assign rfl rfl rfl rfl ?_ | refine Plan.nilOk rfl rfl rfl rfl ?_ | refine Plan.fieldC rfl rfl rfl rfl (by first | exact Try.underlying48 | exact Try.underlying116) rfl (by kernel_rfl) (by exact (rfl : _ = 2)) ?_ | refine Plan.loadC (key := 1000) (q := 1) rfl rfl rfl rfl rfl rfl (obj_reads1 rfl) (by exact Try.underlying3) (by rfl) (by decide) ?_ | refine Plan.build (cells := ev0.enc.toArray) rfl rfl (ps := []) rfl Parts.nil (by kernel_rfl) ?_ | refine Plan.storeC (key := 1000) (q := 0) (off := 0) rfl rfl rfl rfl rfl rfl (by simp [Value.cells, Value.oneCell', ev0, EvV.enc, str]) (by show _ = some ev0.enc.toArray.size; kernel_rfl) rfl hA rfl (obj_pat (Nat.le_of_ble_eq_true rfl)) ?_ | refine D.go (D.two 0 2 (by decide +kernel) (by kernel_rfl) hI ?_ ?_) | refine D.go (D.two 0 3 (by decide +kernel) (by kernel_rfl) hI ?_ ?_) | refine D.go (D.two 0 4 (by decide +kernel) (by kernel_rfl) hI ?_ ?_) | refine D.go (D.two 1 5 (by decide +kernel) (by kernel_rfl) hI ?_ ?_) | refine D.go (D.two 2 5 (by decide +kernel) (by kernel_rfl) hI ?_ ?_) | refine D.go (D.two 3 5 (by decide +kernel) (by kernel_rfl) hI ?_ ?_) | refine D.go (D.two 4 5 (by decide +kernel) (by kernel_rfl) hI ?_ ?_) | refine D.go (D.one 0 (by decide +kernel) (by kernel_rfl) hI ?_) | refine D.go (D.one 5 (by decide +kernel) (by kernel_rfl) hI ?_) | refine D.go (D.one 1 (by decide +kernel) (by kernel_rfl) hI ?_) | refine D.go (D.one 2 (by decide +kernel) (by kernel_rfl) hI ?_) | refine D.go (D.one 3 (by decide +kernel) (by kernel_rfl) hI ?_) | refine D.go (D.one 4 (by decide +kernel) (by kernel_rfl) hI ?_) | refine D.go (D.one 6 (by decide +kernel) (by kernel_rfl) hI ?_) | refine D.go (D.done (by decide +kernel) ?_) | refine (D.two 0 1 (by decide +kernel) (by kernel_rfl) hI ?_ ?_))
    all_goals exact J.ret (Nrm.retCT (key := 1000) (q := 0) rfl (fun _ h => h) rfl rfl rfl obj_whole Try.underlying48 rfl (by kernel_rfl) fun B _ => ⟨_, _, rfl, rfl, Sub.refl _⟩)
  have he' : fs.2 = 0 := by omega
  repeat (first | refine Plan.move rfl rfl rfl rfl ?_ | refine Plan.lenE rfl rfl rfl rfl Try.underlying27 ?_ | (refine Plan.ints rfl rfl rfl rfl rfl rfl ?_; (skip)) | refine Plan.nilOk rfl rfl rfl rfl ?_ | refine Plan.fieldC rfl rfl rfl rfl (by first | exact Try.underlying48 | exact Try.underlying116) rfl (by kernel_rfl) (by exact (rfl : _ = 1)) ?_ | refine Plan.loadC (key := 1000) (q := 1) rfl rfl rfl rfl rfl rfl (obj_reads1 rfl) (by exact Try.underlying3) (by rfl) (by decide) ?_ | refine J.seq (J.region mixed hI (by kernel_rfl) ?_))
  refine Plan.splitN (fun h1 => ?_) (fun h1 => ?_)
  · have hE : xE = 3 := hE2 he' (.inl (by omega))
    have hR : xR = ev0 := hR1 (by omega)
    rw [hR, hE]
    repeat (first | refine Plan.assign rfl rfl rfl rfl ?_ | refine Plan.skip rfl rfl ?_ | refine Plan.pick rfl rfl rfl rfl rfl ?_ | refine J.seq (J.region mixed hI (by kernel_rfl) ?_) | refine J.condT rfl ?_)
    refine Plan.build (cells := ev0.enc.toArray) rfl rfl (ps := []) rfl Parts.nil (by kernel_rfl) ?_
    refine Plan.storeC (key := 1000) (q := 0) (off := 0) rfl rfl rfl rfl rfl rfl (by simp [Value.cells, Value.oneCell', ev0, EvV.enc, str]) (by show _ = some ev0.enc.toArray.size; kernel_rfl) rfl hA rfl (obj_pat (Nat.le_of_ble_eq_true rfl)) ?_
    repeat (refine Plan.assign rfl rfl rfl rfl ?_)
    exact J.ret (Nrm.retCT (key := 1000) (q := 0) rfl (fun _ h => h) rfl rfl rfl obj_whole Try.underlying48 rfl (by kernel_rfl) fun B _ => ⟨_, _, rfl, rfl, Sub.refl _⟩)
  repeat (fail)
  refine Plan.loadAggC (key := 1000) (q := 2) (vs := W.enc) rfl rfl rfl rfl rfl rfl obj_whole Try.underlying48 rfl (by rw [encE]; kernel_rfl) (by decide) ?_
  refine Plan.call (B := w0.heap.size) rfl rfl rfl (right_fn W okW) Try.func72 rfl rfl (hBb w0) (by repeat (first | exact Opnds.nil | refine Opnds.cons rfl (by exact Sub.refl _) ?_)) ?_
  repeat (first | refine Plan.assign rfl rfl rfl rfl ?_ | refine Plan.pick rfl rfl rfl rfl rfl ?_ | refine Plan.un rfl rfl rfl rfl rfl ?_)
  refine J.condND rfl (fun hr => ?_) (fun hr => ?_)
  · have hE : xE = 3 := hE2 he' (.inr hr)
    have hR : xR = ev0 := hR1 (by omega)
    rw [hR, hE]
    repeat (refine J.seq (J.region mixed hI (by kernel_rfl) ?_))
    refine Plan.build (cells := ev0.enc.toArray) rfl rfl (ps := []) rfl Parts.nil (by kernel_rfl) ?_
    refine Plan.storeC (key := 1000) (q := 0) (off := 0) rfl rfl rfl rfl rfl rfl (by simp [Value.cells, Value.oneCell', ev0, EvV.enc, str]) (by show _ = some ev0.enc.toArray.size; kernel_rfl) rfl hA rfl (obj_pat (Nat.le_of_ble_eq_true rfl)) ?_
    repeat (refine Plan.assign rfl rfl rfl rfl ?_)
    exact J.ret (Nrm.retCT (key := 1000) (q := 0) rfl (fun _ h => h) rfl rfl rfl obj_whole Try.underlying48 rfl (by kernel_rfl) fun B _ => ⟨_, _, rfl, rfl, Sub.refl _⟩)
  · have hE : xE = 0 := hE3 he' (by omega) hr
    have hR : xR = W := hR2 hE
    rw [hR, hE]
    repeat (first | refine J.seq (J.region mixed hI (by kernel_rfl) ?_) | refine J.skip ?_)
    refine Plan.loadAggC (key := 1000) (q := 2) (vs := W.enc) rfl rfl rfl rfl rfl rfl obj_whole Try.underlying48 rfl (by rw [encE]; kernel_rfl) (by decide) ?_
    refine Plan.storeC (key := 1000) (q := 0) (off := 0) rfl rfl rfl rfl rfl rfl (by simp [Value.cells, Value.oneCell', ev0, EvV.enc, str]) (by show _ = some W.enc.toArray.size; kernel_rfl) rfl hA rfl (obj_pat (Nat.le_of_ble_eq_true rfl)) ?_
    repeat (refine Plan.assign rfl rfl rfl rfl ?_)
    exact J.ret (Nrm.retCT (key := 1000) (q := 0) rfl (fun _ h => h) rfl rfl rfl obj_whole Try.underlying48 rfl (by kernel_rfl) fun B _ => ⟨_, _, rfl, rfl, Sub.refl _⟩)
end Go.Proofs.Ytepgphflnelpoaa
end

section
set_option linter.unusedSimpArgs false
set_option linter.unusedVariables false
set_option maxRecDepth 20000
namespace Go.Proofs.Ytepgphflnelpoaa
open Go.Free Go.RowKit Go.Proofs
set_option maxHeartbeats 2000000

abbrev rowB (B : Option Addr) (cap : Nat) (l : List UInt8) : Chunk := rowC 5 1 B l.length cap (bs l)
def diskC (β : Nat) (l : List UInt8) (f r : Nat) : Chunk := exC fun x : Option Addr × Nat => sepC (obj β [.slice x.1 l.length x.2, .int .i64 f, .int .i64 r]) (rowB x.1 x.2 l)
theorem disk_close {β : Nat} {l : List UInt8} {f r cap : Nat} {B : Option Addr} : Ent (allC [obj β [.slice B l.length cap, .int .i64 f, .int .i64 r], rowB B cap l]) (diskC β l f r) :=
  Ent.ex (B, cap) (Ent.sep (Ent.refl _) Ent.one)

theorem disk_Room (β : Nat) (l : List UInt8) (f r : Nat) : SpcR Try.prog 31 [.ex (ptr β)] (diskC β l f r) fun _ => .ex (.int .i64 r) := by
  refine SpcR.intro Try.func31 rfl (Nat.le_of_ble_eq_true rfl) fun w0 => ?_
  have hI := hIb w0
  refine J.exC (key := 1000) (q := 0) rfl rfl fun x => ?_
  refine J.sepC (key := 1000) (q := 0) rfl rfl ?_
  repeat (first | refine Plan.move rfl rfl rfl rfl ?_ | refine Plan.assign rfl rfl rfl rfl ?_ | refine Plan.nilOk rfl rfl rfl rfl ?_ | refine Plan.fieldC rfl rfl rfl rfl (by exact Try.underlying74) rfl (by kernel_rfl) (by exact (rfl : _ = 2)) ?_ | refine Plan.loadC (key := 1000) (q := 0) rfl rfl rfl rfl rfl rfl (obj_reads1 rfl) (by exact Try.underlying3) (by rfl) (by decide) ?_ | refine Plan.eqlPtr rfl rfl rfl rfl (by kernel_rfl) ?_ | refine J.seq (J.region mixed hI (by kernel_rfl) ?_) | refine J.seq (J.seq (J.region mixed hI (by kernel_rfl) ?_)) | refine J.condF rfl ?_ | refine J.skip ?_)
  exact J.ret (Nrm.ret1 rfl (fun _ h => h) rfl fun B _ => Sub.refl _)
theorem disk_Fast (β : Nat) (l : List UInt8) (f r : Nat) : SpcR Try.prog 30 [.ex (ptr β)] (diskC β l f r) fun _ => .ex (.int .i64 f) := by
  refine SpcR.intro Try.func30 rfl (Nat.le_of_ble_eq_true rfl) fun w0 => ?_
  have hI := hIb w0
  refine J.exC (key := 1000) (q := 0) rfl rfl fun x => ?_
  refine J.sepC (key := 1000) (q := 0) rfl rfl ?_
  repeat (first | refine Plan.move rfl rfl rfl rfl ?_ | refine Plan.assign rfl rfl rfl rfl ?_ | refine Plan.nilOk rfl rfl rfl rfl ?_ | refine Plan.fieldC rfl rfl rfl rfl (by exact Try.underlying74) rfl (by kernel_rfl) (by exact (rfl : _ = 1)) ?_ | refine Plan.loadC (key := 1000) (q := 0) rfl rfl rfl rfl rfl rfl (obj_reads1 rfl) (by exact Try.underlying3) (by rfl) (by decide) ?_ | refine Plan.eqlPtr rfl rfl rfl rfl (by kernel_rfl) ?_ | refine J.seq (J.region mixed hI (by kernel_rfl) ?_) | refine J.seq (J.seq (J.region mixed hI (by kernel_rfl) ?_)) | refine J.condF rfl ?_ | refine J.skip ?_)
  exact J.ret (Nrm.ret1 rfl (fun _ h => h) rfl fun B _ => Sub.refl _)
theorem disk_Bytes (β : Nat) (l : List UInt8) (f r : Nat) (hl : l.length ≤ 65536) : SpcR Try.prog 13 [.ex (ptr β)] (diskC β l f r) fun B => ownB B l := by
  refine SpcR.intro Try.func13 rfl (Nat.le_of_ble_eq_true rfl) fun w0 => ?_
  have hI := hIb w0
  refine J.exC (key := 1000) (q := 0) rfl rfl fun x => ?_
  refine J.sepC (key := 1000) (q := 0) rfl rfl ?_
  repeat (first | refine Plan.move rfl rfl rfl rfl ?_ | refine Plan.assign rfl rfl rfl rfl ?_ | refine J.seq (J.region mixed hI (by kernel_rfl) ?_) | refine J.seq (J.seq (J.region mixed hI (by kernel_rfl) ?_)))
  refine Plan.eqlPtr rfl rfl rfl rfl (by kernel_rfl) ?_
  repeat (first | refine Plan.move rfl rfl rfl rfl ?_ | refine J.seq (J.region mixed hI (by kernel_rfl) ?_) | refine J.condF rfl ?_ | refine J.skip ?_)
  refine Plan.nilOk rfl rfl rfl rfl ?_
  refine Plan.fieldC rfl rfl rfl rfl (by exact Try.underlying74) rfl (by kernel_rfl) rfl ?_
  refine Plan.loadRowC (key := 1000) (q := 0) (q2 := 1) rfl rfl rfl rfl rfl rfl (obj_reads1 rfl) rfl (by exact Try.underlying27) (by rfl) (by decide) ?_
  refine Plan.call (B := w0.heap.size) rfl rfl rfl (bytes_Clone l (by omega)) Try.func32 rfl rfl (hBb w0) (by repeat (first | exact Opnds.nil | refine Opnds.cons rfl (by exact Sub.refl _) ?_)) ?_
  repeat (refine Plan.assign rfl rfl rfl rfl ?_)
  exact J.ret (Nrm.ret1 rfl (fun _ h => h) rfl fun B hB => by first | exact Sub.refl _ | exact Sub.own | exact Sub.old (fun _ h => h) | exact Sub.oldOwn (fun _ h => h) | exact Sub.nilRow | exact Sub.ownLower hB | exact Sub.nilOwn (fun _ h => Nat.le_trans hB h.size))
end Go.Proofs.Ytepgphflnelpoaa
end

section
set_option linter.unusedSimpArgs false
set_option linter.unusedVariables false
set_option maxRecDepth 20000
namespace Go.Proofs.Ytepgphflnelpoaa
open Go.Free Go.RowKit Go.Proofs
set_option maxHeartbeats 2000000

def clampR (r : Int) : Nat := (max 0 (min r 65536)).toNat
theorem clampR_eq (r : Int) : ((clampR r : Nat) : Int) = if (if (65536 : Int) < r then 65536 else r) > 0 then (if (65536 : Int) < r then 65536 else r) else 0 := by
  unfold clampR; split <;> split <;> omega
theorem disk_New (r : Int) : SpcC Try.prog 10 [.ex (.int .i64 r)] emp (fun _ : Nat => True) (fun β => .ex (ptr β)) (fun β => diskC β [] 0 (clampR r)) := by
  refine SpcC.intro Try.func10 rfl (Nat.le_of_ble_eq_true rfl) fun w0 F => ?_
  have hI := kept_below F w0
  have hA := Own.kept F w0
  repeat (first | refine Plan.move rfl rfl rfl rfl ?_ | refine Plan.assign rfl rfl rfl rfl ?_ | refine J.seq (J.region mixed hI (by kernel_rfl) ?_))
  refine Plan.min2 rfl rfl rfl rfl rfl ?_
  refine Plan.max2 rfl rfl rfl rfl rfl ?_
  rw [← clampR_eq]
  refine Plan.build rfl rfl rfl (Parts.cons rfl Parts.nil) (cells := #[.slice none 0 0, .int .i64 0, .int .i64 (clampR r)]) (by kernel_rfl) ?_
  refine Plan.boxC (key := 1000) rfl rfl rfl (by intro _ e; cases e; decide) rfl rfl hA fun β => ?_
  repeat (refine Plan.assign rfl rfl rfl rfl ?_)
  refine fun a w h1 h2 h3 => ?_
  refine J.nilRow (key := 1000) 5 1 rfl ?_ a w h1 h2 h3
  exact J.ret (Nrm.retC1 (key := 1000) β rfl rfl rfl trivial (Sub.refl _) (Ent.right.trans (disk_close (l := []) (cap := 0) (B := none))))

theorem disk_Sync (β : Nat) (l : List UInt8) (f r : Nat) : SpcC Try.prog 33 [.ex (ptr β)] (diskC β l f r) (fun _ : Unit => True) (fun _ => Fa.any) (fun _ => diskC β l l.length r) := by
  refine SpcC.intro Try.func33 rfl (Nat.le_of_ble_eq_true rfl) fun w0 F => ?_
  have hI := kept_below F w0
  have hA := Own.kept F w0
  refine J.exC (key := 1000) (q := 0) rfl rfl fun x => ?_
  refine J.sepC (key := 1000) (q := 0) rfl rfl ?_
  repeat (first | refine Plan.move rfl rfl rfl rfl ?_ | refine Plan.lenE rfl rfl rfl rfl Try.underlying27 ?_ | refine Plan.nilOk rfl rfl rfl rfl ?_ | refine Plan.fieldC rfl rfl rfl rfl (by exact Try.underlying74) rfl (by kernel_rfl) (by first | exact (rfl : _ = 0) | exact (rfl : _ = 1)) ?_ | refine Plan.loadC (key := 1000) (q := 0) rfl rfl rfl rfl rfl rfl (obj_reads1 rfl) (by first | exact Try.underlying3 | exact Try.underlying27) (by rfl) (by decide) ?_ | refine Plan.neqPtr rfl rfl rfl rfl (by kernel_rfl) ?_ | refine J.seq (J.region mixed hI (by kernel_rfl) ?_) | refine J.region mixed hI (by kernel_rfl) ?_ | refine J.condT rfl ?_)
  refine Plan.storeC (key := 1000) (q := 0) rfl rfl rfl rfl rfl rfl (by simp [Value.cells, Value.oneCell']) (by kernel_rfl) rfl hA rfl (obj_pat1 (Nat.le_of_ble_eq_true rfl)) ?_
  exact Nrm.retC0 (key := 1000) () rfl rfl rfl trivial disk_close (.inl rfl)

theorem disk_Append (β : Nat) (l : List UInt8) (f r : Nat) (b : List UInt8) (hl : l.length ≤ r) (hr : r ≤ 65536) (hb : b.length ≤ 140737488300000) : SpcC Try.prog 40 [.ex (ptr β), bytesF b] (diskC β l f r) (fun _ : Unit => True)
    (fun _ => .ex (.int .i64 (if l.length + b.length ≤ r then 0 else 9))) (fun _ => diskC β (if l.length + b.length ≤ r then l ++ b else l) f r) := by
  refine SpcC.intro Try.func40 rfl (Nat.le_of_ble_eq_true rfl) fun w0 F => ?_
  have hI := kept_below F w0
  have hA := Own.kept F w0
  repeat (first | refine Plan.assign rfl rfl rfl rfl ?_ | refine J.seq (J.region mixed hI (by kernel_rfl) ?_))
  refine J.seq (J.block ?_)
  repeat (first | refine Plan.move rfl rfl rfl rfl ?_ | refine Plan.lenB rfl rfl rfl rfl (by exact Sub.refl _) Try.underlying27 ?_ | refine J.seq (J.region mixed hI (by kernel_rfl) ?_))
  refine Plan.callR (key := 1000) (B := 0) (q := 0) rfl rfl rfl (disk_Room β l f r) Try.func31 rfl rfl (fun _ _ => Nat.zero_le _) (by repeat (first | exact Opnds.nil | refine Opnds.cons rfl (by exact Sub.refl _) ?_)) rfl rfl (by decide) ?_
  repeat (refine Plan.move rfl rfl rfl rfl ?_)
  refine Plan.callR (key := 1000) (B := 0) (q := 0) rfl rfl rfl (disk_Bytes β l f r (by omega)) Try.func13 rfl rfl (fun _ _ => Nat.zero_le _) (by repeat (first | exact Opnds.nil | refine Opnds.cons rfl (by exact Sub.refl _) ?_)) rfl rfl (by decide) ?_
  repeat (first | refine Plan.assign rfl rfl rfl rfl ?_ | (refine Plan.ints rfl rfl rfl rfl rfl rfl ?_; (first | refine Plan.int (i64r (by omega)) ?_ | skip)) | refine Plan.lenB rfl rfl rfl rfl (by exact Sub.own) Try.underlying27 ?_)
  refine J.condD rfl (fun h => ?_) (fun h => ?_)
  · have h' : ¬ l.length + b.length ≤ r := by omega
    rw [if_neg h', if_neg h']
    repeat (first | refine Plan.assign rfl rfl rfl rfl ?_ | refine J.seq (J.region mixed hI (by kernel_rfl) ?_))
    exact J.ret (Nrm.retC1 (key := 1000) () rfl rfl rfl trivial (Sub.refl _) Ent.one)
  · have h' : l.length + b.length ≤ r := by omega
    rw [if_pos h', if_pos h']
    repeat (first | refine Plan.move rfl rfl rfl rfl ?_ | refine Plan.assign rfl rfl rfl rfl ?_ | (refine Plan.ints rfl rfl rfl rfl rfl rfl ?_; (skip)) | refine Plan.lenB rfl rfl rfl rfl (by exact Sub.refl _) Try.underlying27 ?_ | refine J.seq (J.region mixed hI (by kernel_rfl) ?_))
    refine J.condD rfl (fun h2 => ?_) (fun h2 => ?_)
    · refine J.exC (key := 1000) (q := 0) rfl rfl fun x => ?_
      refine J.sepC (key := 1000) (q := 0) rfl rfl ?_
      repeat (first | refine Plan.move rfl rfl rfl rfl ?_ | refine Plan.nilOk rfl rfl rfl rfl ?_ | refine Plan.fieldC rfl rfl rfl rfl (by exact Try.underlying74) rfl (by kernel_rfl) (by exact (rfl : _ = 0)) ?_ | refine Plan.loadC (key := 1000) (q := 0) rfl rfl rfl rfl rfl rfl (obj_reads1 rfl) (by first | exact Try.underlying3 | exact Try.underlying27) (by rfl) (by decide) ?_ | refine J.region mixed hI (by kernel_rfl) ?_)
      refine Plan.appendC (key := 1000) (q := 1) (news := bs b) rfl rfl rfl rfl rfl (Sub.refl _) eltB (by intro _ e; cases e; decide) rfl hA rfl (bs_one _) (by simp [bs]; omega) fun B' m' cap' hm => ?_
      have hm' : m' = (l ++ b).length := by simp [bs] at hm; simp; omega
      subst hm'
      rw [← bs_append]
      repeat (first | refine Plan.nilOk rfl rfl rfl rfl ?_ | refine Plan.fieldC rfl rfl rfl rfl (by exact Try.underlying74) rfl (by kernel_rfl) (by exact (rfl : _ = 0)) ?_)
      refine Plan.storeC (key := 1000) (q := 0) rfl rfl rfl rfl rfl rfl (by simp [Value.cells, Value.oneCell']) (by kernel_rfl) rfl hA rfl (obj_pat1 (Nat.le_of_ble_eq_true rfl)) ?_
      repeat (first | refine Plan.assign rfl rfl rfl rfl ?_ | refine J.seq (J.region mixed hI (by kernel_rfl) ?_))
      exact J.ret (Nrm.retC1 (key := 1000) () rfl rfl rfl trivial (Sub.refl _) disk_close)
    · have hb0 : b = [] := List.eq_nil_of_length_eq_zero (by omega)
      subst hb0
      rw [List.append_nil]
      repeat (first | refine Plan.assign rfl rfl rfl rfl ?_ | refine J.seq (J.region mixed hI (by kernel_rfl) ?_) | refine J.skip ?_)
      exact J.ret (Nrm.retC1 (key := 1000) () rfl rfl rfl trivial (Sub.refl _) Ent.one)
end Go.Proofs.Ytepgphflnelpoaa
end

section
set_option linter.unusedSimpArgs false
set_option linter.unusedVariables false
set_option maxRecDepth 20000
namespace Go.Proofs.Ytepgphflnelpoaa
open Go.Free Go.RowKit Go.Proofs

/-! ### The plain law -/
theorem shr15 (n : BitVec 16) : n >>> 15 = 0#16 ∨ n >>> 15 = 1#16 := by
  have := n.isLt
  have h : (n >>> 15).toNat = n.toNat / 2 ^ 15 := by rw [BitVec.toNat_ushiftRight, Nat.shiftRight_eq_div_pow]
  rcases Nat.lt_or_ge n.toNat (2 ^ 15) with h1 | h1
  · exact .inl (BitVec.eq_of_toNat_eq (by rw [h]; simp; omega))
  · exact .inr (BitVec.eq_of_toNat_eq (by rw [h]; simp; omega))
theorem xlc (a b c : BitVec 16) : a ^^^ (b ^^^ c) = b ^^^ (a ^^^ c) := by rw [← BitVec.xor_assoc, BitVec.xor_comm a b, BitVec.xor_assoc]
theorem step_xor (a b : BitVec 16) : crcStep (a ^^^ b) = crcStep a ^^^ crcStep b := by
  have h : (a ^^^ b) >>> 15 = (a >>> 15) ^^^ (b >>> 15) := by
    apply BitVec.eq_of_getElem_eq; intro i hi; simp
  have h2 : (a ^^^ b) <<< 1 = (a <<< 1) ^^^ (b <<< 1) := by
    apply BitVec.eq_of_getElem_eq; intro i hi; simp
    by_cases hh : i = 0 <;> simp [hh]
  have h3 : 0x1021#16 * ((a >>> 15) ^^^ (b >>> 15)) = (0x1021#16 * (a >>> 15)) ^^^ (0x1021#16 * (b >>> 15)) := by
    rcases shr15 a with h1 | h1 <;> rcases shr15 b with h2 | h2 <;> rw [h1, h2] <;> rfl
  simp only [crcStep, h, h2, h3]
  simp only [BitVec.xor_assoc]
  rw [xlc (b <<< 1)]
theorem steps_xor (k : Nat) (a b : BitVec 16) : crcSteps k (a ^^^ b) = crcSteps k a ^^^ crcSteps k b := by
  induction k with
  | zero => rfl
  | succ k ih => simp only [crcSteps, ih, step_xor]
theorem lift_xor (c d : UInt8) : lift16 (c ^^^ d) <<< 8 = (lift16 c <<< 8) ^^^ (lift16 d <<< 8) := by
  apply BitVec.eq_of_getElem_eq; intro i hi
  simp [lift16]
  by_cases hh : i < 8 <;> simp [hh]
theorem byte_xor (m n : BitVec 16) (c d : UInt8) : crcByte (m ^^^ n) (c ^^^ d) = crcByte m c ^^^ crcByte n d := by
  simp only [crcByte, lift_xor, ← steps_xor]
  congr 1
  simp only [BitVec.xor_assoc]
  rw [xlc n]
theorem from_xor : ∀ (a b : List UInt8) (m n : BitVec 16), a.length = b.length → crcFrom (m ^^^ n) (List.zipWith (· ^^^ ·) a b) = crcFrom m a ^^^ crcFrom n b
  | [], [], m, n, _ => rfl
  | [], _ :: _, _, _, h => by simp at h
  | _ :: _, [], _, _, h => by simp at h
  | x :: a, y :: b, m, n, h => by
    simp only [List.zipWith_cons_cons, crcFrom, List.foldl_cons, byte_xor]
    exact from_xor a b _ _ (by simpa using h)
theorem zip_zero : ∀ (a : List UInt8), List.zipWith (· ^^^ ·) a (List.replicate a.length (0 : UInt8)) = a
  | [] => rfl
  | x :: a => by simp [List.replicate_succ, zip_zero a]
theorem crc_linear (a b : List UInt8) (h : a.length = b.length) : crcOf (List.zipWith (· ^^^ ·) a b) = crcOf a ^^^ crcOf b ^^^ crcOf (List.replicate a.length 0) := by
  have hl : (List.zipWith (· ^^^ ·) a b).length = a.length := by simp [h]
  have h1 := from_xor (List.zipWith (· ^^^ ·) a b) (List.replicate a.length 0) (0xffff#16 ^^^ 0xffff#16) 0xffff#16 (by simp [h])
  rw [from_xor a b _ _ h] at h1
  rw [← hl, zip_zero, hl] at h1
  exact h1

theorem u8_xor (a b : UInt8) : IntKind.u8.wrap ((BitVec.ofInt IntKind.u8.bits (a.toNat : Int) ^^^ BitVec.ofInt IntKind.u8.bits (b.toNat : Int)).toNat : Int) = (a ^^^ b).toNat := by
  have ha := a.toNat_lt
  have hb := b.toNat_lt
  have h : (BitVec.ofInt IntKind.u8.bits (a.toNat : Int) ^^^ BitVec.ofInt IntKind.u8.bits (b.toNat : Int)).toNat = a.toNat ^^^ b.toNat := by
    show (BitVec.ofInt 8 (a.toNat : Int) ^^^ BitVec.ofInt 8 (b.toNat : Int)).toNat = _
    rw [BitVec.toNat_xor, ofInt_u8 _ ha, ofInt_u8 _ hb]
  rw [h, UInt8.toNat_xor]
  have : a.toNat ^^^ b.toNat < 2 ^ 8 := Nat.xor_lt_two_pow ha hb
  rw [IntKind.wrap_u8]; omega
end Go.Proofs.Ytepgphflnelpoaa
end

section
set_option linter.unusedSimpArgs false
set_option linter.unusedVariables false
set_option maxRecDepth 20000
namespace Go.Proofs.Ytepgphflnelpoaa
open Go.Free Go.RowKit Go.Proofs

theorem step_zero {n : BitVec 16} (h : crcStep n = 0#16) : n = 0#16 := by
  have hn := n.isLt
  rcases Nat.lt_or_ge (n.toNat * 2) 65536 with h1 | h1
  · have e := step_lo n (by omega)
    rw [h] at e
    apply BitVec.eq_of_toNat_eq
    have : (0#16).toNat = 0 := rfl
    omega
  · have e := step_hi n (by omega)
    rw [h] at e
    have h0 : (0#16).toNat = 0 := rfl
    rw [h0] at e
    have e2 : n.toNat * 2 - 65536 = 4129 := by
      have h3 : (n.toNat * 2 - 65536) ^^^ 4129 ^^^ 4129 = 0 ^^^ 4129 := by rw [← e]
      rw [Nat.xor_assoc, Nat.xor_self, Nat.xor_zero, Nat.zero_xor] at h3
      exact h3
    omega
theorem steps_zero : ∀ (k : Nat) {n : BitVec 16}, crcSteps k n = 0#16 → n = 0#16
  | 0, _, h => h
  | k + 1, _, h => steps_zero k (step_zero h)
theorem steps_add (j k : Nat) (n : BitVec 16) : crcSteps (j + k) n = crcSteps j (crcSteps k n) := by
  induction j with
  | zero => rw [Nat.zero_add]; rfl
  | succ j ih => rw [show j + 1 + k = (j + k) + 1 by omega]; simp only [crcSteps, ih]
theorem steps_of_zero (k : Nat) : crcSteps k 0#16 = 0#16 := by
  induction k with
  | zero => rfl
  | succ k ih => simp only [crcSteps, ih]; rfl
theorem steps_shift : ∀ (j : Nat) (x : BitVec 16), x.toNat * 2 ^ j < 65536 → (crcSteps j x).toNat = x.toNat * 2 ^ j
  | 0, x, _ => by simp [crcSteps]
  | j + 1, x, h => by
    rw [Nat.pow_succ, ← Nat.mul_assoc] at h
    have ih := steps_shift j x (by omega)
    simp only [crcSteps]
    rw [step_lo _ (by rw [ih]; omega), ih, Nat.pow_succ, Nat.mul_assoc]
theorem from_append (m : BitVec 16) (a b : List UInt8) : crcFrom m (a ++ b) = crcFrom (crcFrom m a) b := by simp [crcFrom]
theorem from_zeros (n : BitVec 16) : ∀ q, crcFrom n (List.replicate q 0) = crcSteps (8 * q) n
  | 0 => rfl
  | q + 1 => by
    rw [List.replicate_succ', from_append, from_zeros n q]
    show crcByte (crcSteps (8 * q) n) 0 = _
    have h0 : lift16 0 <<< 8 = 0#16 := by decide
    simp only [crcByte, h0, BitVec.xor_zero]
    rw [← steps_add]; congr 1; omega
/-- The bit at a place, in its byte. -/
def bitAt (pos : Nat) : UInt8 := UInt8.ofNat (2 ^ (7 - pos % 8))
def flipAt (l : List UInt8) (pos : Nat) : List UInt8 := l.set (pos / 8) (l.getD (pos / 8) 0 ^^^ bitAt pos)
theorem flip_length (l : List UInt8) (pos : Nat) : (flipAt l pos).length = l.length := by simp [flipAt]
theorem one_steps (j : Nat) (h : j < 16) : (crcSteps j 1#16).toNat = 2 ^ j := by
  have h1 : (1#16).toNat = 1 := rfl
  have h2 : 2 ^ j ≤ 2 ^ 15 := Nat.pow_le_pow_right (by decide) (by omega)
  rw [steps_shift j _ (by rw [h1]; omega), h1, Nat.one_mul]
theorem bit_byte (pos : Nat) : lift16 (bitAt pos) <<< 8 = crcSteps (15 - pos % 8) 1#16 := by
  apply BitVec.eq_of_toNat_eq
  rw [one_steps _ (by omega)]
  have h : 2 ^ (7 - pos % 8) ≤ 2 ^ 7 := Nat.pow_le_pow_right (by decide) (by omega)
  have hb : (bitAt pos).toNat = 2 ^ (7 - pos % 8) := by unfold bitAt; rw [UInt8.toNat_ofNat']; exact Nat.mod_eq_of_lt (by omega)
  simp only [lift16, BitVec.toNat_shiftLeft, BitVec.toNat_setWidth, UInt8.toNat_toBitVec, hb, Nat.shiftLeft_eq]
  rw [show 15 - pos % 8 = (7 - pos % 8) + 8 by omega, Nat.pow_add]
  omega
theorem set_split {l : List UInt8} {j : Nat} (h : j < l.length) (c : UInt8) : l.set j c = l.take j ++ c :: l.drop (j + 1) := List.set_eq_take_append_cons_drop .. |>.trans (by simp [h])
/-- What one turned bit does to the check. -/
theorem from_flip (m : BitVec 16) (l : List UInt8) (pos : Nat) (h : pos < 8 * l.length) : crcFrom m (flipAt l pos) = crcFrom m l ^^^ crcSteps (8 * l.length + 15 - pos) 1#16 := by
  have hj : pos / 8 < l.length := by omega
  obtain ⟨j, hjd⟩ : ∃ j, j = pos / 8 := ⟨_, rfl⟩
  rw [← hjd] at hj
  have hl : l = l.take j ++ l.getD j 0 :: l.drop (j + 1) := by
    have := List.take_append_drop j l
    rw [List.drop_eq_getElem_cons hj] at this
    simp [List.getD_eq_getElem?_getD, List.getElem?_eq_getElem hj]
  obtain ⟨r, hr⟩ : ∃ r, r = l.drop (j + 1) := ⟨_, rfl⟩
  have hrl : r.length = l.length - (j + 1) := by rw [hr, List.length_drop]
  have e1 : crcFrom m (flipAt l pos) = crcFrom (crcByte (crcFrom m (l.take j)) (l.getD j 0 ^^^ bitAt pos)) r := by
    unfold flipAt; rw [← hjd, set_split hj, from_append, ← hr]; rfl
  have e2 : crcFrom m l = crcFrom (crcByte (crcFrom m (l.take j)) (l.getD j 0)) r := by
    conv => lhs; rw [hl]
    rw [from_append, ← hr]; rfl
  have e3 : crcByte (crcFrom m (l.take j)) (l.getD j 0 ^^^ bitAt pos) = crcByte (crcFrom m (l.take j)) (l.getD j 0) ^^^ crcSteps (23 - pos % 8) 1#16 := by
    have := byte_xor (crcFrom m (l.take j)) 0#16 (l.getD j 0) (bitAt pos)
    rw [BitVec.xor_zero] at this
    rw [this]
    congr 1
    simp only [crcByte, BitVec.zero_xor, bit_byte]
    rw [← steps_add]; congr 1; omega
  have e4 := from_xor r (List.replicate r.length 0) (crcByte (crcFrom m (l.take j)) (l.getD j 0)) (crcSteps (23 - pos % 8) 1#16) (by simp)
  rw [zip_zero, from_zeros, ← steps_add] at e4
  rw [e1, e2, e3, e4]
  congr 2
  omega
/-- The highest i bits of a number. -/
def topBits (t : BitVec 16) : Nat → BitVec 16
  | 0 => 0#16
  | i + 1 => if t.getLsbD (15 - i) then topBits t i ^^^ crcSteps (15 - i) 1#16 else topBits t i
theorem steps_one (j : Nat) (h : j < 16) : crcSteps j 1#16 = BitVec.twoPow 16 j := by
  apply BitVec.eq_of_toNat_eq
  rw [one_steps j h, BitVec.toNat_twoPow]
  have h2 : 2 ^ j ≤ 2 ^ 15 := Nat.pow_le_pow_right (by decide) (by omega)
  exact (Nat.mod_eq_of_lt (by omega)).symm
theorem top_bit (t : BitVec 16) : ∀ i, i ≤ 16 → ∀ b, (topBits t i).getLsbD b = (decide (16 - i ≤ b) && t.getLsbD b)
  | 0, _, b => by
    simp only [topBits, BitVec.getLsbD_zero, Nat.sub_zero]
    by_cases hb : 16 ≤ b
    · rw [BitVec.getLsbD_of_ge _ _ hb]; simp
    · simp [hb]
  | i + 1, hi, b => by
    have ih := top_bit t i (by omega) b
    unfold topBits
    by_cases ht : t.getLsbD (15 - i) = true
    · rw [if_pos ht, BitVec.getLsbD_xor, ih, steps_one _ (by omega), BitVec.getLsbD_twoPow]
      by_cases hb : b = 15 - i
      · subst hb
        have h1 : ¬ (16 - i ≤ 15 - i) := by omega
        have h3 : 15 - i < 16 := by omega
        simp [h1, h3, ht]
      · have h1 : (16 - (i + 1) ≤ b) ↔ (16 - i ≤ b) := by omega
        have h2 : ¬ (15 - i = b) := fun h => hb h.symm
        have hd : decide (16 - (i + 1) ≤ b) = decide (16 - i ≤ b) := decide_eq_decide.2 h1
        rw [hd]
        simp [h2]
    · rw [if_neg ht, ih]
      by_cases hb : b = 15 - i
      · subst hb
        have hf : t.getLsbD (15 - i) = false := by simpa using ht
        simp [hf]
      · have h1 : (16 - (i + 1) ≤ b) ↔ (16 - i ≤ b) := by omega
        have hd : decide (16 - (i + 1) ≤ b) = decide (16 - i ≤ b) := decide_eq_decide.2 h1
        rw [hd]
theorem top_all (t : BitVec 16) : topBits t 16 = t := by
  apply BitVec.eq_of_getLsbD_eq
  intro b _
  rw [top_bit t 16 (Nat.le_refl _)]
  simp
/-- Sealed bytes are opened just where the check of them all is nought. -/
theorem join_xor (a b : UInt8) : join16 a b = (lift16 a <<< 8) ^^^ lift16 b := by
  unfold join16
  apply BitVec.eq_of_getElem_eq; intro i hi
  simp only [lift16, BitVec.getElem_or, BitVec.getElem_xor, BitVec.getElem_shiftLeft, BitVec.getElem_setWidth]
  by_cases h : i < 8
  · simp [h]
  · have : b.toBitVec.getLsbD i = false := BitVec.getLsbD_of_ge _ _ (by omega)
    simp [h, this]
theorem lift_steps (b : UInt8) : lift16 b <<< 8 = crcSteps 8 (lift16 b) := by
  have hb := b.toNat_lt
  have e : (lift16 b).toNat = b.toNat := by
    simp only [lift16, BitVec.toNat_setWidth, UInt8.toNat_toBitVec]; omega
  apply BitVec.eq_of_toNat_eq
  rw [steps_shift 8 _ (by rw [e]; omega), BitVec.toNat_shiftLeft, Nat.shiftLeft_eq, e]
  omega
theorem two_bytes (m : BitVec 16) (a b : UInt8) : crcByte (crcByte m a) b = crcSteps 16 (m ^^^ join16 a b) := by
  simp only [crcByte]
  rw [lift_steps b, ← steps_xor, ← steps_add, join_xor, BitVec.xor_assoc]
theorem fits_zero (l : List UInt8) (h : 2 ≤ l.length) : (crcOpen l).isSome = true ↔ crcOf l = 0#16 := by
  obtain ⟨a, ha⟩ : ∃ a, a = l.getD (l.length - 2) 0 := ⟨_, rfl⟩
  obtain ⟨b, hb⟩ : ∃ b, b = l.getD (l.length - 1) 0 := ⟨_, rfl⟩
  have hsplit : l = l.take (l.length - 2) ++ [a, b] := by
    have h1 : l.drop (l.length - 2) = [a, b] := by
      rw [ha, hb, List.drop_eq_getElem_cons (by omega), List.drop_eq_getElem_cons (by omega), List.drop_of_length_le (by omega)]
      simp only [List.getD_eq_getElem?_getD]
      rw [List.getElem?_eq_getElem (by omega), List.getElem?_eq_getElem (by omega)]
      simp only [Option.getD_some, List.cons.injEq, and_true, true_and]
      congr 1; omega
    have := List.take_append_drop (l.length - 2) l
    rw [h1] at this; exact this.symm
  have hc : crcOf l = crcSteps 16 (crcOf (l.take (l.length - 2)) ^^^ join16 a b) := by
    rw [← two_bytes]
    conv => lhs; rw [hsplit]
    unfold crcOf
    rw [from_append]; rfl
  unfold crcOpen
  rw [← ha, ← hb, hc]
  constructor
  · intro hs
    split at hs
    · rename_i g
      rw [g.2, BitVec.xor_self, steps_of_zero]
    · cases hs
  · intro hz
    have hx := steps_zero 16 hz
    have he : crcOf (l.take (l.length - 2)) = join16 a b := by
      have h2 : crcOf (l.take (l.length - 2)) ^^^ join16 a b ^^^ join16 a b = 0#16 ^^^ join16 a b := by rw [hx]
      rw [BitVec.xor_assoc, BitVec.xor_self, BitVec.xor_zero, BitVec.zero_xor] at h2
      exact h2
    rw [if_pos ⟨h, he⟩]; rfl
end Go.Proofs.Ytepgphflnelpoaa
end

section
set_option linter.unusedSimpArgs false
set_option linter.unusedVariables false
set_option maxRecDepth 20000
namespace Go.Proofs.Ytepgphflnelpoaa
open Go.Free Go.RowKit Go.Proofs
set_option maxHeartbeats 2000000

theorem disk_Replace (β : Nat) (l : List UInt8) (f r : Nat) (b : List UInt8) (hr : r ≤ 65536) (hb : b.length ≤ 140737488300000) : SpcC Try.prog 11 [.ex (ptr β), bytesF b] (diskC β l f r) (fun _ : Unit => True)
    (fun _ => .ex (.int .i64 (if b.length ≤ r then 0 else 9))) (fun _ => if b.length ≤ r then diskC β b b.length r else diskC β l f r) := by
  refine SpcC.intro Try.func11 rfl (Nat.le_of_ble_eq_true rfl) fun w0 F => ?_
  have hI := kept_below F w0
  have hA := Own.kept F w0
  repeat (first | refine Plan.move rfl rfl rfl rfl ?_ | refine Plan.assign rfl rfl rfl rfl ?_ | refine Plan.lenB rfl rfl rfl rfl (by exact Sub.refl _) Try.underlying27 ?_ | refine J.seq (J.region mixed hI (by kernel_rfl) ?_) | refine J.seq (J.seq (J.region mixed hI (by kernel_rfl) ?_)))
  refine Plan.callR (key := 1000) (B := 0) (q := 0) rfl rfl rfl (disk_Room β l f r) Try.func31 rfl rfl (fun _ _ => Nat.zero_le _) (by repeat (first | exact Opnds.nil | refine Opnds.cons rfl (by exact Sub.refl _) ?_)) rfl rfl (by decide) ?_
  repeat ((refine Plan.ints rfl rfl rfl rfl rfl rfl ?_; (skip)))
  refine J.condD rfl (fun h => ?_) (fun h => ?_)
  · have h' : ¬ b.length ≤ r := by omega
    rw [if_neg h', if_neg h']
    repeat (first | refine Plan.assign rfl rfl rfl rfl ?_ | refine J.seq (J.region mixed hI (by kernel_rfl) ?_))
    exact J.ret (Nrm.retC1 (key := 1000) () rfl rfl rfl trivial (Sub.refl _) Ent.one)
  · have h' : b.length ≤ r := by omega
    rw [if_pos h', if_pos h']
    repeat (first | refine Plan.move rfl rfl rfl rfl ?_ | refine Plan.neqPtr rfl rfl rfl rfl (by kernel_rfl) ?_ | refine J.seq (J.region mixed hI (by kernel_rfl) ?_) | refine J.seq (J.seq (J.region mixed hI (by kernel_rfl) ?_)) | refine J.condT rfl ?_ | refine J.skip ?_)
    refine Plan.exC (by kernel_rfl) hI (key := 1000) (q := 0) rfl rfl fun x => ?_
    refine Plan.sepC (by kernel_rfl) hI (key := 1000) (q := 0) rfl rfl ?_
    refine Plan.callO (key := 1000) rfl rfl rfl (bytes_Clone b (by omega)) (fun _ => rfl) Try.func32 rfl rfl (by intro _ e; cases e; decide) (by repeat (first | exact Opnds.nil | refine Opnds.cons rfl (by exact Sub.refl _) ?_)) rfl hA fun B m cap hm => ?_
    obtain rfl : m = b.length := by rw [bs_length] at hm; omega
    repeat (first | refine Plan.nilOk rfl rfl rfl rfl ?_ | refine Plan.fieldC rfl rfl rfl rfl (by exact Try.underlying74) rfl (by kernel_rfl) (by exact (rfl : _ = 0)) ?_)
    refine Plan.storeC (key := 1000) (q := 0) rfl rfl rfl rfl rfl rfl (by simp [Value.cells, Value.oneCell']) (by kernel_rfl) rfl hA rfl (obj_pat1 (Nat.le_of_ble_eq_true rfl)) ?_
    refine J.regroup (key := 1000) [diskC β b f r] rfl ((Ent.sep (Ent.refl _) Ent.right).trans ((disk_close (l := b) (B := B) (cap := cap)).trans Ent.addEmp)) ?_
    repeat (first | refine Plan.move rfl rfl rfl rfl ?_ | refine J.region mixed hI (by kernel_rfl) ?_)
    refine Plan.callC (key := 1000) (q := 0) rfl rfl rfl (disk_Sync β b f r) Try.func33 rfl rfl (by intro _ e; cases e; decide) (by repeat (first | exact Opnds.nil | refine Opnds.cons rfl (by exact Sub.refl _) ?_)) rfl hA rfl ?_
    intro _ _
    repeat (first | refine Plan.assign rfl rfl rfl rfl ?_ | refine J.seq (J.region mixed hI (by kernel_rfl) ?_))
    exact J.ret (Nrm.retC1 (key := 1000) () rfl rfl rfl trivial (Sub.refl _) Ent.one)

theorem disk_Cut (β : Nat) (l : List UInt8) (f r : Nat) (n : Int) (hl : l.length ≤ 65536) (hn : -9223372036854775808 ≤ n ∧ n ≤ 9223372036854775807) : SpcC Try.prog 36 [.ex (ptr β), .ex (.int .i64 n)] (diskC β l f r) (fun _ : Unit => True)
    (fun _ => .ex (.int .i64 (if 0 ≤ n ∧ n ≤ l.length then 0 else 1))) (fun _ => if 0 ≤ n ∧ n ≤ l.length then diskC β (l.take n.toNat) n.toNat r else diskC β l f r) := by
  refine SpcC.intro Try.func36 rfl (Nat.le_of_ble_eq_true rfl) fun w0 F => ?_
  have hI := kept_below F w0
  have hA := Own.kept F w0
  repeat (first | refine Plan.move rfl rfl rfl rfl ?_ | refine Plan.assign rfl rfl rfl rfl ?_ | (refine Plan.ints rfl rfl rfl rfl rfl rfl ?_; (skip)) | refine J.seq (J.region mixed hI (by kernel_rfl) ?_) | refine J.seq (J.seq (J.region mixed hI (by kernel_rfl) ?_)))
  refine Plan.splitD (fun hn0 => ?_) (fun hn0 => ?_)
  · have h' : ¬ (0 ≤ n ∧ n ≤ l.length) := by omega
    rw [if_neg h', if_neg h']
    repeat (first | refine Plan.assign rfl rfl rfl rfl ?_ | refine Plan.skip rfl rfl ?_ | refine Plan.pick rfl rfl rfl rfl rfl ?_ | refine J.seq (J.region mixed hI (by kernel_rfl) ?_) | refine J.condT rfl ?_)
    exact J.ret (Nrm.retC1 (key := 1000) () rfl rfl rfl trivial (Sub.refl _) Ent.one)
  repeat (refine Plan.move rfl rfl rfl rfl ?_)
  refine Plan.callR (key := 1000) (B := 0) (q := 0) rfl rfl rfl (disk_Bytes β l f r (by omega)) Try.func13 rfl rfl (fun _ _ => Nat.zero_le _) (by repeat (first | exact Opnds.nil | refine Opnds.cons rfl (by exact Sub.refl _) ?_)) rfl rfl (by decide) ?_
  repeat (first | refine Plan.pick rfl rfl rfl rfl rfl ?_ | (refine Plan.ints rfl rfl rfl rfl rfl rfl ?_; (skip)) | refine Plan.lenB rfl rfl rfl rfl (by exact Sub.own) Try.underlying27 ?_)
  refine J.condD rfl (fun h => ?_) (fun h => ?_)
  · have h' : ¬ (0 ≤ n ∧ n ≤ l.length) := by omega
    rw [if_neg h', if_neg h']
    repeat (first | refine Plan.assign rfl rfl rfl rfl ?_ | refine J.seq (J.region mixed hI (by kernel_rfl) ?_))
    exact J.ret (Nrm.retC1 (key := 1000) () rfl rfl rfl trivial (Sub.refl _) Ent.one)
  have h' : 0 ≤ n ∧ n ≤ l.length := by omega
  rw [if_pos h', if_pos h']
  obtain ⟨m, rfl⟩ : ∃ m : Nat, n = m := ⟨n.toNat, by omega⟩
  rw [Int.toNat_natCast]
  have hml : m ≤ l.length := by omega
  have htl : (l.take m).length = m := by rw [List.length_take]; omega
  repeat (first | refine Plan.move rfl rfl rfl rfl ?_ | refine Plan.nilOk rfl rfl rfl rfl ?_ | refine Plan.fieldC rfl rfl rfl rfl (by exact Try.underlying74) rfl (by kernel_rfl) (by exact (rfl : _ = 0)) ?_ | refine Plan.neqPtr rfl rfl rfl rfl (by kernel_rfl) ?_ | refine J.seq (J.region mixed hI (by kernel_rfl) ?_) | refine J.seq (J.seq (J.region mixed hI (by kernel_rfl) ?_)) | refine J.condT rfl ?_ | refine J.skip ?_)
  refine Plan.exC (by kernel_rfl) hI (key := 1000) (q := 0) rfl rfl fun x => ?_
  refine Plan.sepC (by kernel_rfl) hI (key := 1000) (q := 0) rfl rfl ?_
  refine Plan.factC (by kernel_rfl) hI (key := 1000) (q := 1) rfl rfl (fun w F hh => row_fact hh) fun hf => ?_
  repeat (first | refine Plan.move rfl rfl rfl rfl ?_ | refine Plan.loadC (key := 1000) (q := 0) rfl rfl rfl rfl rfl rfl (obj_reads1 rfl) (by first | exact Try.underlying3 | exact Try.underlying27) (by rfl) (by decide) ?_)
  refine Plan.sliceHi rfl rfl rfl rfl eltB rfl (by omega) ?_
  repeat (first | refine Plan.nilOk rfl rfl rfl rfl ?_ | refine Plan.fieldC rfl rfl rfl rfl (by exact Try.underlying74) rfl (by kernel_rfl) (by exact (rfl : _ = 0)) ?_)
  refine Plan.storeC (key := 1000) (q := 0) rfl rfl rfl rfl rfl rfl (by simp [Value.cells, Value.oneCell']) (by kernel_rfl) rfl hA rfl (obj_pat1 (Nat.le_of_ble_eq_true rfl)) ?_
  refine J.convC (key := 1000) (q := 1) rfl rfl (Ent.rowCut hml) ?_
  have hbt : List.take (m * 1) (bs l) = bs (l.take m) := by simp [bs, List.map_take]
  rw [hbt]
  have hC : Ent (allC [obj β [.slice x.1 m x.2, .int .i64 f, .int .i64 r], rowC 5 1 x.1 m x.2 (bs (l.take m))]) (diskC β (l.take m) f r) := by
    have h9 := disk_close (l := l.take m) (B := x.1) (cap := x.2) (f := f) (r := r) (β := β)
    simp only [rowB, htl] at h9
    exact h9
  refine J.regroup (key := 1000) [diskC β (l.take m) f r] rfl (hC.trans Ent.addEmp) ?_
  repeat (first | refine Plan.move rfl rfl rfl rfl ?_ | refine J.region mixed hI (by kernel_rfl) ?_)
  refine Plan.callC (key := 1000) (q := 0) rfl rfl rfl (disk_Sync β (l.take m) f r) Try.func33 rfl rfl (by intro _ e; cases e; decide) (by repeat (first | exact Opnds.nil | refine Opnds.cons rfl (by exact Sub.refl _) ?_)) rfl hA rfl ?_
  intro _ _
  rw [htl]
  repeat (first | refine Plan.assign rfl rfl rfl rfl ?_ | refine J.seq (J.region mixed hI (by kernel_rfl) ?_))
  exact J.ret (Nrm.retC1 (key := 1000) () rfl rfl rfl trivial (Sub.refl _) Ent.one)

theorem disk_rest (x y : Int) (hy : 0 < y ∧ y ≤ 4611686018427387904) : Spc Try.prog 41 [.ex (.int .i64 x), .ex (.int .i64 y)] fun _ => .ex (.int .i64 (x % y)) := by
  refine Spc.intro Try.func41 rfl (Nat.le_of_ble_eq_true rfl) fun w0 => ?_
  have hI := hIb w0
  repeat (first | refine Plan.move rfl rfl rfl rfl ?_ | refine Plan.assign rfl rfl rfl rfl ?_ | refine J.seq (J.region mixed hI (by kernel_rfl) ?_))
  refine Plan.ints (v := .int .i64 (x.tmod y)) rfl rfl rfl rfl rfl (by simp only [intVal]; rw [if_neg (by omega)]) ?_
  have h1 : x.tmod y < y := Int.tmod_lt_of_pos x (by omega)
  have h2 : -y < x.tmod y := by have := Int.lt_tmod_of_pos x (b := y) (by omega); exact this
  refine Plan.move rfl rfl rfl rfl ?_
  refine Plan.ints rfl rfl rfl rfl rfl rfl ?_
  refine Plan.int (i64r (by omega)) ?_
  refine Plan.move rfl rfl rfl rfl ?_
  refine Plan.ints (v := .int .i64 (x % y)) rfl rfl rfl rfl rfl (by
    simp only [intVal]; rw [if_neg (by omega)]
    have : (x.tmod y + y).tmod y = x % y := by
      rw [Int.tmod_eq_emod_of_nonneg (by omega), Int.add_emod_right]
      rw [← Int.emod_emod_of_dvd x (Int.dvd_refl y)]
      have h3 : x.tmod y = x - y * (x.tdiv y) := Int.tmod_def x y
      rw [h3, Int.sub_mul_emod_self_left, Int.emod_emod_of_dvd x (Int.dvd_refl y)]
    rw [this]) ?_
  repeat (refine Plan.assign rfl rfl rfl rfl ?_)
  exact J.ret (Nrm.ret1 rfl (fun _ h => h) rfl fun B _ => Sub.refl _)
end Go.Proofs.Ytepgphflnelpoaa
end

section
set_option linter.unusedSimpArgs false
set_option linter.unusedVariables false
set_option maxRecDepth 20000
namespace Go.Free
open Go.RowKit

/-- The operations whose values are given: their numbers, and the values. -/
def lookV : List (Nat × Value) → Nat → Option Value
  | [], _ => none
  | (u, v) :: r, i => if u = i then some v else lookV r i
def substO (us : List (Nat × Value)) (i : Nat) (o : Oper) : Oper :=
  match lookV us i with
  | some v => { o with op := .assign (.const v), guard := none, pos := "given" }
  | none => o
def substL (us : List (Nat × Value)) : Nat → List Oper → List Oper
  | _, [] => []
  | k, o :: r => substO us k o :: substL us (k + 1) r
def subst (us : List (Nat × Value)) (ops : Array Oper) : Array Oper := (substL us 0 ops.toList).toArray
theorem substL_get (us : List (Nat × Value)) : ∀ (l : List Oper) (k i : Nat), (substL us k l)[i]? = (l[i]?).map (substO us (k + i))
  | [], k, i => by simp [substL]
  | o :: r, k, 0 => by simp [substL]
  | o :: r, k, i + 1 => by
    simp only [substL, List.getElem?_cons_succ]
    rw [substL_get us r (k + 1) i, show k + 1 + i = k + (i + 1) by omega]
theorem subst_get (us : List (Nat × Value)) (ops : Array Oper) (i : Nat) : (subst us ops)[i]? = (ops[i]?).map (substO us i) := by
  unfold subst
  rw [List.getElem?_toArray, substL_get, Array.getElem?_toList, Nat.zero_add]
theorem substL_length (us : List (Nat × Value)) : ∀ (l : List Oper) (k : Nat), (substL us k l).length = l.length
  | [], _ => rfl
  | o :: r, k => by simp [substL, substL_length us r (k + 1)]
theorem subst_dst (us : List (Nat × Value)) (ops : Array Oper) (i : Nat) : dst (subst us ops) i = dst ops i := by
  unfold dst
  rw [subst_get]
  cases ops[i]? with
  | none => rfl
  | some o => simp only [Option.map_some, Option.bind_some, substO]; split <;> rfl
theorem subst_before (us : List (Nat × Value)) (ops : Array Oper) : Region.before (subst us ops) = Region.before ops := by
  have key : ∀ (l : List Oper) (k : Nat) (acc : Array Nat), (substL us k l).foldl (fun acc o => acc.push (o.after.foldl (fun s e => if Region.binds .any e then s ||| 2 ^ e.on ||| acc.getD e.on 0 else s) 0)) acc =
      l.foldl (fun acc o => acc.push (o.after.foldl (fun s e => if Region.binds .any e then s ||| 2 ^ e.on ||| acc.getD e.on 0 else s) 0)) acc := by
    intro l
    induction l with
    | nil => intro k acc; rfl
    | cons o l ih =>
      intro k acc
      simp only [substL, List.foldl_cons]
      have ha : (substO us k o).after = o.after := by unfold substO; split <;> rfl
      rw [ha, ih]
  unfold Region.before
  rw [← Array.foldl_toList, ← Array.foldl_toList]
  unfold subst
  rw [List.toList_toArray]
  exact key _ _ _
/-- Each given one writes a slot that is there, which no other one writes, and who looks at it stands behind; none is marked but these. -/
def looseB (us : List (Nat × Value)) (ops : Array Oper) (n : Nat) : Bool :=
  (ops.all fun o => o.pos != "given") && us.all fun p =>
    match dst ops p.1 with
    | none => false
    | some d => decide (d < n) && (List.range ops.size).all fun j => (j == p.1 || dst ops j != some d) && (!(looks (subst us ops) j).contains d || ((Region.before ops).getD j 0).testBit p.1)
theorem lookV_mem {us : List (Nat × Value)} {i : Nat} {v : Value} (h : lookV us i = some v) : (i, v) ∈ us := by
  induction us with
  | nil => cases h
  | cons p r ih =>
    obtain ⟨u, x⟩ := p
    simp only [lookV] at h
    by_cases he : u = i
    · rw [if_pos he] at h; cases h; subst he; exact List.mem_cons_self
    · rw [if_neg he] at h; exact List.mem_cons_of_mem _ (ih h)
theorem given_pos {o : Oper} {d : Nat} {v : Value} (h : given o = some (d, v)) : o.pos = "given" := by
  unfold given at h
  split at h
  · split at h
    · rename_i hp; simpa using hp
    · cases h
  · cases h
theorem gv_subst {us : List (Nat × Value)} {ops : Array Oper} {n : Nat} (hB : looseB us ops n = true) {u d : Nat} {v : Value} (h : gv (subst us ops) u = some (d, v)) : lookV us u = some v ∧ dst ops u = some d := by
  unfold gv at h
  rw [subst_get] at h
  cases ho : ops[u]? with
  | none => rw [ho] at h; cases h
  | some o =>
    rw [ho] at h
    have h' : given (substO us u o) = some (d, v) := h
    simp only [looseB, Bool.and_eq_true] at hB
    unfold substO at h'
    cases hl : lookV us u with
    | none =>
      rw [hl] at h'
      have h1 := Array.all_eq_true_iff_forall_mem.1 hB.1 o (Array.mem_of_getElem? ho)
      rw [bne_iff_ne] at h1
      exact absurd (given_pos h') h1
    | some v' =>
      rw [hl] at h'
      obtain ⟨h1, h2, _⟩ := given_spec h'
      simp only [Op.assign.injEq, Operand.const.injEq] at h2
      exact ⟨by rw [h2], by simp only [dst, ho, Option.bind_some]; exact h1⟩
theorem subst_rel {us : List (Nat × Value)} {ops : Array Oper} {n : Nat} (hB : looseB us ops n = true) (ht : tidy ops n = true) (ht2 : tidy (subst us ops) n = true) : Rel ops (subst us ops) n := by
  have hB' := hB
  simp only [looseB, Bool.and_eq_true, List.all_eq_true] at hB'
  have hsz : (subst us ops).size = ops.size := by unfold subst; rw [List.size_toArray, substL_length, Array.length_toList]
  have hall : ∀ u d v, gv (subst us ops) u = some (d, v) → d < n ∧ ∀ j, (j ≠ u → dst ops j ≠ some d) ∧ (d ∈ looks (subst us ops) j → ((Region.before ops).getD j 0).testBit u = true) := fun u d v hg => by
    obtain ⟨h1, h2⟩ := gv_subst hB hg
    have h3 := hB'.2 (u, v) (lookV_mem h1)
    simp only [h2, Bool.and_eq_true, decide_eq_true_eq, List.all_eq_true, List.mem_range] at h3
    refine ⟨h3.1, fun j => ?_⟩
    by_cases hj : j < ops.size
    · have h4 := h3.2 j hj
      simp only [Bool.or_eq_true, beq_iff_eq, bne_iff_ne, ne_eq, Bool.not_eq_true', List.contains_eq_mem, decide_eq_false_iff_not] at h4
      refine ⟨fun hne => ?_, fun hm => ?_⟩
      · rcases h4.1 with h5 | h5
        · exact absurd h5 hne
        · exact h5
      · rcases h4.2 with h5 | h5
        · exact absurd hm h5
        · exact h5
    · refine ⟨fun _ => by simp [dst, Array.getElem?_eq_none (show ops.size ≤ j by omega)], fun hm => ?_⟩
      have : (subst us ops)[j]? = none := Array.getElem?_eq_none (by omega)
      simp [looks, this] at hm
  refine ⟨hsz, fun i hf => ?_, subst_dst us ops, subst_before us ops, ht2, ht, ⟨fun u d v hg => (hall u d v hg).1, fun u d v hg j hne => by rw [subst_dst]; exact ((hall u d v hg).2 j).1 hne, fun u d v hg j hm => by rw [subst_before]; exact ((hall u d v hg).2 j).2 hm⟩⟩
  rw [subst_get]
  cases ho : ops[i]? with
  | none => rfl
  | some o =>
    simp only [Option.map_some, Option.some.injEq]
    cases hl : lookV us i with
    | none => simp [substO, hl]
    | some v =>
      exfalso
      have h3 := hB'.2 (i, v) (lookV_mem hl)
      cases hd : dst ops i with
      | none => simp [hd] at h3
      | some d =>
        have hod : o.dst = some d := by simpa [dst, ho] using hd
        have : gv (subst us ops) i = some (d, v) := by
          unfold gv
          rw [subst_get, ho]
          simp [substO, hl, given, hod]
        rw [free_of this] at hf; cases hf
/-- What is given, as facts. -/
def factsU (ops : Array Oper) : List (Nat × Value) → Env
  | [] => []
  | (u, v) :: r => match dst ops u with | some d => (d, .ex v) :: factsU ops r | none => factsU ops r
/-- Those of them that stand ahead of an operation. -/
def aheadU (ops : Array Oper) (us : List (Nat × Value)) (i : Nat) : List (Nat × Value) := us.filter fun p => ((Region.before ops).getD i 0).testBit p.1
def putU (ops : Array Oper) : List (Nat × Value) → Act → Act
  | [], a => a
  | (u, v) :: r, a => (putU ops r a).put (dst ops u) v
theorem putU_sh {ops : Array Oper} {n : Nat} {a : Act} (h : Sh n a) : ∀ us, Sh n (putU ops us a)
  | [] => h
  | (u, v) :: r => (putU_sh h r).put _ _
section
variable {P : Program} {ops : Array Oper} {Q : Exit → Act → World → Prop} {n : Nat} {I : World → Prop} {Es E : Env} {us : List (Nat × Value)}
/-- The given values are computed, whenever those ahead are there. -/
def Gives (P : Program) (ops : Array Oper) (Q : Exit → Act → World → Prop) (n : Nat) (I : World → Prop) (us : List (Nat × Value)) (Es : Env) : List (Nat × Value) → Prop
  | [] => True
  | (u, v) :: r => (barB ops u = false ∧ ∀ d, dst ops u = some d → Plan P ops (Qd Q (fun a _ => a.slot d = v)) n I true 1 u (factsU ops (aheadU ops us u) ++ Es)) ∧ Gives P ops Q n I us Es r
theorem Gives.mem {r : List (Nat × Value)} (h : Gives P ops Q n I us Es r) {u : Nat} {v : Value} (hm : (u, v) ∈ r) : barB ops u = false ∧ ∀ d, dst ops u = some d → Plan P ops (Qd Q (fun a _ => a.slot d = v)) n I true 1 u (factsU ops (aheadU ops us u) ++ Es) := by
  induction r with
  | nil => cases hm
  | cons p r ih =>
    obtain ⟨u', v'⟩ := p
    rcases List.mem_cons.1 hm with he | hm
    · cases he; exact h.1
    · exact ih h.2 hm
theorem look_factsU {t : Nat} {f : Fa} : ∀ {l : List (Nat × Value)}, look (factsU ops l ++ E) t = some f → (∃ u v, (u, v) ∈ l ∧ dst ops u = some t ∧ f = .ex v) ∨ look E t = some f
  | [], h => .inr h
  | (u, v) :: r, h => by
    simp only [factsU] at h
    cases hd : dst ops u with
    | none =>
      rw [hd] at h
      exact (look_factsU h).imp (fun ⟨u', v', hm, h1⟩ => ⟨u', v', List.mem_cons_of_mem _ hm, h1⟩) id
    | some d =>
      rw [hd] at h
      simp only [List.cons_append, look] at h
      by_cases hdt : d = t
      · rw [if_pos hdt] at h
        cases h
        exact .inl ⟨u, v, List.mem_cons_self, by rw [hd, hdt], rfl⟩
      · rw [if_neg hdt] at h
        exact (look_factsU h).imp (fun ⟨u', v', hm, h1⟩ => ⟨u', v', List.mem_cons_of_mem _ hm, h1⟩) id
theorem look_factsIn {t u : Nat} {v : Value} {f : Fa} : ∀ {l : List (Nat × Value)}, (u, v) ∈ l → dst ops u = some t → look (factsU ops l ++ E) t = some f → ∃ u v, (u, v) ∈ l ∧ dst ops u = some t ∧ f = .ex v
  | (u2, v2) :: r, hm, hd, h => by
    simp only [factsU] at h
    cases hd2 : dst ops u2 with
    | none =>
      rw [hd2] at h
      rcases List.mem_cons.1 hm with he | hm
      · cases he; rw [hd] at hd2; cases hd2
      · obtain ⟨u', v', h1, h2⟩ := look_factsIn hm hd h
        exact ⟨u', v', List.mem_cons_of_mem _ h1, h2⟩
    | some d2 =>
      rw [hd2] at h
      simp only [List.cons_append, look] at h
      by_cases hdt : d2 = t
      · rw [if_pos hdt] at h
        cases h
        exact ⟨u2, v2, List.mem_cons_self, by rw [hd2, hdt], rfl⟩
      · rw [if_neg hdt] at h
        rcases List.mem_cons.1 hm with he | hm
        · cases he; rw [hd] at hd2; cases hd2; exact absurd rfl hdt
        · obtain ⟨u', v', h1, h2⟩ := look_factsIn hm hd h
          exact ⟨u', v', List.mem_cons_of_mem _ h1, h2⟩
/-- No number is named twice. -/
def onceB : List (Nat × Value) → Bool
  | [] => true
  | (u, _) :: r => r.all (fun p => p.1 != u) && onceB r
theorem lookV_of {l : List (Nat × Value)} (h : onceB l = true) {u : Nat} {v : Value} (hm : (u, v) ∈ l) : lookV l u = some v := by
  induction l with
  | nil => cases hm
  | cons p r ih =>
    obtain ⟨u', v'⟩ := p
    simp only [onceB, Bool.and_eq_true, List.all_eq_true] at h
    simp only [lookV]
    rcases List.mem_cons.1 hm with he | hm
    · cases he; rw [if_pos rfl]
    · have := h.1 _ hm
      rw [if_neg (fun e => by rw [e] at this; simp at this)]
      exact ih h.2 hm
theorem gv_of (hB : looseB us ops n = true) (h1 : onceB us = true) {u : Nat} {v : Value} (hm : (u, v) ∈ us) : ∃ d, dst ops u = some d ∧ gv (subst us ops) u = some (d, v) := by
  have hB' := hB
  simp only [looseB, Bool.and_eq_true, List.all_eq_true] at hB'
  have h3 := hB'.2 (u, v) hm
  cases hd : dst ops u with
  | none => simp [hd] at h3
  | some d =>
    refine ⟨d, rfl, ?_⟩
    cases ho : ops[u]? with
    | none => simp [dst, ho] at hd
    | some o =>
      have hod : o.dst = some d := by simpa [dst, ho] using hd
      unfold gv
      rw [subst_get, ho]
      simp [substO, lookV_of h1 hm, given, hod]
theorem putU_slot (R : Rel ops (subst us ops) n) (hB : looseB us ops n = true) (h1 : onceB us = true) {a : Act} (hsh : Sh n a) : ∀ {l : List (Nat × Value)}, (∀ p ∈ l, p ∈ us) → ∀ t, (∀ u v, (u, v) ∈ l → dst ops u ≠ some t) → (putU ops l a).slot t = a.slot t
  | [], _, _, _ => rfl
  | (u, v) :: r, hl, t, ht => by
    have h2 := putU_slot R hB h1 hsh (fun p hp => hl p (List.mem_cons_of_mem _ hp)) t (fun u v hm => ht u v (List.mem_cons_of_mem _ hm))
    simp only [putU]
    cases hd : dst ops u with
    | none => exact h2
    | some d => rw [slot_put_ne _ (fun e => ht u v List.mem_cons_self (by rw [hd, e]))]; exact h2
theorem putU_val (R : Rel ops (subst us ops) n) (hB : looseB us ops n = true) (h1 : onceB us = true) {a : Act} (hsh : Sh n a) : ∀ {l : List (Nat × Value)}, (∀ p ∈ l, p ∈ us) → ∀ u v d, (u, v) ∈ l → dst ops u = some d → (putU ops l a).slot d = v
  | (u', v') :: r, hl, u, v, d, hm, hd => by
    simp only [putU]
    obtain ⟨d', hd', hg'⟩ := gv_of hB h1 (hl _ (List.mem_cons_self (a := (u', v'))))
    rw [hd']
    by_cases hdd : d' = d
    · subst hdd
      rw [slot_put_same (putU_sh hsh r) (R.free.lt _ _ _ hg')]
      obtain ⟨d2, hd2, hg2⟩ := gv_of hB h1 (hl _ hm)
      rw [hd] at hd2; cases hd2
      by_cases huu : u = u'
      · subst huu; rw [hg'] at hg2; cases hg2; rfl
      · exact absurd (by rw [subst_dst]; exact hd) (R.free.one u' d' v' hg' u huu)
    · rw [slot_put_ne _ hdd]
      rcases List.mem_cons.1 hm with he | hm
      · cases he; rw [hd] at hd'; cases hd'; exact absurd rfl hdd
      · exact putU_val R hB h1 hsh (fun p hp => hl p (List.mem_cons_of_mem _ hp)) u v d hm hd
/-- Facts that no operation of the region, and no turn of memory, touches. -/
def stillB (ops : Array Oper) : Env → Bool
  | [] => true
  | (t, f) :: r => keeps f && ((List.range ops.size).all fun j => dst ops j != some t) && stillB ops r
theorem still_of : ∀ {Es : Env}, stillB ops Es = true → ∀ t f, look Es t = some f → (∀ w w' v, f.den w v → f.den w' v) ∧ ∀ j, dst ops j ≠ some t
  | [], _, t, f, h => by simp [look] at h
  | (s, g) :: r, hB, t, f, h => by
    simp only [stillB, Bool.and_eq_true, List.all_eq_true, List.mem_range] at hB
    simp only [look] at h
    by_cases hst : s = t
    · rw [if_pos hst] at h
      cases h
      subst hst
      refine ⟨fun w w' v hd => keeps_den hB.1.1 hd, fun j hj => ?_⟩
      have hlt : j < ops.size := by
        rcases Nat.lt_or_ge j ops.size with h' | h'
        · exact h'
        · simp [dst, Array.getElem?_eq_none h'] at hj
      have := hB.1.2 j hlt
      rw [bne_iff_ne] at this
      exact this hj
    · rw [if_neg hst] at h
      exact still_of hB.2 t f h
/-- **A drawn region, some of whose operations' values are given.** -/
theorem J.loose {id : Nat} (us : List (Nat × Value)) (Es : Env) (hm : P.follows .mixedOrders = true) (hI : ∀ w w', I w → Below w.heap.size w w' → I w') (ht : tidy ops n = true) (ht2 : tidy (subst us ops) n = true) (hB : looseB us ops n = true) (h1 : onceB us = true) (hst : stillB ops Es = true)
    (hL : ¬ LetsOut Q) (hQ : ∀ c a b w, Q (.panic c) a w → Q (.panic c) b w) (hE : Weak I E Es) (hG : Gives P ops Q n I us Es us)
    (h : Plan P (subst us ops) Q n I true (subst us ops).size 0 (factsU ops us ++ E)) : J P n I (.region id ops true) Q E := fun a w hw ha hs => by
  have R := subst_rel hB ht ht2
  refine wp_region_any hm ?_
  have hb0 : Below w.heap.size w { w with drawn := w.drawn + 1 } := (Below.refl _ _).drew
  have hw0 := hI _ _ hw hb0
  have hs0 : Sat E a { w with drawn := w.drawn + 1 } := fun t f hf => Fa.mono f w _ _ hb0 (hs t f hf)
  have hsame : ∀ p ∈ us, p ∈ us := fun _ h => h
  refine loose_run (Es := Es) R (fun _ => hL) (fun _ => hQ) hI (still_of hst) ?_ ops.size _ a _ (putU ops us a) (List.range' 0 ops.size) (factsU ops us ++ E)
    ⟨by simp, start_closed, hw0, ha, putU_sh ha us, planL_of _ _ _ (by rw [← R.size]; exact h), ?_, List.pairwise_lt_range', fun i hi => by simp [List.mem_range'] at hi; omega, fun i hi _ => ?_, ?_, ?_, fun u d v _ hl => absurd hl (by rw [start_facts]; simp), fun _ => hE.sat hw0 hs0, ?_⟩ start_count
  · intro u d v hg b w2 hw2 hb2 hEs hah
    obtain ⟨hl, hd⟩ := gv_subst hB hg
    obtain ⟨hbar, hpl⟩ := hG.mem (lookV_mem hl)
    have hsat : Sat (factsU ops (aheadU ops us u) ++ Es) b w2 := fun t f hf => by
      rcases look_factsU hf with ⟨u', v', hm', hd', rfl⟩ | hf'
      · simp only [aheadU, List.mem_filter] at hm'
        obtain ⟨d2, hd2, hg2⟩ := gv_of hB h1 hm'.1
        rw [hd'] at hd2; cases hd2
        simp only [Fa.den]
        exact hah u' t v' hg2 hm'.2
      · exact hEs t f hf'
    rcases hpl d hd with ⟨F, hstp, hfin⟩ | ⟨hb, _⟩
    · refine wpOp_Qd (wpOp_mono ?_ (hstp b w2 hw2 hb2 fun t _ f hf => hsat t f hf))
      rintro a' w' ⟨v', rfl, hbel, hF⟩
      have hv := hfin _ w' (hI _ _ hw2 hbel) (hb2.put _ _) (hsat.step ht hb2 hbel hF)
      simp only [Qd] at hv
      rw [hd, slot_put_same hb2 (tidy_dst ht hd)] at hv
      rw [hd, hv]
      exact ⟨rfl, hbel⟩
    · have := hb.resolve_left (by simp)
      rw [hbar] at this; cases this
  · intro t f hf
    by_cases hu : ∃ u v, (u, v) ∈ us ∧ dst ops u = some t
    · obtain ⟨u, v, hm', hd⟩ := hu
      obtain ⟨u', v', hm2, hd', rfl⟩ := look_factsIn hm' hd hf
      simp only [Fa.den]
      exact putU_val R hB h1 ha hsame u' v' t hm2 hd'
    · rcases look_factsU hf with ⟨u', v', hm2, hd', rfl⟩ | hf'
      · exact absurd ⟨u', v', hm2, hd'⟩ hu
      · rw [putU_slot R hB h1 ha hsame t (fun u v hm' hd => hu ⟨u, v, hm', hd⟩)]
        exact hs0 t f hf'
  · rw [start_facts]
    simp [List.mem_range']; exact hi
  · intro t htt
    exact (putU_slot R hB h1 ha hsame t (fun u v hm' hd => by
      obtain ⟨d, hd2, hg⟩ := gv_of hB h1 hm'
      rw [hd] at hd2; cases hd2
      exact htt u _ v hg rfl)).symm
  · intro u d v hg
    obtain ⟨hl, hd⟩ := gv_subst hB hg
    exact putU_val R hB h1 ha hsame u v d (lookV_mem hl) hd
  · intro hno
    cases hus : us with
    | nil => rfl
    | cons p r =>
      exfalso
      obtain ⟨u, v⟩ := p
      obtain ⟨d, _, hg⟩ := gv_of hB h1 (by rw [hus]; exact List.mem_cons_self : (u, v) ∈ us)
      have := free_of hg
      rw [hno u] at this; cases this
end
end Go.Free
end

section
set_option linter.unusedSimpArgs false
set_option linter.unusedVariables false
set_option maxRecDepth 20000
namespace Go.Free
open Go.RowKit

def fullF (xs : List Value) : Fa := .is ⟨fun w v => ∃ A m, v = .slice A m m ∧ rowH 1 xs w v, fun _ _ _ hb ⟨A, m, h1, h2⟩ => ⟨A, m, h1, rowH_mono hb h2⟩⟩
theorem Sub.full {I : World → Prop} {xs : List Value} : Sub I (fullF xs) (row 1 xs) := fun _ _ _ ⟨_, _, _, h⟩ => h

section
variable {P : Program} {ops : Array Oper} {Q : Exit → Act → World → Prop} {n : Nat} {I : World → Prop} {k i : Nat} {E : Env} {o : Oper} {d : Bool}

/-- x[:len(x):len(x)] -/
theorem Plan.sliceFull {t e : TypeId} {z : Value} {bytes m : Nat} {x y y2 : Operand} {g : Fa} {cs : List Value} {kd kd2 : IntKind} (ho : ops[i]? = some o) (hop : o.op = .slice t x none (some y) (some y2))
    (hg : wantB ops E o = some true) (hx : opF E x = some g) (hs : Sub I g (row 1 cs)) (he : Elt P t e z 1 bytes) (hm : cs.length = m) (hy : opF E y = some (.ex (.int kd (m : Int)))) (hy2 : opF E y2 = some (.ex (.int kd2 (m : Int))))
    (h : Plan P ops Q n I d k (i + 1) (setE o.dst (fullF cs) E)) : Plan P ops Q n I d (k + 1) i E :=
  Plan.step ho (Step.run ho hg fun a w hI hs' => by
    have e1 := hs w _ hI (hs' x (by simp [hop, Op.operands]) _ hx)
    have e2 := hs' y (by simp [hop, Op.operands]) _ hy
    have e3 := hs' y2 (by simp [hop, Op.operands]) _ hy2
    simp only [Fa.den] at e2 e3
    obtain ⟨inf, hinf, hz, hs1, hby⟩ := he.hi
    obtain ⟨A, m', c, hv, h1, h2, h3, h4, h5⟩ := e1
    rw [Nat.mul_one] at h3
    obtain rfl : m' = m := by omega
    have hB : (Instr.sliceBounds true m' c none (some (.int kd (m' : Int))) (some (.int kd2 (m' : Int)))).run P w = .ok (0, m', m') w := by
      unfold Instr.sliceBounds
      simp [run_sliceBound_ok (P := P) (w := w) (Int.natCast_nonneg m') (show (m' : Int) ≤ c by omega), run_sliceBound_ok (P := P) (w := w) (Int.natCast_nonneg m') (show (m' : Int) ≤ m' by omega)]
    have hA : (A.map fun a => a.add 0) = A := by cases A <;> rfl
    have hr : (Instr.sliceAt t (.slice A m' c) none (some (.int kd (m' : Int))) (some (.int kd2 (m' : Int)))).run P w = .ok (.slice A m' m') w := by
      have hAA : (if m' = 0 then A else A.map fun a => a.add 0) = A := by rw [hA]; split <;> rfl
      simp [Instr.sliceAt, run_underlying he.ht, Instr.slice, hB, sizeOf, typeInfo, hinf, hs1]
      try exact hA
      try exact hAA
      try exact fun _ => hA
    refine ⟨.slice A m' m', w, ?_, Below.refl _ _, ⟨A, m', rfl, A, m', m', rfl, Nat.le_refl _, by omega, by omega, fun hn => by have := h4 hn; omega, h5⟩⟩
    simp only [execOp, hop, Option.map_none, Option.map_some, hv, e2, e3, Sem.run_bind, hr, Result.andThen_ok, Sem.run_pure]) h

theorem run_append_full_string {w : World} {t u ty e : TypeId} {A : Option Addr} {m : Nat} {xs : List Value} {p : List UInt8} (he : Elt P t e (.int .u8 0) 1 1) (hu : P.underlying u = some .string)
    (hrow : rowH 1 xs w (.slice A m m)) (hlim : xs.length + p.length ≤ 140737488355328) :
    ∃ v' w', (Builtin.append_ #[t, u] ty #[.slice A m m, .string ⟨p.toArray⟩]).run P w = .ok v' w' ∧ rowH 1 (xs ++ bs p) w' v' ∧ Below w.heap.size w w' := by
  obtain ⟨inf, hi, hz, hsz, hby⟩ := he.hi
  obtain ⟨A', m', c', hv, h1, h2, h3, h4, h5⟩ := id hrow
  cases hv
  rw [Nat.mul_one] at h3
  have hps : (ByteArray.mk p.toArray).size = p.length := by simp [ByteArray.size]
  have hcells : Lib.strCells ⟨p.toArray⟩ = bs p := by simp [Lib.strCells, bs]
  by_cases hp : p = []
  · subst hp
    refine ⟨.slice A m m, w, ?_, by simpa [bs] using hrow, Below.refl _ _⟩
    have hs0 : (ByteArray.mk ([] : List UInt8).toArray).size = 0 := rfl
    have hf := Lib.run_firstCells_string (P := P) w 1 ⟨([] : List UInt8).toArray⟩
    have hsc : Lib.strCells ⟨([] : List UInt8).toArray⟩ = [] := rfl
    rw [hsc, hs0] at hf
    cases A with
    | none =>
      have h0 := h4 rfl
      obtain rfl : m = 0 := by omega
      simp [Builtin.append_, run_underlying he.ht, run_underlying hu, sizeOf, typeInfo, hi, hsz, Builtin.lenOf, hs0, hf, storeCells]
    | some ad => simp [Builtin.append_, run_underlying he.ht, run_underlying hu, sizeOf, typeInfo, hi, hsz, Builtin.lenOf, hs0, hf, storeCells]
  · have hpos : 0 < p.length := List.length_pos_iff.2 hp
    cases A with
    | none =>
      have h0 := h4 rfl
      obtain rfl : m = 0 := by omega
      have hx : xs = [] := List.eq_nil_of_length_eq_zero h3
      subst hx
      have hwn := World.ownsRow_nil w w.heap.size e 1
      obtain ⟨v', w', hr, h6, h7, _⟩ := Lib.run_append_own_string (P := P) w w.heap.size t u ty e inf he.ht hu hi hz hsz hby (.slice none 0 0) 0 [] hwn ⟨p.toArray⟩ (by rw [hps]; simp only [maxLen]; omega) (by rw [hps]; simp at hlim; omega) (Nat.le_refl _)
      rw [hcells] at h6
      exact ⟨v', w', hr, own_row (B := w.heap.size) ⟨h7.size, _, h6⟩, ⟨h7.os, h7.tape, h7.output, h7.size, fun k hk => h7.block k hk (by simp [Value.ownBlock])⟩⟩
    | some ad =>
      have hr := Lib.run_append_grow_string (P := P) w t u ty e inf (.int .u8 0) he.ht hu hi hz ad m m xs (by rw [hsz]; omega) (fun j v hj => by obtain ⟨ad', hA, hc⟩ := h5 j v hj; cases hA; exact hc) ⟨p.toArray⟩ (by rw [hps]; omega) (by rw [hps]; omega) (growslice_fits (by rw [hps]; omega) (by rw [hps, hby]; omega))
      refine ⟨_, _, hr, ?_, ?_⟩
      · have hge := grownCap_ge w (m + (ByteArray.mk p.toArray).size) m e
        have hcm : grownCap w (m + (ByteArray.mk p.toArray).size) m e ≤ maxLen := grownCap_le_maxLen w _ _ _ (by rw [hps]; simp only [maxLen]; omega)
        refine ⟨_, _, _, rfl, hge, by simpa [maxLen] using hcm, ?_, (fun h => by cases h), fun j v hj => ⟨_, rfl, ?_⟩⟩
        · rw [List.length_append, bs_length, hps, Nat.mul_one, h3]
        · rw [hcells]
          have hadd : (⟨w.heap.size, 0, none⟩ : Addr).add j = ⟨w.heap.size, j, none⟩ := by unfold Addr.add; split <;> simp_all
          rw [hadd]
          have hnew := heap_alloc_new w.drew (.cells (xs.toArray ++ (bs p).toArray ++ Builtin.zeroCells (Value.int .u8 0).cells (grownCap w (m + (ByteArray.mk p.toArray).size) m e - (m + (ByteArray.mk p.toArray).size))) e)
          have hsz2 : w.drew.heap.size = w.heap.size := rfl
          rw [hsz2] at hnew
          simp only [World.cell?, hnew, Option.isSome_none, Bool.false_eq_true, if_false]
          have hjl : j < (xs ++ bs p).length := (List.getElem?_eq_some_iff.1 hj).1
          rw [Array.getElem?_append_left (by simpa using hjl)]
          simpa using hj
      · exact ⟨rfl, rfl, rfl, by simp, fun k hk => Below.heap_alloc w.drew _ k hk⟩
theorem Plan.appendFullStr {x y : Operand} {t u e : TypeId} {xs : List Value} {p : List UInt8} (ho : ops[i]? = some o) (hop : o.op = .call { callee := .builtin .append, args := #[x, y], argTypes := #[t, u] })
    (hg : wantB ops E o = some true) (hx : opF E x = some (fullF xs)) (hy : opF E y = some (.ex (str p))) (hu : P.underlying u = some .string) (he : Elt P t e (.int .u8 0) 1 1) (hlim : xs.length + p.length ≤ 140737488355328)
    (h : Plan P ops Q n I d k (i + 1) (setE o.dst (row 1 (xs ++ bs p)) E)) : Plan P ops Q n I d (k + 1) i E :=
  Plan.step ho (Step.run ho hg fun a w hI hs' => by
    obtain ⟨A, m, e1, hrow⟩ := hs' x (by simp [hop, Op.operands, Call.operands]) _ hx
    have e2 := hs' y (by simp [hop, Op.operands, Call.operands]) _ hy
    simp only [Fa.den, str] at e2
    rw [e1] at hrow
    obtain ⟨v', w', hr, h2, h3⟩ := run_append_full_string (P := P) (ty := o.type) he hu hrow hlim
    refine ⟨v', w', ?_, h3, h2⟩
    simp only [execOp, hop, resolve, invoke, builtin, List.map_toArray, List.map_cons, List.map_nil, Sem.run_bind, Sem.run_pure, Result.andThen_ok, e1, e2, hr]) h
end
end Go.Free
end

section
set_option linter.unusedSimpArgs false
set_option linter.unusedVariables false
set_option maxRecDepth 20000
namespace Go.Free
open Go.RowKit

def fullS (sz : Nat) (xs : List Value) : Fa := .is ⟨fun w v => ∃ A m, v = .slice A m m ∧ rowH sz xs w v, fun _ _ _ hb ⟨A, m, h1, h2⟩ => ⟨A, m, h1, rowH_mono hb h2⟩⟩
theorem Sub.fullS {I : World → Prop} {sz : Nat} {xs : List Value} : Sub I (fullS sz xs) (row sz xs) := fun _ _ _ ⟨_, _, _, h⟩ => h
theorem Sub.full1 {I : World → Prop} {xs : List Value} : Sub I (fullF xs) (Free.fullS 1 xs) := fun _ _ _ h => h

section
variable {P : Program} {ops : Array Oper} {Q : Exit → Act → World → Prop} {n : Nat} {I : World → Prop} {k i : Nat} {E : Env} {o : Oper} {d : Bool}
theorem run_append_full_rows {w : World} {t ty e : TypeId} {z : Value} {sz bytes m : Nat} {A : Option Addr} {xs news : List Value} {y : Value} (he : Elt P t e z sz bytes)
    (hrow : rowH sz xs w (.slice A m m)) (hy : rowH sz news w y) (hne : news ≠ []) (h1 : ∀ u ∈ news, u.oneCell' = true) (hlim : (xs.length + news.length) * bytes ≤ 140737488355328 * sz) :
    ∃ v' w', (Builtin.append_ #[t, t] ty #[.slice A m m, y]).run P w = .ok v' w' ∧ rowH sz (xs ++ news) w' v' ∧ Below w.heap.size w w' := by
  obtain ⟨inf, hi, hz, hsz, hby⟩ := he.hi
  obtain ⟨A', m', c', hv, g1, g2, g3, g4, g5⟩ := id hrow
  simp only [Value.slice.injEq] at hv
  obtain ⟨rfl, rfl, rfl⟩ := hv
  obtain ⟨A2, m2, c2, rfl, hmc, hcM, hl, hnil, hcell⟩ := id hy
  have hpos := he.hs
  have hb := he.hb
  have hnm : (m + m2) * bytes ≤ 140737488355328 := by
    have e1 : (xs.length + news.length) = (m + m2) * sz := by rw [g3, hl, Nat.add_mul]
    rw [e1, Nat.mul_assoc, Nat.mul_comm sz bytes, ← Nat.mul_assoc] at hlim
    exact Nat.le_of_mul_le_mul_right hlim hpos
  have h63 : m + m2 ≤ 140737488355328 := Nat.le_trans (Nat.le_mul_of_pos_right _ hb) hnm
  cases A2 with
  | none =>
    have h0 := hnil rfl
    have : m2 = 0 := by omega
    rw [this, Nat.zero_mul] at hl
    exact absurd (List.eq_nil_of_length_eq_zero hl) hne
  | some ad =>
    have hm2 : 0 < m2 := by
      rcases Nat.eq_zero_or_pos m2 with h | h
      · rw [h, Nat.zero_mul] at hl; exact absurd (List.eq_nil_of_length_eq_zero hl) hne
      · exact h
    have hcs : ∀ j u, news[j]? = some u → w.cell? (ad.add j) = some u := fun j u hu => by
      obtain ⟨ad', hA, hc⟩ := hcell j u hu
      cases hA; exact hc
    cases A with
    | none =>
      have h0 := g4 rfl
      subst h0
      have hx : xs = [] := List.eq_nil_of_length_eq_zero (by rw [g3, Nat.zero_mul])
      subst hx
      have hwn : w.ownsRow w.heap.size e sz (.slice none 0 0) 0 [] := World.ownsRow_nil w _ e sz
      obtain ⟨v3, w3, hr3, h3, h7, _⟩ := run_append_own (P := P) w w.heap.size t ty e inf z sz bytes he.ht hi hz hsz hby he.hz hpos (.slice none 0 0) 0 [] hwn ad m2 c2 news hl hcs h1 (by simp only [maxLen]; omega) hnm (Nat.le_refl _)
      exact ⟨v3, w3, hr3, own_row (B := w.heap.size) ⟨h7.size, _, h3⟩, ⟨h7.os, h7.tape, h7.output, h7.size, fun b hb => h7.block b hb (by simp [Value.ownBlock])⟩⟩
    | some a0 =>
      have hr3 := run_append_grow (P := P) w t ty e inf z he.ht hi hz a0 m m xs (by rw [hsz]; exact g3) (fun j u hu => by obtain ⟨ad', hA, hc⟩ := g5 j u hu; cases hA; exact hc) ad m2 c2 news (by rw [hsz]; exact hl) hcs (by omega) (by omega) (growslice_fits (by omega) (by rw [hby]; exact hnm))
      refine ⟨_, _, hr3, ?_, ⟨rfl, rfl, rfl, by simp, fun k hk => Below.heap_alloc w.drew _ k hk⟩⟩
      have hge := grownCap_ge w (m + m2) m e
      have hcm : grownCap w (m + m2) m e ≤ maxLen := grownCap_le_maxLen w _ _ _ (by simp only [maxLen]; omega)
      refine ⟨_, _, _, rfl, hge, by simpa [maxLen] using hcm, by rw [List.length_append, g3, hl, Nat.add_mul], (fun h => by cases h), fun j v hj => ⟨_, rfl, ?_⟩⟩
      have hadd : (⟨w.heap.size, 0, none⟩ : Addr).add j = ⟨w.heap.size, j, none⟩ := by unfold Addr.add; split <;> simp_all
      rw [hadd]
      have hnew := heap_alloc_new w.drew (.cells (xs.toArray ++ news.toArray ++ Builtin.zeroCells z.cells (grownCap w (m + m2) m e - (m + m2))) e)
      have hsz2 : w.drew.heap.size = w.heap.size := rfl
      rw [hsz2] at hnew
      simp only [World.cell?, hnew, Option.isSome_none, Bool.false_eq_true, if_false]
      have hjl : j < (xs ++ news).length := (List.getElem?_eq_some_iff.1 hj).1
      rw [Array.getElem?_append_left (by simpa using hjl)]
      simpa using hj
/-- append(x, y...) of a slice x without spare room, and something in y. -/
theorem Plan.appendFullRow {x y : Operand} {t e : TypeId} {z : Value} {sz bytes : Nat} {xs news : List Value} {f g : Fa} (ho : ops[i]? = some o) (hop : o.op = .call { callee := .builtin .append, args := #[x, y], argTypes := #[t, t] })
    (hg : wantB ops E o = some true) (hx : opF E x = some f) (hfs : Sub I f (fullS sz xs)) (hy : opF E y = some g) (hs : Sub I g (row sz news)) (he : Elt P t e z sz bytes) (hne : news ≠ []) (h1 : ∀ u ∈ news, u.oneCell' = true) (hlim : (xs.length + news.length) * bytes ≤ 140737488355328 * sz)
    (h : Plan P ops Q n I d k (i + 1) (setE o.dst (row sz (xs ++ news)) E)) : Plan P ops Q n I d (k + 1) i E :=
  Plan.step ho (Step.run ho hg fun a w hI hs' => by
    obtain ⟨A, m, e1, hrow⟩ := hfs w _ hI (hs' x (by simp [hop, Op.operands, Call.operands]) _ hx)
    have e2 := hs w _ hI (hs' y (by simp [hop, Op.operands, Call.operands]) _ hy)
    rw [e1] at hrow
    obtain ⟨v', w', hr, h2, h3⟩ := run_append_full_rows (P := P) (ty := o.type) he hrow e2 hne h1 hlim
    refine ⟨v', w', ?_, h3, h2⟩
    simp only [execOp, hop, resolve, invoke, builtin, List.map_toArray, List.map_cons, List.map_nil, Sem.run_bind, Sem.run_pure, Result.andThen_ok, e1, hr]) h
/-- The heap, under another key too. -/
theorem J.reheap {c : Code} {A : Nat → Prop} {H : List Chunk} {key : Nat} (key' : Nat) (hk : look E key = some (heap A H)) (h : J P n I c Q ((key', heap A H) :: E)) : J P n I c Q E := fun a w h1 h2 h3 => by
  refine h a w h1 h2 fun t f hf => ?_
  simp only [look] at hf
  by_cases ht : key' = t
  · rw [if_pos ht] at hf; cases hf; exact h3 key _ hk
  · rw [if_neg ht] at hf; exact h3 t f hf
/-- What held where the world was marked holds on, where old memory is kept. -/
theorem J.unmark {c : Code} {t : Nat} {w1 : World} {f : Fa} (hI : ∀ w, I w → Below w1.heap.size w1 w) (hf : look E t = some (.old w1 f)) (h : J P n I c Q ((t, f) :: E)) : J P n I c Q E := fun a w h1 h2 h3 => by
  refine h a w h1 h2 fun s g hs => ?_
  simp only [look] at hs
  by_cases ht : t = s
  · subst ht
    simp only [if_true, Option.some.injEq] at hs
    subst hs
    have hv := h3 t _ hf
    simp only [Fa.den] at hv
    exact Fa.mono f w1 w _ (hI w h1) hv
  · rw [if_neg ht] at hs; exact h3 s g hs
end
end Go.Free
end

section
set_option linter.unusedSimpArgs false
set_option linter.unusedVariables false
set_option maxRecDepth 20000
namespace Go.Free
open Go.RowKit

/-- All cells of a block of elements of type e, spare ones too. -/
def blk (g e : Nat) (cs : List Value) : Chunk := ⟨fun w F => w.heap[g]? = some (.cells cs.toArray e (0, 0)) ∧ ∀ b, F b ↔ b = g,
  fun w F b h hb => by rw [(h.2 b).1 hb]; exact (Array.getElem?_eq_some_iff.1 h.1).1,
  fun w w' F h hk => ⟨by rw [hk g ((h.2 g).2 rfl)]; exact h.1, h.2⟩⟩
theorem blk_obj {g e : Nat} {cs : List Value} : Ent (blk g e cs) (obj g cs) := fun w F h => ⟨F, ⟨⟨e, h.1⟩, h.2⟩, fun _ hb => hb⟩
theorem Ent.blkEq {g e : Nat} {xs ys : List Value} (h : xs = ys) : Ent (blk g e xs) (blk g e ys) := h ▸ Ent.refl _
theorem blk_cell {g e : Nat} {cs : List Value} {w : World} {F : Nat → Prop} (h : (blk g e cs).holds w F) {j : Nat} {u : Value} (hu : cs[j]? = some u) : w.cell? ⟨g, j, none⟩ = some u := by
  simp only [World.cell?, h.1, Option.isSome_none, Bool.false_eq_true, if_false]
  rw [List.getElem?_toArray]; exact hu
theorem blk_reads {g e off : Nat} {cs us : List Value} (h : (cs.drop off).take us.length = us) : (blk g e cs).reads g off us := fun w F hh j u hu => by
  refine blk_cell hh ?_
  have hj : j < us.length := (List.getElem?_eq_some_iff.1 hu).1
  rw [← h] at hu
  rw [List.getElem?_take_of_lt hj, List.getElem?_drop] at hu
  exact hu
theorem blk_pat {g e off : Nat} {cs vs : List Value} (h : off + vs.length ≤ cs.length) : (blk g e cs).pat g off vs (blk g e (cs.take off ++ vs ++ cs.drop (off + vs.length))) := fun w F ⟨hh, hF⟩ =>
  ⟨(hF g).2 rfl, cs.toArray, e, hh, by simpa using h, fun w' hw => ⟨by simpa using hw, hF⟩⟩
/-- A row is a block, of which the spare cells are not known. -/
theorem row_blk {e sz g n cap : Nat} {xs : List Value} : Ent (rowC e sz (some ⟨g, 0, none⟩) n cap xs) (exC fun rest => purC ((xs ++ rest).length = cap * sz ∧ xs.length = n * sz ∧ n ≤ cap ∧ cap ≤ 9223372036854775807) (blk g e (xs ++ rest))) := fun w F ⟨hh, hF⟩ => by
  rcases hh.2 with ⟨h0, _⟩ | ⟨g', cp, cur, hv, _, hg, h1, h2, h3, h4⟩
  · cases h0
  · cases hv
    have e1 : xs ++ cur.toList.drop (n * sz) = cur.toList := by rw [← h4]; exact List.take_append_drop _ _
    exact ⟨F, ⟨cur.toList.drop (n * sz), ⟨by rw [e1, Array.length_toList, h3], hh.1, h1, by simpa [maxLen] using h2⟩, by rw [e1, Array.toArray_toList]; exact hg, fun b => (hF b).trans ⟨fun h => (by cases h; rfl), fun h => (by subst h; rfl)⟩⟩, fun _ hb => hb⟩
theorem blk_row {e sz g n cap : Nat} {xs rest : List Value} (h1 : (xs ++ rest).length = cap * sz) (h2 : xs.length = n * sz) (h3 : n ≤ cap) (h4 : cap ≤ 9223372036854775807) : Ent (blk g e (xs ++ rest)) (rowC e sz (some ⟨g, 0, none⟩) n cap xs) := fun w F ⟨hh, hF⟩ =>
  ⟨F, ⟨⟨h2, .inr ⟨g, cap, _, rfl, Nat.zero_le _, hh, h3, by simpa [maxLen] using h4, by simpa using h1, by simp [← h2]⟩⟩, fun b => (hF b).trans ⟨fun h => (by subst h; rfl), fun h => (by cases h; rfl)⟩⟩, fun _ hb => hb⟩
/-- What is known of a row's length and room. -/
theorem row_room {e sz n cap : Nat} {B : Option Addr} {xs : List Value} {w : World} {F : Nat → Prop} (h : (rowC e sz B n cap xs).holds w F) : xs.length = n * sz ∧ n ≤ cap ∧ cap ≤ 9223372036854775807 ∧ (B = none → n = 0 ∧ cap = 0) ∧ (∀ ad, B = some ad → ad = ⟨ad.block, 0, none⟩) := by
  refine ⟨h.1.1, ?_⟩
  rcases h.1.2 with ⟨hv, hn⟩ | ⟨g, cp, cur, hv, _, hg, h1, h2, h3, h4⟩
  · cases hv; exact ⟨Nat.le_refl _, by omega, fun _ => ⟨hn, rfl⟩, fun ad h => (by cases h)⟩
  · cases hv; exact ⟨h1, by simpa [maxLen] using h2, fun h => (by cases h), fun ad h => (by cases h; rfl)⟩
section
variable {P : Program} {ops : Array Oper} {Q : Exit → Act → World → Prop} {n : Nat} {I : World → Prop} {k i : Nat} {E : Env} {o : Oper} {d : Bool} {A : Nat → Prop} {H : List Chunk} {key : Nat}
/-- cap(x) -/
theorem Plan.capE {t e : TypeId} {x : Operand} {B : Option Addr} {m cap : Nat} (ho : ops[i]? = some o) (hop : o.op = .call { callee := .builtin .cap, args := #[x], argTypes := #[t] }) (hg : wantB ops E o = some true)
    (hx : opF E x = some (.ex (.slice B m cap))) (hu : P.underlying t = some (.slice e)) (h : Plan P ops Q n I d k (i + 1) (setE o.dst (.ex (.int .i64 cap)) E)) : Plan P ops Q n I d (k + 1) i E :=
  Plan.step ho (Step.run ho hg fun a w _ hs' => by
    have e1 := hs' x (by simp [hop, Op.operands, Call.operands]) _ hx
    simp only [Fa.den] at e1
    refine ⟨.int .i64 cap, w, ?_, Below.refl _ _, by simp [Fa.den]⟩
    simp [execOp, hop, resolve, invoke, builtin, e1, Builtin.cap_, run_underlying hu, goInt]) h
theorem run_append_zeros {w : World} {t tn ty e : TypeId} {z : Value} {sz bytes m cap k0 : Nat} {kd : IntKind} {g : Nat} {olds : List Value} (he : Elt P t e z sz bytes) (hn : P.underlying tn = some (.int kd)) (hlo : olds.length = m * sz) (holds : ∀ j v, olds[j]? = some v → w.cell? ⟨g, j, none⟩ = some v)
    (hgt : cap < m + k0) (hk : 0 < k0) (hlim : (m + k0) * bytes ≤ 140737488355328) :
    (Builtin.append_ #[t, tn] ty #[.slice (some ⟨g, 0, none⟩) m cap, .int .i64 k0]).run P w = .ok (.slice (some ⟨w.heap.size, 0, none⟩) (m + k0) (grownCap w (m + k0) cap e))
      (w.drew.alloc (.cells (olds.toArray ++ Builtin.zeroCells z.cells k0 ++ Builtin.zeroCells z.cells (grownCap w (m + k0) cap e - (m + k0))) e)) := by
  obtain ⟨inf, hi, hz, hsz, hby⟩ := he.hi
  have hpos := he.hs
  have hbp := he.hb
  have h63 : m + k0 ≤ 140737488355328 := Nat.le_trans (Nat.le_mul_of_pos_right _ hbp) hlim
  have hk63 : k0 * bytes ≤ 140737488355328 := Nat.le_trans (Nat.mul_le_mul_right _ (by omega)) hlim
  have hw : IntKind.i64.wrap (k0 : Int) = k0 := IntWalk.i64_in _ (by omega)
  have hn1 : ¬ (m + k0 ≤ cap) := by omega
  have h63' : ¬ (9223372036854775807 < ((m : Int) + (k0 : Int))) := by omega
  have hfit := growslice_fits (need := m + k0) (old := cap) (bytes := bytes) hgt hlim
  have h48' : ¬ (281474976710656 < Builtin.nextslicecap (m + k0) cap * inf.bytes) := by rw [hby]; omega
  have hfo := run_firstCells_some (P := P) w.drew inf.size m ⟨g, 0, none⟩ m cap olds (by rw [hsz]; exact hlo) (by intro j v hj; rw [add_at, Nat.zero_add]; simpa using holds j v hj)
  have hneg : ¬ ((k0 : Int) < 0) := by omega
  have hbig : ¬ ((281474976710656 : Int) < (k0 : Int) * (inf.bytes : Int)) := by
    rw [hby, ← Int.natCast_mul]; omega
  have hnz : ¬ (k0 * inf.size = 0) := by rw [hsz]; exact Nat.mul_ne_zero (by omega) (by omega)
  simp [Builtin.append_, run_underlying he.ht, run_underlying hn, asInt, asIntOf, hw, hneg, hbig, sizeOf, typeInfo, zeroValue, hi, hz, hn1, h63', h48', Question.forced, hfo, hnz, newRow, grownCap]
theorem zeroCells_length {z : Value} {sz k0 : Nat} (hz : z.cells.size = sz) : (Builtin.zeroCells z.cells k0).toList.length = k0 * sz := by
  simp [Builtin.zeroCells, hz]
/-- append(x, make([]T, m)...) where there is no room: the new row is a chunk more. -/
theorem Plan.appendZ {x y : Operand} {t tn e : TypeId} {z : Value} {sz bytes m cap k0 g q : Nat} {kn : IntKind} {cs : List Value} (ho : ops[i]? = some o) (hop : o.op = .call { callee := .builtin .append, args := #[x, y], argTypes := #[t, tn] })
    (hg : wantB ops E o = some true) (hd : ∀ d, o.dst = some d → d < n) (hx : opF E x = some (.ex (.slice (some ⟨g, 0, none⟩) m cap))) (hy : opF E y = some (.ex (.int .i64 (k0 : Int)))) (he : Elt P t e z sz bytes) (hn : P.underlying tn = some (.int kn))
    (hk : look E key = some (heap A H)) (hA : Own I A) (hqH : H[q]? = some (blk g e cs)) (hm : m * sz ≤ cs.length) (hgt : cap < m + k0) (hk0 : 0 < k0) (hlim : (m + k0) * bytes ≤ 140737488355328)
    (h : ∀ β cap' rest, m + k0 ≤ cap' → cap' ≤ 9223372036854775807 → rest.length = (cap' - m) * sz → Plan P ops Q n I d k (i + 1) (setE o.dst (.ex (.slice (some ⟨β, 0, none⟩) (m + k0) cap')) ((key, heap A (H ++ [blk β e (cs.take (m * sz) ++ rest)])) :: sieve E)))
    (hq : d = false ∨ barB ops i = true := by first | exact .inl rfl | exact .inr (by kernel_rfl)) : Plan P ops Q n I d (k + 1) i E :=
  Plan.turnRun ho hg hd hk hA (fun a w φ _ _ hs' hL hLA hfr => by
    have e1 := hs' x (by simp [hop, Op.operands, Call.operands]) _ hx
    have e2 := hs' y (by simp [hop, Op.operands, Call.operands]) _ hy
    simp only [Fa.den] at e1 e2
    have hc := hL.holds q _ hqH
    have hb0 := he.hb
    have hrun := run_append_zeros (P := P) (w := w) (ty := o.type) (g := g) (cap := cap) (olds := cs.take (m * sz)) he hn (by rw [List.length_take]; omega) (fun j v hj => by
      have hlt : j < m * sz := by
        have := (List.getElem?_eq_some_iff.1 hj).1
        rw [List.length_take] at this; omega
      rw [List.getElem?_take_of_lt hlt] at hj
      exact blk_cell hc hj) hgt hk0 hlim
    have hge := grownCap_ge w (m + k0) cap e
    have h63 : m + k0 ≤ 140737488355328 := Nat.le_trans (Nat.le_mul_of_pos_right _ hb0) hlim
    have hcm : grownCap w (m + k0) cap e ≤ maxLen := grownCap_le_maxLen w _ _ _ (by simp only [maxLen]; omega)
    obtain ⟨rest, hrest⟩ : ∃ rest, rest = (Builtin.zeroCells z.cells k0).toList ++ (Builtin.zeroCells z.cells (grownCap w (m + k0) cap e - (m + k0))).toList := ⟨_, rfl⟩
    have hcells : (cs.take (m * sz)).toArray ++ Builtin.zeroCells z.cells k0 ++ Builtin.zeroCells z.cells (grownCap w (m + k0) cap e - (m + k0)) = (cs.take (m * sz) ++ rest).toArray := by
      apply Array.ext'; rw [hrest]; simp
    rw [hcells] at hrun
    have hb : Below w.heap.size w (w.drew.alloc (.cells (cs.take (m * sz) ++ rest).toArray e)) := ⟨rfl, rfl, rfl, by simp, fun k hk => Below.heap_alloc w.drew _ k hk⟩
    have hnew := heap_alloc_new w.drew (.cells (cs.take (m * sz) ++ rest).toArray e)
    have hsz2 : w.drew.heap.size = w.heap.size := rfl
    rw [hsz2] at hnew
    have hL' := hL.add (c' := blk w.heap.size e (cs.take (m * sz) ++ rest)) (F := fun b => b = w.heap.size) hb ⟨hnew, fun b => Iff.rfl⟩ (fun b e => Nat.le_of_eq e.symm)
    have hrl : rest.length = (grownCap w (m + k0) cap e - m) * sz := by
      rw [hrest, List.length_append, zeroCells_length he.hz, zeroCells_length he.hz, ← Nat.add_mul]; congr 1; omega
    refine ⟨.slice (some ⟨w.heap.size, 0, none⟩) (m + k0) (grownCap w (m + k0) cap e), w.drew.alloc (.cells (cs.take (m * sz) ++ rest).toArray e), .ex (.slice (some ⟨w.heap.size, 0, none⟩) (m + k0) (grownCap w (m + k0) cap e)), _, _, .inl ?_, .ofBelow hb, hL', fun q b hb => ?_, by simp [Fa.den], h w.heap.size _ rest hge (by simpa [maxLen] using hcm) hrl⟩
    · simp only [execOp, hop, resolve, invoke, builtin, List.map_toArray, List.map_cons, List.map_nil, e1, e2, Sem.run_bind, Sem.run_pure, Result.andThen_ok, hrun]
    · by_cases he : q = H.length
      · simp only [if_pos he] at hb; exact hfr b (Nat.le_of_eq hb.symm)
      · simp only [if_neg he] at hb; exact hLA q b hb) hq
theorem run_copy_blk {w : World} {t ty e : TypeId} {z : Value} {sz bytes g d0 dl dc sl sc g2 s0 cnt : Nat} {cs news : List Value} {F : Nat → Prop} (he : Elt P t e z sz bytes) (hc : (blk g e cs).holds w F) (hcnt : Nat.min sl dl = cnt) (hnl : news.length = cnt * sz)
    (hn : ∀ j u, news[j]? = some u → w.cell? ⟨g2, s0 + j, none⟩ = some u) (h1 : ∀ u ∈ news, u.oneCell' = true) (hr : d0 + news.length ≤ cs.length) :
    (Builtin.copy_ #[t, t] ty #[.slice (some ⟨g, d0, none⟩) dl dc, .slice (some ⟨g2, s0, none⟩) sl sc]).run P w = .ok (.int .i64 cnt) (w.setRow g (cs.take d0 ++ news ++ cs.drop (d0 + news.length)).toArray) := by
  obtain ⟨inf, hi, hz, hsz, hby⟩ := he.hi
  have hf := run_firstCells_some (P := P) w inf.size cnt ⟨g2, s0, none⟩ sl sc news (by rw [hsz]; exact hnl) (fun j v hj => by rw [add_at]; exact hn j v hj)
  have hst := run_storeCells_at P g d0 e news 0 cs.toArray w hc.1 (by simpa using hr) h1
  simp only [Nat.add_zero] at hst
  simp only [Builtin.copy_, List.getElem?_toArray, List.getElem?_cons_zero, List.getElem?_cons_succ, Sem.run_bind, run_underlying he.ht, Result.andThen_ok, Builtin.lenOf, Sem.run_pure, hcnt, sizeOf, typeInfo, hi]
  simp [hi, hf, hst, goInt]
/-- copy(x, y) into a block, out of a chunk (the same one, too). -/
theorem Plan.copyC {x y : Operand} {t e : TypeId} {z : Value} {sz bytes g d0 dl dc sl sc g2 s0 cnt q q2 : Nat} {c2 : Chunk} {cs news : List Value} (ho : ops[i]? = some o) (hop : o.op = .call { callee := .builtin .copy, args := #[x, y], argTypes := #[t, t] })
    (hg : wantB ops E o = some true) (hd : ∀ d, o.dst = some d → d < n) (hx : opF E x = some (.ex (.slice (some ⟨g, d0, none⟩) dl dc))) (hy : opF E y = some (.ex (.slice (some ⟨g2, s0, none⟩) sl sc))) (he : Elt P t e z sz bytes)
    (hk : look E key = some (heap A H)) (hA : Own I A) (hqH : H[q]? = some (blk g e cs)) (hqH2 : H[q2]? = some c2) (hr2 : c2.reads g2 s0 news) (hcnt : Nat.min sl dl = cnt) (hnl : news.length = cnt * sz) (h1 : ∀ u ∈ news, u.oneCell' = true) (hr : d0 + news.length ≤ cs.length)
    (h : Plan P ops Q n I d k (i + 1) (setE o.dst (.ex (.int .i64 cnt)) ((key, heap A (H.set q (blk g e (cs.take d0 ++ news ++ cs.drop (d0 + news.length))))) :: sieve E)))
    (hq : d = false ∨ barB ops i = true := by first | exact .inl rfl | exact .inr (by kernel_rfl)) : Plan P ops Q n I d (k + 1) i E :=
  Plan.turnRun ho hg hd hk hA (fun a w φ _ _ hs' hL hLA hfr => by
    have e1 := hs' x (by simp [hop, Op.operands, Call.operands]) _ hx
    have e2 := hs' y (by simp [hop, Op.operands, Call.operands]) _ hy
    simp only [Fa.den] at e1 e2
    have hc := hL.holds q _ hqH
    have hn2 := hr2 w _ (hL.holds q2 _ hqH2)
    have hrun := run_copy_blk (P := P) (ty := o.type) (dc := dc) (sc := sc) he hc hcnt hnl hn2 h1 hr
    obtain ⟨w', hw'⟩ : ∃ w', w' = w.setRow g (cs.take d0 ++ news ++ cs.drop (d0 + news.length)).toArray := ⟨_, rfl⟩
    rw [← hw'] at hrun
    have hK : Kept (φ q) w w' := by
      subst hw'
      exact ⟨rfl, rfl, rfl, by simp, fun kk _ hkk => setRow_other w g kk _ (fun e => hkk (by rw [e]; exact (hc.2 g).2 rfl))⟩
    have hc2 : (blk g e (cs.take d0 ++ news ++ cs.drop (d0 + news.length))).holds w' (φ q) := ⟨by subst hw'; exact setRow_heap w g cs.toArray _ e _ hc.1, hc.2⟩
    have hqlt : q < H.length := (List.getElem?_eq_some_iff.1 hqH).1
    refine ⟨.int .i64 cnt, w', .ex (.int .i64 cnt), _, _, .inl ?_, hK.mono (fun b _ hb => hLA q b hb), hL.upd hqlt hK hc2 (fun b hb => .inl hb), wide (H := H) hLA hfr (fun b hb => .inl hb), by simp [Fa.den], h⟩
    simp only [execOp, hop, resolve, invoke, builtin, List.map_toArray, List.map_cons, List.map_nil, e1, e2, Sem.run_bind, Sem.run_pure, Result.andThen_ok, hrun]) hq
/-- clear(x) of a part of a block. -/
theorem Plan.clearC {x : Operand} {t e : TypeId} {z : Value} {sz bytes g d0 m c q : Nat} {cs : List Value} (ho : ops[i]? = some o) (hop : o.op = .call { callee := .builtin .clear, args := #[x], argTypes := #[t] }) (hdst : o.dst = none)
    (hg : wantB ops E o = some true) (hx : opF E x = some (.ex (.slice (some ⟨g, d0, none⟩) m c))) (he : Elt P t e z sz bytes)
    (hk : look E key = some (heap A H)) (hA : Own I A) (hqH : H[q]? = some (blk g e cs)) (hz1 : ∀ u ∈ z.cells.toList, u.oneCell' = true) (hr : d0 + m * sz ≤ cs.length)
    (h : ∀ zs : List Value, zs.length = m * sz → Plan P ops Q n I d k (i + 1) ((key, heap A (H.set q (blk g e (cs.take d0 ++ zs ++ cs.drop (d0 + m * sz))))) :: sieve E))
    (hq : d = false ∨ barB ops i = true := by first | exact .inl rfl | exact .inr (by kernel_rfl)) : Plan P ops Q n I d (k + 1) i E :=
  Plan.turnRun ho hg (by rw [hdst]; intro _ e; cases e) hk hA (fun a w φ _ _ hs' hL hLA hfr => by
    have e1 := hs' x (by simp [hop, Op.operands, Call.operands]) _ hx
    simp only [Fa.den] at e1
    obtain ⟨inf, hi, hzz, hsz, hby⟩ := he.hi
    have hc := hL.holds q _ hqH
    have hzl := zeroCells_length (z := z) (k0 := m) he.hz
    have hzo : ∀ u ∈ (Builtin.zeroCells z.cells m).toList, u.oneCell' = true := fun u hu => by
      simp only [Builtin.zeroCells, Array.toList_map, List.mem_map] at hu
      obtain ⟨j, hj, rfl⟩ := hu
      have hp : 0 < z.cells.size := by rw [he.hz]; exact he.hs
      have hlt : j % z.cells.size < z.cells.size := Nat.mod_lt _ hp
      have e2 : z.cells[j % z.cells.size]! = z.cells[j % z.cells.size] := by simp [hlt]
      rw [e2]
      exact hz1 _ (by simp)
    have hst := run_storeCells_at P g d0 e (Builtin.zeroCells z.cells m).toList 0 cs.toArray w hc.1 (by rw [hzl]; simpa using hr) hzo
    simp only [Nat.add_zero] at hst
    rw [hzl] at hst
    obtain ⟨w', hw'⟩ : ∃ w', w' = w.setRow g (cs.take d0 ++ (Builtin.zeroCells z.cells m).toList ++ cs.drop (d0 + m * sz)).toArray := ⟨_, rfl⟩
    have hcc : (blk g e (cs.take d0 ++ (Builtin.zeroCells z.cells m).toList ++ cs.drop (d0 + m * sz))).holds w' (φ q) := ⟨by subst hw'; exact setRow_heap w g cs.toArray _ e _ hc.1, hc.2⟩
    have hK : Kept (φ q) w w' := by
      subst hw'
      exact ⟨rfl, rfl, rfl, by simp, fun kk _ hkk => setRow_other w g kk _ (fun e => hkk (by rw [e]; exact (hc.2 g).2 rfl))⟩
    have hqlt : q < H.length := (List.getElem?_eq_some_iff.1 hqH).1
    by_cases hm : m = 0
    · subst hm
      have hz0 : (Builtin.zeroCells z.cells 0).toList = [] := List.eq_nil_of_length_eq_zero (by rw [hzl, Nat.zero_mul])
      have hp := h (Builtin.zeroCells z.cells 0).toList hzl
      rw [hz0, List.append_nil, Nat.zero_mul, show d0 + 0 = d0 from rfl, List.take_append_drop] at hp
      refine ⟨.tuple #[], w, .ex (.tuple #[]), _, _, .inl ?_, Kept.refl _ _, hL.upd hqlt (Kept.refl _ _) hc (fun b hb => .inl hb), wide (H := H) hLA hfr (fun b hb => .inl hb), by simp [Fa.den], by rw [hdst]; exact hp⟩
      simp [execOp, hop, resolve, invoke, builtin, e1, Builtin.clear_, run_underlying he.ht]
    · refine ⟨.tuple #[], w', .ex (.tuple #[]), _, _, .inl ?_, hK.mono (fun b _ hb => hLA q b hb), hL.upd hqlt hK hcc (fun b hb => .inl hb), wide (H := H) hLA hfr (fun b hb => .inl hb), by simp [Fa.den], by rw [hdst]; exact h _ hzl⟩
      have hst' : (storeCells ⟨g, d0, none⟩ (Builtin.zeroCells z.cells m).toList).run P w = .ok () w' := by
        rw [hw']; simpa using hst
      simp [execOp, hop, resolve, invoke, builtin, e1, Builtin.clear_, run_underlying he.ht, zeroValue, typeInfo, hi, hzz, hm, hst']) hq
/-- A call of a function value. -/
theorem Plan.callFn {f : FuncId} {x : Operand} {xs : List Operand} {ts : Array TypeId} {caps : Array Value} {vs : List Value} {r : Value} {fn : Func} (ho : ops[i]? = some o) (hop : o.op = .call { callee := .value x, args := xs.toArray, argTypes := ts }) (hg : wantB ops E o = some true)
    (hx : opF E x = some (.ex (.func (.func f) #[] caps))) (hxs : ∀ (a : Act) (w : World), (∀ y, y ∈ xs → ∀ g, opF E y = some g → g.den w (a.eval y)) → xs.map a.eval = vs)
    (hf : P.funcs[f]? = some fn) (hbody : fn.body.isNone = false) (hname : (fn.name == "runtime.NumGoroutine") = false)
    (hc : ∀ w, I w → Calls P f (vs.toArray ++ caps) w fun e w' => e = .returned r ∧ Below w.heap.size w w')
    (h : Plan P ops Q n I d k (i + 1) (setE o.dst (.ex r) E)) : Plan P ops Q n I d (k + 1) i E :=
  Plan.step ho (fun a w hI hsh hs => by
    unfold wpOp
    simp only [ho, wantB_spec ho hsh (fun t ht => hs t (.inl ht)) hg, if_true]
    refine .inl ?_
    unfold Oper.wp
    have e1 := opF_den (a := a) (w := w) ho (by simp [hop, Op.operands, Call.operands]) (fun t ht => hs t (.inl ht)) hx
    simp only [Fa.den] at e1
    have e2 := hxs a w (fun y hy g hg => opF_den ho (by simp [hop, Op.operands, Call.operands, hy]) (fun t ht => hs t (.inl ht)) hg)
    have hrun : (execOp a.eval o).run P w = .ok (.enter f (vs.toArray ++ caps)) w := by
      have hn : ¬ fn.name = "runtime.NumGoroutine" := by simpa using hname
      have hb : ¬ fn.body = none := by intro e; rw [e] at hbody; cases hbody
      simp [execOp, hop, resolve, invoke, callFunc, Deferred.ofValue, e1, hf, hb, hn, ← e2]
    rw [hrun]
    simp only [Oper.upon]
    refine (hc w hI).mono ?_
    rintro e w' ⟨rfl, hb⟩
    exact ⟨r, by rw [dst_of ho], hb, by simp [Fa.den]⟩) h
/-- A new variable, that is only read. -/
theorem Plan.boxP {t : TypeId} {x : Operand} {v : Value} (ho : ops[i]? = some o) (hop : o.op = .box t x) (hg : wantB ops E o = some true) (hx : opF E x = some (.ex v))
    (h : Plan P ops Q n I d k (i + 1) (setE o.dst (ptrF v.cells.toList) E)) : Plan P ops Q n I d (k + 1) i E :=
  Plan.step ho (Step.run ho hg fun a w _ hs' => by
    have e1 := hs' x (by simp [hop, Op.operands]) _ hx
    simp only [Fa.den] at e1
    have hb : Below w.heap.size w (w.alloc (.cells v.cells t)) := (Below.refl _ _).alloc (Nat.le_refl _) _
    refine ⟨ptr w.heap.size, w.alloc (.cells v.cells t), ?_, hb, ⟨⟨w.heap.size, 0, none⟩, rfl, fun j u hu => ?_⟩⟩
    · simp [execOp, hop, e1, Instr.box, newVar, newRow]
    · rw [add_at]
      simp only [World.cell?, heap_alloc_new w (.cells v.cells t), Option.isSome_none, Bool.false_eq_true, if_false, Nat.zero_add]
      rw [← Array.getElem?_toList]; exact hu) h
theorem vals1 {x : Operand} {u : Value} (h1 : opF E x = some (.ex u)) : ∀ (a : Act) (w : World), (∀ y, y ∈ [x] → ∀ g, opF E y = some g → g.den w (a.eval y)) → [x].map a.eval = [u] := fun a w h => by
  have e1 := h x (by simp) _ h1
  simp only [Fa.den] at e1
  simp [e1]
theorem vals2 {x y : Operand} {u v : Value} (h1 : opF E x = some (.ex u)) (h2 : opF E y = some (.ex v)) : ∀ (a : Act) (w : World), (∀ z, z ∈ [x, y] → ∀ g, opF E z = some g → g.den w (a.eval z)) → [x, y].map a.eval = [u, v] := fun a w h => by
  have e1 := h x (by simp) _ h1
  have e2 := h y (by simp) _ h2
  simp only [Fa.den] at e1 e2
  simp [e1, e2]
theorem Spc.fnCalls {f : FuncId} {As : List Fa} {r : Value} {vs : List Value} {caps : Array Value} (h : Spc P f As fun _ => .ex r) (hd : ∀ w, I w → Fa.dens As w (vs ++ caps.toList)) : ∀ w, I w → Calls P f (vs.toArray ++ caps) w fun e w' => e = .returned r ∧ Below w.heap.size w w' := fun w hI => by
  have h1 := h w _ (hd w hI)
  have e : (vs ++ caps.toList).toArray = vs.toArray ++ caps := by apply Array.ext'; simp
  rw [e] at h1
  refine h1.mono ?_
  rintro e w' ⟨v, rfl, hb, hR⟩
  have := hR 0 (Nat.zero_le _)
  simp only [Fa.den] at this
  exact ⟨by rw [this], hb⟩
/-- A call that turns some of the chunks, told as one. -/
theorem Plan.callG {f : FuncId} {xs : List Operand} {ts : Array TypeId} {fs : List Fa} {c : Chunk} (D : Chunk) {X : Type} {ok : X → Prop} {R : X → Fa} {c' : X → Chunk} {fn : Func} (H' : X → List Chunk) (ho : ops[i]? = some o)
    (hop : o.op = .call { callee := .value (.func f), args := xs.toArray, argTypes := ts }) (hg : wantB ops E o = some true) (hc : SpcC P f fs c ok R c')
    (hf : P.funcs[f]? = some fn) (hbody : fn.body.isNone = false) (hname : (fn.name == "runtime.NumGoroutine") = false) (hd : ∀ d, o.dst = some d → d < n)
    (hx : Opnds I E xs fs) (hk : look E key = some (heap A H)) (hA : Own I A) (hsp : Ent (allC H) (Free.sepC c D)) (hjn : ∀ x, Ent (Free.sepC (c' x) D) (allC (H' x)))
    (h : ∀ x, ok x → Plan P ops Q n I d k (i + 1) (setE o.dst (R x) ((key, heap A (H' x)) :: sieve E))) (hq : d = false ∨ barB ops i = true := by first | exact .inl rfl | exact .inr (by kernel_rfl)) : Plan P ops Q n I d (k + 1) i E :=
  Plan.turn ho hg hd hk hA (fun a w φ hI hs hs' hL hLA hfr hsh => by
    unfold wpOp
    simp only [ho, wantB_spec ho hsh (fun t _ f hf => hs t f hf) hg, if_true]
    refine .inl ?_
    unfold Oper.wp
    have hrun : (execOp a.eval o).run P w = .ok (.enter f (xs.map a.eval).toArray) w := by
      have hn : ¬ fn.name = "runtime.NumGoroutine" := by simpa using hname
      have hb : ¬ fn.body = none := by intro e; rw [e] at hbody; cases hbody
      simp [execOp, hop, resolve, invoke, callFunc, Deferred.ofValue, Act.eval, hf, hb, hn]
    rw [hrun]
    simp only [Oper.upon]
    have hden := Opnds.dens (a := a) hI hx (fun x hxm f hf => hs' x (by simp [hop, Op.operands, Call.operands, hxm]) f hf)
    obtain ⟨G0, hG0, hG0s⟩ := hsp w _ hL.all
    obtain ⟨Gc, Gd, hG, hdis, hcH, hdH⟩ := hG0
    refine (hc w _ Gc hden hcH).mono ?_
    rintro e w' ⟨v, x, rfl, hok, hK, hR, F', hF', hFb⟩
    have hdH' : D.holds w' Gd := D.keep hdH hK (fun b hb hc => hdis b hc hb)
    obtain ⟨G2, hG2, hG2s⟩ := hjn x w' (fun b => F' b ∨ Gd b) ⟨F', Gd, fun b => Iff.rfl, fun b hb hb2 => by
      rcases hFb b hb with h1 | h1
      · exact hdis b h1 hb2
      · have := D.lt w Gd b hdH hb2; omega, hF', hdH'⟩
    obtain ⟨φ', hL', hφ'⟩ := Lies.ofAll hG2
    have hin : ∀ b, Gc b ∨ Gd b → A b := fun b hb => by
      obtain ⟨q, hq⟩ := hG0s b ((hG b).2 hb)
      exact hLA q b hq
    refine ⟨v, R x, H' x, φ', rfl, hK.mono (fun b _ hb => hin b (.inl hb)), hL', fun q b hb => ?_, hR, h x hok⟩
    rcases hG2s b (hφ' q b hb) with h1 | h1
    · rcases hFb b h1 with h2 | h2
      · exact hin b (.inl h2)
      · exact hfr b h2
    · exact hin b (.inr h1)) hq
/-- slices.overlaps of rows in unlike blocks. -/
theorem Plan.overlapsC {f : FuncId} {x y : Operand} {ts : Array TypeId} {tS tR e g g2 o1 o2 la ca lb cb q q2 : Nat} {cs cs2 : List Value} {z : Value} {sz bytes : Nat} {fn : Func} (ho : ops[i]? = some o) (hop : o.op = .call { callee := .value (.func f), args := #[x, y], argTypes := ts }) (hg : wantB ops E o = some true)
    (hf : P.funcs[f]? = some fn) (hbody : fn.body.isNone = true) (hname : (fn.name == "runtime.NumGoroutine") = false) (hnx : Extern.findNext fn = none) (hfi : Extern.find fn = some (Extern.SlicesOverlaps.overlaps #[tS, tS] #[tR]))
    (hx : opF E x = some (.ex (.slice (some ⟨g, o1, none⟩) la ca))) (hy : opF E y = some (.ex (.slice (some ⟨g2, o2, none⟩) lb cb))) (he : Elt P tS e z sz bytes)
    (hk : look E key = some (heap A H)) (hqH : H[q]? = some (blk g e cs)) (hqH2 : H[q2]? = some (blk g2 e cs2)) (hne : q ≠ q2) (hcs : cs2.length ≠ 0) (hkn : n ≤ key)
    (h : Plan P ops Q n I d k (i + 1) (setE o.dst (.ex (.bool false)) E)) : Plan P ops Q n I d (k + 1) i E :=
  Plan.step ho (Step.runK ho hg fun a w hI hs' hK => by
    have e1 := hs' x (by simp [hop, Op.operands, Call.operands]) _ hx
    have e2 := hs' y (by simp [hop, Op.operands, Call.operands]) _ hy
    simp only [Fa.den] at e1 e2
    obtain ⟨φ, hL, _⟩ := hK key hkn _ hk
    have h1 := hL.holds q _ hqH
    have h2 := hL.holds q2 _ hqH2
    have hgg : g ≠ g2 := fun he => hne (hL.apart q q2 g ((h1.2 g).2 rfl) ((h2.2 g).2 he))
    obtain ⟨inf, hi, hz, hsz, hby⟩ := he.hi
    refine ⟨.bool false, w, ?_, Below.refl _ _, by simp [Fa.den]⟩
    have hov := Lib.run_overlaps_apart (P := P) w tS tR e he.ht sz (fun w => by simp [sizeOf, typeInfo, hi, hsz]) ⟨g, o1, none⟩ ⟨g2, o2, none⟩ la ca lb cb hgg e e cs.length cs2.length
      (by simp [World.shape?, h1.1]) (by simp [World.shape?, h2.1]) hcs (by simp [World.frozen?, h1.1]) (by simp [World.frozen?, h1.1])
    have hcf := run_callFunc_extern hf hname hbody hnx hfi #[.slice (some ⟨g, o1, none⟩) la ca, .slice (some ⟨g2, o2, none⟩) lb cb] w
    rw [hov] at hcf
    have e0 : a.eval (.func f) = .func (.func f) #[] #[] := rfl
    simp [execOp, hop, resolve, invoke, Deferred.ofValue, e0, e1, e2, hcf]) h
end
end Go.Free
end
