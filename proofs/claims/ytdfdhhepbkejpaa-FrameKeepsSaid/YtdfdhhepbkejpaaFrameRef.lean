/-
  The reference that takes a frame returns what the plain function says.
-/
import Derived.Test.YtdfdhhepbkejpaaFrameFns
set_option linter.unusedSimpArgs false
set_option linter.unusedVariables false
namespace Go.Proofs.Ytdfdhhepbkejpaa
open Go.Free Go.RowKit Go.Proofs

set_option maxHeartbeats 2000000
theorem ref_FTake (l : List UInt8) (p : Int) (hp : -9223372036854775808 ≤ p ∧ p ≤ 9223372036854775807) (hl : l.length ≤ 140737488355000) :
    Spc Try.prog 28 [.ex (str l), .ex (.int .i64 p)] fun _ => .tup [.ex (str (fTake l p).1), .ex (.int .i64 (fTake l p).2.1), .ex (.int .i64 (fTake l p).2.2)] := by
  refine Spc.intro Try.func28 rfl (Nat.le_of_ble_eq_true rfl) fun w0 => ?_
  have hI := hIb w0
  repeat (first | refine Plan.move rfl rfl rfl rfl ?_ | refine Plan.assign rfl rfl rfl rfl ?_ | (refine Plan.ints rfl rfl rfl rfl rfl rfl ?_; (skip)) | refine J.seq (J.region mixed hI (by kernel_rfl) ?_) | refine J.seq (J.seq (J.region mixed hI (by kernel_rfl) ?_)))
  refine Plan.splitD (fun h0 => ?_) (fun h0 => ?_)
  · have hv : fTake l p = ([], 0, 1) := by unfold fTake; rw [if_pos (.inl h0)]
    rw [hv]
    repeat (first | refine Plan.assign rfl rfl rfl rfl ?_ | refine Plan.skip rfl rfl ?_ | refine Plan.pick rfl rfl rfl rfl rfl ?_ | refine J.seq (J.region mixed hI (by kernel_rfl) ?_) | refine J.condT rfl ?_)
    exact J.ret (Nrm.ret3 rfl (fun _ h => h) fun B hB => ⟨_, rfl, Ress.cons rfl (by exact Sub.refl _) (Ress.cons rfl (by exact Sub.refl _) (Ress.cons rfl (by exact Sub.refl _) Ress.nil))⟩)
  repeat (first | refine Plan.move rfl rfl rfl rfl ?_ | refine Plan.pick rfl rfl rfl rfl rfl ?_ | refine Plan.lenStr rfl rfl rfl rfl Try.underlying9 ?_ | (refine Plan.ints rfl rfl rfl rfl rfl rfl ?_; (skip)))
  refine J.condD rfl (fun h1 => ?_) (fun h1 => ?_)
  · have hv : fTake l p = ([], 0, 1) := by unfold fTake; rw [if_pos (.inr (by omega))]
    rw [hv]
    repeat (first | refine Plan.assign rfl rfl rfl rfl ?_ | refine J.seq (J.region mixed hI (by kernel_rfl) ?_))
    exact J.ret (Nrm.ret3 rfl (fun _ h => h) fun B hB => ⟨_, rfl, Ress.cons rfl (by exact Sub.refl _) (Ress.cons rfl (by exact Sub.refl _) (Ress.cons rfl (by exact Sub.refl _) Ress.nil))⟩)
  have hnn : ¬ (p < 0 ∨ (l.length : Int) < p) := by omega
  obtain ⟨a, ha⟩ : ∃ a : Nat, p = a := ⟨p.toNat, by omega⟩
  subst ha
  obtain ⟨r, hr⟩ : ∃ r, r = l.drop a := ⟨_, rfl⟩
  have hrl : r.length = l.length - a := by rw [hr, List.length_drop]
  have hr' : l.drop ((a : Int)).toNat = r := by rw [hr]; rfl
  have err : ∀ e, fTake0 r = ([], 0, e) → e ≠ 0 → fTake l a = ([], 0, e) := by
    intro e he h0
    unfold fTake; rw [if_neg hnn, hr', he, if_neg h0]
  repeat (first | refine Plan.move rfl rfl rfl rfl ?_ | refine Plan.lenStr rfl rfl rfl rfl Try.underlying9 ?_ | (refine Plan.ints rfl rfl rfl rfl rfl rfl ?_; (first | refine Plan.int (i64r (by omega)) ?_ | skip)) | refine J.seq (J.seq (J.region mixed hI (by kernel_rfl) ?_)) | refine J.skip ?_)
  refine J.condD rfl (fun h2 => ?_) (fun h2 => ?_)
  · rw [err 2 (by unfold fTake0; rw [if_pos (by omega)]) (by decide)]
    repeat (first | refine Plan.assign rfl rfl rfl rfl ?_ | refine J.seq (J.region mixed hI (by kernel_rfl) ?_))
    exact J.ret (Nrm.ret3 rfl (fun _ h => h) fun B hB => ⟨_, rfl, Ress.cons rfl (by exact Sub.refl _) (Ress.cons rfl (by exact Sub.refl _) (Ress.cons rfl (by exact Sub.refl _) Ress.nil))⟩)
  repeat (first | refine Plan.move rfl rfl rfl rfl ?_ | (refine Plan.ints rfl rfl rfl rfl rfl rfl ?_; (refine Plan.int (i64r (by omega)) ?_)) | refine J.seq (J.region mixed hI (by kernel_rfl) ?_) | refine J.skip ?_)
  refine Plan.sliceStr (p := l) (a0 := a) (b0 := a + 4) rfl rfl rfl rfl Try.underlying9 (.inr ⟨_, _, rfl, rfl⟩) (.inr ⟨_, _, rfl, rfl⟩) (by omega) (by omega) ?_
  have hs4 : (l.take (a + 4)).drop a = r.take 4 := by rw [hr, List.drop_take, Nat.add_sub_cancel_left]
  rw [hs4]
  refine Plan.call (B := w0.heap.size) rfl rfl rfl (ref_Open (r.take 4) (by rw [List.length_take]; omega)) Try.func47 rfl rfl (hBb w0) (by repeat (first | exact Opnds.nil | refine Opnds.cons rfl (by exact Sub.refl _) ?_)) ?_
  repeat (first | refine Plan.move rfl rfl rfl rfl ?_ | refine Plan.assign rfl rfl rfl rfl ?_ | refine Plan.extract rfl rfl rfl rfl rfl ?_ | refine Plan.un rfl rfl rfl rfl rfl ?_ | refine J.seq (J.seq (J.region mixed hI (by kernel_rfl) ?_)))
  refine J.cond rfl (fun h3 => ?_) (fun h3 => ?_)
  · have h3' : fits (r.take 4) = false := by simpa using h3
    rw [err 5 (by unfold fTake0; rw [if_neg (by omega), if_pos h3']) (by decide)]
    repeat (first | refine Plan.assign rfl rfl rfl rfl ?_ | refine J.seq (J.region mixed hI (by kernel_rfl) ?_))
    exact J.ret (Nrm.ret3 rfl (fun _ h => h) fun B hB => ⟨_, rfl, Ress.cons rfl (by exact Sub.refl _) (Ress.cons rfl (by exact Sub.refl _) (Ress.cons rfl (by exact Sub.refl _) Ress.nil))⟩)
  have h3' : fits (r.take 4) = true := by simpa using h3
  clear h3
  obtain ⟨h, hh⟩ : ∃ h, h = opened (r.take 4) := ⟨_, rfl⟩
  have hh2 : h.length = 2 := by rw [hh, (opened_len h3').2, List.length_take]; omega
  have hhl := hlen_le h
  have step : fTake0 r = if 65529 < hlen h then ([], 0, 4) else if r.length < hlen h + 6 then ([], 0, 2) else if fits ((r.take (hlen h + 6)).drop 4) = false then ([], 0, 5) else (opened ((r.take (hlen h + 6)).drop 4), hlen h + 6, 0) := by
    unfold fTake0; rw [if_neg (by omega), if_neg (by rw [h3']; decide), ← hh]
  refine J.weak [(0, .ex (str l)), (1, .ex (.int .i64 a)), (7, .ex (str h))] (Weak.cons rfl (Sub.refl _) (Weak.cons rfl (Sub.refl _) (Weak.cons rfl (Sub.of_eq (by rw [hh])) Weak.nil))) ?_
  have c0 := (h.getD 0 0).toNat_lt
  have c1 := (h.getD 1 0).toNat_lt
  repeat (first | refine Plan.move rfl rfl rfl rfl ?_ | refine J.seq (J.region mixed hI (by kernel_rfl) ?_) | refine J.skip ?_)
  refine Plan.indexS (p := h) (q := 0) rfl rfl rfl rfl rfl Try.underlying9 (by omega) ?_
  repeat (first | refine Plan.move rfl rfl rfl rfl ?_ | (refine Plan.ints rfl rfl rfl rfl rfl rfl ?_; (refine Plan.int (i64r (by omega)) ?_)) | (refine Plan.convInt rfl rfl rfl rfl (by first | exact Try.underlying3 | exact Try.underlying5) (by exact Try.underlying3) ?_; (refine Plan.int (i64u8 _) ?_)))
  refine Plan.indexS (p := h) (q := 1) rfl rfl rfl rfl rfl Try.underlying9 (by omega) ?_
  refine Plan.convInt rfl rfl rfl rfl (by exact Try.underlying5) (by exact Try.underlying3) ?_
  refine Plan.int (i64u8 _) ?_
  refine Plan.ints rfl rfl rfl rfl rfl rfl ?_
  refine Plan.int (y := (hlen h : Int)) (by rw [i64r (by omega)]; unfold hlen; omega) ?_
  repeat (first | refine Plan.move rfl rfl rfl rfl ?_ | refine Plan.assign rfl rfl rfl rfl ?_ | (refine Plan.ints rfl rfl rfl rfl rfl rfl ?_; (skip)) | refine J.seq (J.seq (J.region mixed hI (by kernel_rfl) ?_)))
  refine J.condD rfl (fun h4 => ?_) (fun h4 => ?_)
  · rw [err 4 (by rw [step, if_pos (by omega)]) (by decide)]
    repeat (first | refine Plan.assign rfl rfl rfl rfl ?_ | refine J.seq (J.region mixed hI (by kernel_rfl) ?_))
    exact J.ret (Nrm.ret3 rfl (fun _ h => h) fun B hB => ⟨_, rfl, Ress.cons rfl (by exact Sub.refl _) (Ress.cons rfl (by exact Sub.refl _) (Ress.cons rfl (by exact Sub.refl _) Ress.nil))⟩)
  rw [if_neg (by omega)] at step
  repeat (first | refine Plan.move rfl rfl rfl rfl ?_ | refine Plan.lenStr rfl rfl rfl rfl Try.underlying9 ?_ | (refine Plan.ints rfl rfl rfl rfl rfl rfl ?_; (first | refine Plan.int (i64r (by omega)) ?_ | skip)) | refine J.seq (J.seq (J.region mixed hI (by kernel_rfl) ?_)) | refine J.skip ?_)
  refine J.condD rfl (fun h5 => ?_) (fun h5 => ?_)
  · rw [err 2 (by rw [step, if_pos (by omega)]) (by decide)]
    repeat (first | refine Plan.assign rfl rfl rfl rfl ?_ | refine J.seq (J.region mixed hI (by kernel_rfl) ?_))
    exact J.ret (Nrm.ret3 rfl (fun _ h => h) fun B hB => ⟨_, rfl, Ress.cons rfl (by exact Sub.refl _) (Ress.cons rfl (by exact Sub.refl _) (Ress.cons rfl (by exact Sub.refl _) Ress.nil))⟩)
  rw [if_neg (by omega)] at step
  repeat (first | refine Plan.move rfl rfl rfl rfl ?_ | (refine Plan.ints rfl rfl rfl rfl rfl rfl ?_; (refine Plan.int (i64r (by omega)) ?_)) | refine J.seq (J.region mixed hI (by kernel_rfl) ?_) | refine J.skip ?_)
  refine Plan.sliceStr (p := l) (a0 := a + 4) (b0 := a + 6 + hlen h) rfl rfl rfl rfl Try.underlying9 (.inr ⟨_, _, rfl, rfl⟩) (.inr ⟨_, _, rfl, rfl⟩) (by omega) (by omega) ?_
  have hsn : (l.take (a + 6 + hlen h)).drop (a + 4) = (r.take (hlen h + 6)).drop 4 := by
    rw [hr, List.take_drop, List.drop_drop]; congr 2; omega
  rw [hsn]
  refine Plan.call (B := w0.heap.size) rfl rfl rfl (ref_Open ((r.take (hlen h + 6)).drop 4) (by rw [List.length_drop, List.length_take]; omega)) Try.func47 rfl rfl (hBb w0) (by repeat (first | exact Opnds.nil | refine Opnds.cons rfl (by exact Sub.refl _) ?_)) ?_
  repeat (first | refine Plan.move rfl rfl rfl rfl ?_ | refine Plan.assign rfl rfl rfl rfl ?_ | refine Plan.extract rfl rfl rfl rfl rfl ?_ | refine Plan.un rfl rfl rfl rfl rfl ?_ | refine J.seq (J.seq (J.region mixed hI (by kernel_rfl) ?_)))
  refine J.cond rfl (fun h6 => ?_) (fun h6 => ?_)
  · have h6' : fits ((r.take (hlen h + 6)).drop 4) = false := by simpa using h6
    rw [err 5 (by rw [step, if_pos h6']) (by decide)]
    repeat (first | refine Plan.assign rfl rfl rfl rfl ?_ | refine J.seq (J.region mixed hI (by kernel_rfl) ?_))
    exact J.ret (Nrm.ret3 rfl (fun _ h => h) fun B hB => ⟨_, rfl, Ress.cons rfl (by exact Sub.refl _) (Ress.cons rfl (by exact Sub.refl _) (Ress.cons rfl (by exact Sub.refl _) Ress.nil))⟩)
  have h6' : fits ((r.take (hlen h + 6)).drop 4) = true := by simpa using h6
  clear h6
  rw [if_neg (by rw [h6']; decide)] at step
  have hv : fTake l a = (opened ((r.take (hlen h + 6)).drop 4), a + (hlen h + 6), 0) := by
    unfold fTake; rw [if_neg hnn, hr', step]; rfl
  rw [hv]
  repeat (first | refine Plan.move rfl rfl rfl rfl ?_ | refine Plan.assign rfl rfl rfl rfl ?_ | (refine Plan.ints rfl rfl rfl rfl rfl rfl ?_; (refine Plan.int (i64r (by omega)) ?_)) | refine J.seq (J.region mixed hI (by kernel_rfl) ?_) | refine J.skip ?_)
  refine J.ret (Nrm.ret3 rfl (fun _ h => h) fun B hB => ⟨_, rfl, Ress.cons rfl (Sub.refl _) (Ress.cons rfl (Sub.of_eq ?_) (Ress.cons rfl (Sub.refl _) Ress.nil))⟩)
  congr 2
  dsimp only
  omega
end Go.Proofs.Ytdfdhhepbkejpaa
