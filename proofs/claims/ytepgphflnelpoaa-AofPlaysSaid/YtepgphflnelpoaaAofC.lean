/-
  Laid together: FrameFns, FrameRef, FrameLaws, FreeNest, FrameScan, FrameTexts, FrameLaid, FrameJoin, FreeMore2, FrameCut, FlatOpen, FreeHeap, FreeHeap2.
-/
import Derived.Test.YtepgphflnelpoaaAofB
import Derived.ChangeArms
import Derived.ChangeSlices
import Derived.SliceStrings
import Derived.OpenShut
import Derived.WalkKit

section
set_option linter.unusedSimpArgs false
set_option linter.unusedVariables false
set_option maxRecDepth 20000
namespace Go.Proofs.Ytepgphflnelpoaa
open Go.Free Go.RowKit Go.Proofs
set_option maxHeartbeats 2000000

def hdr (n : Nat) : List UInt8 := [UInt8.ofNat (n / 256), UInt8.ofNat (n % 256)]
def fPut (l : List UInt8) : List UInt8 := crcSeal (hdr l.length) ++ crcSeal l
theorem seal_length (l : List UInt8) : (crcSeal l).length = l.length + 2 := by simp [crcSeal]
theorem fPut_length (l : List UInt8) : (fPut l).length = l.length + 6 := by simp [fPut, seal_length, hdr]; omega
abbrev opened (l : List UInt8) : List UInt8 := (crcOpen l).getD []
abbrev fits (l : List UInt8) : Bool := (crcOpen l).isSome
def hlen (h : List UInt8) : Nat := (h.getD 0 0).toNat * 256 + (h.getD 1 0).toNat
/-- The body at the head of bytes, how many bytes that is, the error. -/
def fTake0 (r : List UInt8) : List UInt8 × Nat × Nat :=
  if r.length < 4 then ([], 0, 2)
  else if fits (r.take 4) = false then ([], 0, 5)
  else if 65529 < hlen (opened (r.take 4)) then ([], 0, 4)
  else if r.length < hlen (opened (r.take 4)) + 6 then ([], 0, 2)
  else if fits ((r.take (hlen (opened (r.take 4)) + 6)).drop 4) = false then ([], 0, 5)
  else (opened ((r.take (hlen (opened (r.take 4)) + 6)).drop 4), hlen (opened (r.take 4)) + 6, 0)
def fTake (l : List UInt8) (p : Int) : List UInt8 × Nat × Nat :=
  if p < 0 ∨ (l.length : Int) < p then ([], 0, 1)
  else if (fTake0 (l.drop p.toNat)).2.2 = 0 then ((fTake0 (l.drop p.toNat)).1, p.toNat + (fTake0 (l.drop p.toNat)).2.1, 0) else ([], 0, (fTake0 (l.drop p.toNat)).2.2)

theorem hlen_le (h : List UInt8) : hlen h ≤ 65535 := by
  have h1 := (h.getD 0 0).toNat_lt
  have h2 := (h.getD 1 0).toNat_lt
  unfold hlen; omega

theorem opened_len {l : List UInt8} (h : fits l = true) : 2 ≤ l.length ∧ (opened l).length = l.length - 2 := by
  unfold fits opened crcOpen at *
  split at h
  · rename_i g
    rw [if_pos g]
    simp only [Option.getD_some, List.length_take]; omega
  · cases h
theorem shl8 (x : Nat) (h : x < 65536) : IntKind.i64.wrap ((x : Int) * 2 ^ 8) = ((x * 256 : Nat) : Int) := by rw [i64r (by omega)]; omega
theorem hdr_cells (n : Nat) : flat [Value.int .u8 ((n / 256 % 256 : Nat) : Int), Value.int .u8 ((n % 256 % 256 : Nat) : Int)] = bs (hdr n) := by
  simp [hdr, bs, flat, Value.cells]
theorem hdr_cells2 {n : Nat} (h : n < 65536) : flat [Value.int .u8 ((n / 2 ^ 8 : Nat) : Int), Value.int .u8 ((n % 256 : Nat) : Int)] = bs (hdr n) := by
  rw [← hdr_cells, Nat.mod_mod, Nat.mod_eq_of_lt (a := n / 256) (by omega)]
theorem hdr_cells3 {n : Nat} (h : n < 65536) : flat [Value.int .u8 ((n / 256 : Nat) : Int), Value.int .u8 ((n % 256 : Nat) : Int)] = bs (hdr n) := hdr_cells2 h
theorem frame_Put (l : List UInt8) (hl : l.length ≤ 140737488355000) : Spc Try.prog 38 [bytesF l] fun B => .tup [ownB B (if 65529 < l.length then [] else fPut l), .ex (.int .i64 (if 65529 < l.length then 4 else 0))] := by
  refine Spc.intro Try.func38 rfl (Nat.le_of_ble_eq_true rfl) fun w0 => ?_
  have hI := hIb w0
  repeat (first | refine Plan.move rfl rfl rfl rfl ?_ | refine Plan.assign rfl rfl rfl rfl ?_ | (refine Plan.ints rfl rfl rfl rfl rfl rfl ?_; (skip)) | refine Plan.lenB rfl rfl rfl rfl (by exact Sub.old (fun _ h => h)) Try.underlying27 ?_ | refine J.seq (J.region mixed hI (by kernel_rfl) ?_) | refine J.seq (J.seq (J.region mixed hI (by kernel_rfl) ?_)))
  refine J.condD rfl (fun h => ?_) (fun h => ?_)
  · have h' : 65529 < l.length := by omega
    rw [if_pos h', if_pos h']
    repeat (first | refine Plan.assign rfl rfl rfl rfl ?_ | refine J.seq (J.region mixed hI (by kernel_rfl) ?_))
    exact J.ret (Nrm.ret2 rfl (fun _ h => h) fun B hB => ⟨_, rfl, Ress.cons rfl (by exact Sub.nilOwn (fun _ h => Nat.le_trans hB h.size)) (Ress.cons rfl (by exact Sub.refl _) Ress.nil)⟩)
  · have h' : ¬ 65529 < l.length := by omega
    rw [if_neg h', if_neg h']
    repeat (first | refine Plan.move rfl rfl rfl rfl ?_ | refine J.seq (J.region mixed hI (by kernel_rfl) ?_) | refine J.skip ?_)
    refine Plan.shift rfl rfl rfl rfl rfl rfl ?_
    refine Plan.int (fdivN l.length 8) ?_
    repeat (first | refine Plan.move rfl rfl rfl rfl ?_ | (refine Plan.convInt rfl rfl rfl rfl (by exact Try.underlying3) (by first | exact Try.underlying3 | exact Try.underlying5) ?_; (first | refine Plan.int (u8r (by omega)) ?_ | refine Plan.int (remN _ _) ?_)))
    refine Plan.lit (B := w0.heap.size) rfl rfl rfl eltB rfl (hBb w0) rfl (by simp [Value.cells]) (by decide) ?_
    refine Plan.call (B := w0.heap.size) rfl rfl rfl (crc_Seal (hdr l.length) (by simp [hdr])) Try.func53 rfl rfl (hBb w0) (Opnds.cons rfl (Sub.rowEq (hdr_cells2 (by omega)) Sub.own) Opnds.nil) ?_
    repeat (refine Plan.move rfl rfl rfl rfl ?_)
    refine Plan.call (B := w0.heap.size) rfl rfl rfl (crc_Seal l (by omega)) Try.func53 rfl rfl (hBb w0) (by repeat (first | exact Opnds.nil | refine Opnds.cons rfl (by exact Sub.old (fun _ h => h)) ?_)) ?_
    refine Plan.append (news := bs (crcSeal l)) rfl rfl rfl rfl (Sub.refl _) rfl Sub.own eltB (by intro d hd; cases hd; decide) (hGb w0) (bs_one _) (by simp [bs, seal_length, hdr]; omega) ?_
    rw [← bs_append]
    repeat (refine Plan.assign rfl rfl rfl rfl ?_)
    exact J.ret (Nrm.ret2 rfl (fun _ h => h) fun B hB => ⟨_, rfl, Ress.cons rfl (by exact Sub.ownLower hB) (Ress.cons rfl (by exact Sub.refl _) Ress.nil)⟩)

theorem ref_Frame (l : List UInt8) (hl : l.length ≤ 65529) : Spc Try.prog 48 [.ex (str l)] fun _ => .ex (str (fPut l)) := by
  refine Spc.intro Try.func48 rfl (Nat.le_of_ble_eq_true rfl) fun w0 => ?_
  have hI := hIb w0
  repeat (first | refine Plan.move rfl rfl rfl rfl ?_ | refine Plan.assign rfl rfl rfl rfl ?_ | refine Plan.lenStr rfl rfl rfl rfl Try.underlying9 ?_ | (refine Plan.ints rfl rfl rfl rfl rfl rfl ?_; (first | refine Plan.int (quoN (by omega)) ?_ | refine Plan.int (remN _ _) ?_)) | (refine Plan.convInt rfl rfl rfl rfl (by exact Try.underlying3) (by first | exact Try.underlying3 | exact Try.underlying5) ?_; (refine Plan.int (u8r (by omega)) ?_)) | refine J.seq (J.region mixed hI (by kernel_rfl) ?_))
  refine Plan.lit (B := w0.heap.size) rfl rfl rfl eltB rfl (hBb w0) rfl (by simp [Value.cells]) (by decide) ?_
  refine Plan.convBS (p := hdr l.length) rfl rfl rfl rfl (Sub.rowEq (hdr_cells3 (by omega)) Sub.own) Try.underlying27 Try.underlying9 Try.underlying5 ?_
  refine Plan.call (B := w0.heap.size) rfl rfl rfl (ref_Seal (hdr l.length) (by simp [hdr])) Try.func68 rfl rfl (hBb w0) (by repeat (first | exact Opnds.nil | refine Opnds.cons rfl (by exact Sub.refl _) ?_)) ?_
  repeat (refine Plan.move rfl rfl rfl rfl ?_)
  refine Plan.call (B := w0.heap.size) rfl rfl rfl (ref_Seal l (by omega)) Try.func68 rfl rfl (hBb w0) (by repeat (first | exact Opnds.nil | refine Opnds.cons rfl (by exact Sub.refl _) ?_)) ?_
  refine Plan.concat rfl rfl rfl rfl rfl (by simp [seal_length, hdr]; omega) ?_
  repeat (refine Plan.assign rfl rfl rfl rfl ?_)
  exact J.ret (Nrm.ret1 rfl (fun _ h => h) rfl fun B _ => Sub.refl _)

theorem frame_Take (l : List UInt8) (p : Int) (hp : -9223372036854775808 ≤ p ∧ p ≤ 9223372036854775807) (hl : l.length ≤ 140737488355000) :
    Spc Try.prog 51 [bytesF l, .ex (.int .i64 p)] fun B => .tup [ownB B (fTake l p).1, .ex (.int .i64 (fTake l p).2.1), .ex (.int .i64 (fTake l p).2.2)] := by
  refine Spc.intro Try.func51 rfl (Nat.le_of_ble_eq_true rfl) fun w0 => ?_
  have hI := hIb w0
  repeat (first | refine Plan.move rfl rfl rfl rfl ?_ | refine Plan.assign rfl rfl rfl rfl ?_ | (refine Plan.ints rfl rfl rfl rfl rfl rfl ?_; (skip)) | refine J.seq (J.region mixed hI (by kernel_rfl) ?_) | refine J.seq (J.seq (J.region mixed hI (by kernel_rfl) ?_)))
  refine Plan.splitD (fun h0 => ?_) (fun h0 => ?_)
  · have hv : fTake l p = ([], 0, 1) := by unfold fTake; rw [if_pos (.inl h0)]
    rw [hv]
    repeat (first | refine Plan.assign rfl rfl rfl rfl ?_ | refine Plan.skip rfl rfl ?_ | refine Plan.pick rfl rfl rfl rfl rfl ?_ | refine J.seq (J.region mixed hI (by kernel_rfl) ?_) | refine J.condT rfl ?_)
    exact J.ret (Nrm.ret3 rfl (fun _ h => h) fun B hB => ⟨_, rfl, Ress.cons rfl (by exact Sub.nilOwn (fun _ h => Nat.le_trans hB h.size)) (Ress.cons rfl (by exact Sub.refl _) (Ress.cons rfl (by exact Sub.refl _) Ress.nil))⟩)
  repeat (first | refine Plan.move rfl rfl rfl rfl ?_ | refine Plan.pick rfl rfl rfl rfl rfl ?_ | (refine Plan.ints rfl rfl rfl rfl rfl rfl ?_; (skip)) | refine Plan.lenB rfl rfl rfl rfl (by exact Sub.old (fun _ h => h)) Try.underlying27 ?_)
  refine J.condD rfl (fun h1 => ?_) (fun h1 => ?_)
  · have hv : fTake l p = ([], 0, 1) := by unfold fTake; rw [if_pos (.inr (by omega))]
    rw [hv]
    repeat (first | refine Plan.assign rfl rfl rfl rfl ?_ | refine J.seq (J.region mixed hI (by kernel_rfl) ?_))
    exact J.ret (Nrm.ret3 rfl (fun _ h => h) fun B hB => ⟨_, rfl, Ress.cons rfl (by exact Sub.nilOwn (fun _ h => Nat.le_trans hB h.size)) (Ress.cons rfl (by exact Sub.refl _) (Ress.cons rfl (by exact Sub.refl _) Ress.nil))⟩)
  have hnn : ¬ (p < 0 ∨ (l.length : Int) < p) := by omega
  obtain ⟨r, hr⟩ : ∃ r, r = l.drop p.toNat := ⟨_, rfl⟩
  have hrl : r.length = l.length - p.toNat := by rw [hr, List.length_drop]
  have err : ∀ e, fTake0 r = ([], 0, e) → e ≠ 0 → fTake l p = ([], 0, e) := by
    intro e he h0
    unfold fTake; rw [if_neg hnn, ← hr, he, if_neg h0]
  repeat (first | refine Plan.move rfl rfl rfl rfl ?_ | refine J.seq (J.region mixed hI (by kernel_rfl) ?_) | refine J.skip ?_)
  refine Plan.int (y := ((p.toNat : Nat) : Int)) (by omega) ?_
  refine Plan.sliceB (l := l) (a0 := p.toNat) (b0 := l.length) rfl rfl rfl rfl (Sub.old fun _ h => h) eltB (.inr ⟨_, _, rfl, rfl⟩) (.inl ⟨rfl, rfl⟩) (by omega) (Nat.le_refl _) ?_
  rw [List.take_length, ← hr]
  repeat (first | refine Plan.move rfl rfl rfl rfl ?_ | refine Plan.assign rfl rfl rfl rfl ?_ | (refine Plan.ints rfl rfl rfl rfl rfl rfl ?_; (skip)) | refine Plan.lenB rfl rfl rfl rfl (by exact Sub.refl _) Try.underlying27 ?_ | refine J.seq (J.seq (J.region mixed hI (by kernel_rfl) ?_)))
  refine J.condD rfl (fun h2 => ?_) (fun h2 => ?_)
  · rw [err 2 (by unfold fTake0; rw [if_pos (by omega)]) (by decide)]
    repeat (first | refine Plan.assign rfl rfl rfl rfl ?_ | refine J.seq (J.region mixed hI (by kernel_rfl) ?_))
    exact J.ret (Nrm.ret3 rfl (fun _ h => h) fun B hB => ⟨_, rfl, Ress.cons rfl (by exact Sub.nilOwn (fun _ h => Nat.le_trans hB h.size)) (Ress.cons rfl (by exact Sub.refl _) (Ress.cons rfl (by exact Sub.refl _) Ress.nil))⟩)
  repeat (first | refine Plan.move rfl rfl rfl rfl ?_ | refine J.seq (J.region mixed hI (by kernel_rfl) ?_) | refine J.skip ?_)
  refine Plan.sliceB (l := r) (a0 := 0) (b0 := 4) rfl rfl rfl rfl (Sub.refl _) eltB (.inl ⟨rfl, rfl⟩) (.inr ⟨_, _, rfl, rfl⟩) (by omega) (by omega) ?_
  rw [List.drop_zero]
  refine Plan.call (B := w0.heap.size) rfl rfl rfl (crc_Open (r.take 4) (by rw [List.length_take]; omega)) Try.func69 rfl rfl (hBb w0) (by repeat (first | exact Opnds.nil | refine Opnds.cons rfl (by exact Sub.refl _) ?_)) ?_
  repeat (first | refine Plan.move rfl rfl rfl rfl ?_ | refine Plan.assign rfl rfl rfl rfl ?_ | refine Plan.extract rfl rfl rfl rfl rfl ?_ | refine Plan.un rfl rfl rfl rfl rfl ?_ | refine J.seq (J.seq (J.region mixed hI (by kernel_rfl) ?_)))
  refine J.cond rfl (fun h3 => ?_) (fun h3 => ?_)
  · have h3' : fits (r.take 4) = false := by simpa using h3
    rw [err 5 (by unfold fTake0; rw [if_neg (by omega), if_pos h3']) (by decide)]
    repeat (first | refine Plan.assign rfl rfl rfl rfl ?_ | refine J.seq (J.region mixed hI (by kernel_rfl) ?_))
    exact J.ret (Nrm.ret3 rfl (fun _ h => h) fun B hB => ⟨_, rfl, Ress.cons rfl (by exact Sub.nilOwn (fun _ h => Nat.le_trans hB h.size)) (Ress.cons rfl (by exact Sub.refl _) (Ress.cons rfl (by exact Sub.refl _) Ress.nil))⟩)
  have h3' : fits (r.take 4) = true := by simpa using h3
  clear h3
  obtain ⟨h, hh⟩ : ∃ h, h = opened (r.take 4) := ⟨_, rfl⟩
  have hh2 : h.length = 2 := by rw [hh, (opened_len h3').2, List.length_take]; omega
  have hhl := hlen_le h
  have e0 : ∀ x y, fTake0 r = x → x = y → fTake0 r = y := fun x y h1 h2 => h1.trans h2
  have step : fTake0 r = if 65529 < hlen h then ([], 0, 4) else if r.length < hlen h + 6 then ([], 0, 2) else if fits ((r.take (hlen h + 6)).drop 4) = false then ([], 0, 5) else (opened ((r.take (hlen h + 6)).drop 4), hlen h + 6, 0) := by
    unfold fTake0; rw [if_neg (by omega), if_neg (by rw [h3']; decide), ← hh]
  refine J.weak [(0, .old w0 (bytesF l)), (1, .ex (.int .i64 p)), (7, bytesF r), (8, ownB w0.heap.size h)] (Weak.cons rfl (Sub.refl _) (Weak.cons rfl (Sub.refl _) (Weak.cons rfl (Sub.refl _) (Weak.cons rfl (Sub.of_eq (by rw [hh])) Weak.nil)))) ?_
  have c0 := (h.getD 0 0).toNat_lt
  have c1 := (h.getD 1 0).toNat_lt
  repeat (first | refine Plan.move rfl rfl rfl rfl ?_ | refine J.seq (J.region mixed hI (by kernel_rfl) ?_) | refine J.skip ?_)
  refine Plan.indexB (l := h) (q := 0) rfl rfl rfl rfl Sub.own rfl eltB (by omega) ?_
  refine Plan.load rfl rfl rfl rfl (Sub.refl _) Try.underlying5 rfl ?_
  repeat ((refine Plan.convInt rfl rfl rfl rfl (by first | exact Try.underlying3 | exact Try.underlying5) (by exact Try.underlying3) ?_; (refine Plan.int (i64u8 _) ?_)))
  refine Plan.shift rfl rfl rfl rfl rfl rfl ?_
  refine Plan.int (shl8 (h.getD 0 0).toNat (by omega)) ?_
  repeat (refine Plan.move rfl rfl rfl rfl ?_)
  refine Plan.indexB (l := h) (q := 1) rfl rfl rfl rfl Sub.own rfl eltB (by omega) ?_
  refine Plan.load rfl rfl rfl rfl (Sub.refl _) Try.underlying5 rfl ?_
  refine Plan.convInt rfl rfl rfl rfl (by exact Try.underlying5) (by exact Try.underlying3) ?_
  refine Plan.int (i64r (by omega)) ?_
  refine Plan.ints rfl rfl rfl rfl rfl rfl ?_
  refine Plan.int (y := (hlen h : Int)) (or256 (h.getD 0 0).toNat (h.getD 1 0).toNat (by omega) (by omega)) ?_
  repeat (refine Plan.assign rfl rfl rfl rfl ?_)
  refine J.seq (J.block ?_)
  repeat (first | refine Plan.move rfl rfl rfl rfl ?_ | refine Plan.assign rfl rfl rfl rfl ?_ | (refine Plan.ints rfl rfl rfl rfl rfl rfl ?_; (skip)) | refine J.seq (J.region mixed hI (by kernel_rfl) ?_))
  refine J.condD rfl (fun h4 => ?_) (fun h4 => ?_)
  · rw [err 4 (by rw [step, if_pos (by omega)]) (by decide)]
    repeat (first | refine Plan.assign rfl rfl rfl rfl ?_ | refine J.seq (J.region mixed hI (by kernel_rfl) ?_))
    exact J.ret (Nrm.ret3 rfl (fun _ h => h) fun B hB => ⟨_, rfl, Ress.cons rfl (by exact Sub.nilOwn (fun _ h => Nat.le_trans hB h.size)) (Ress.cons rfl (by exact Sub.refl _) (Ress.cons rfl (by exact Sub.refl _) Ress.nil))⟩)
  rw [if_neg (by omega)] at step
  repeat (first | refine Plan.move rfl rfl rfl rfl ?_ | refine Plan.assign rfl rfl rfl rfl ?_ | (refine Plan.ints rfl rfl rfl rfl rfl rfl ?_; (first | refine Plan.int (i64r (by omega)) ?_ | skip)) | refine Plan.lenB rfl rfl rfl rfl (by exact Sub.refl _) Try.underlying27 ?_ | refine J.seq (J.region mixed hI (by kernel_rfl) ?_))
  refine J.condD rfl (fun h5 => ?_) (fun h5 => ?_)
  · rw [err 2 (by rw [step, if_pos (by omega)]) (by decide)]
    repeat (first | refine Plan.assign rfl rfl rfl rfl ?_ | refine J.seq (J.region mixed hI (by kernel_rfl) ?_))
    exact J.ret (Nrm.ret3 rfl (fun _ h => h) fun B hB => ⟨_, rfl, Ress.cons rfl (by exact Sub.nilOwn (fun _ h => Nat.le_trans hB h.size)) (Ress.cons rfl (by exact Sub.refl _) (Ress.cons rfl (by exact Sub.refl _) Ress.nil))⟩)
  rw [if_neg (by omega)] at step
  repeat (first | refine Plan.move rfl rfl rfl rfl ?_ | (refine Plan.ints rfl rfl rfl rfl rfl rfl ?_; (refine Plan.int (i64r (by omega)) ?_)) | refine J.seq (J.region mixed hI (by kernel_rfl) ?_) | refine J.skip ?_)
  refine Plan.sliceB (l := r) (a0 := 4) (b0 := hlen h + 6) rfl rfl rfl rfl (Sub.refl _) eltB (.inr ⟨_, _, rfl, rfl⟩) (.inr ⟨_, _, rfl, rfl⟩) (by omega) (by omega) ?_
  refine Plan.call (B := w0.heap.size) rfl rfl rfl (crc_Open ((r.take (hlen h + 6)).drop 4) (by rw [List.length_drop, List.length_take]; omega)) Try.func69 rfl rfl (hBb w0) (by repeat (first | exact Opnds.nil | refine Opnds.cons rfl (by exact Sub.refl _) ?_)) ?_
  repeat (first | refine Plan.move rfl rfl rfl rfl ?_ | refine Plan.assign rfl rfl rfl rfl ?_ | refine Plan.extract rfl rfl rfl rfl rfl ?_ | refine Plan.un rfl rfl rfl rfl rfl ?_ | refine J.seq (J.seq (J.region mixed hI (by kernel_rfl) ?_)))
  refine J.cond rfl (fun h6 => ?_) (fun h6 => ?_)
  · have h6' : fits ((r.take (hlen h + 6)).drop 4) = false := by simpa using h6
    rw [err 5 (by rw [step, if_pos h6']) (by decide)]
    repeat (first | refine Plan.assign rfl rfl rfl rfl ?_ | refine J.seq (J.region mixed hI (by kernel_rfl) ?_))
    exact J.ret (Nrm.ret3 rfl (fun _ h => h) fun B hB => ⟨_, rfl, Ress.cons rfl (by exact Sub.nilOwn (fun _ h => Nat.le_trans hB h.size)) (Ress.cons rfl (by exact Sub.refl _) (Ress.cons rfl (by exact Sub.refl _) Ress.nil))⟩)
  have h6' : fits ((r.take (hlen h + 6)).drop 4) = true := by simpa using h6
  clear h6
  rw [if_neg (by rw [h6']; decide)] at step
  have hv : fTake l p = (opened ((r.take (hlen h + 6)).drop 4), p.toNat + (hlen h + 6), 0) := by
    unfold fTake; rw [if_neg hnn, ← hr, step]; rfl
  rw [hv]
  repeat (first | refine Plan.move rfl rfl rfl rfl ?_ | refine Plan.assign rfl rfl rfl rfl ?_ | (refine Plan.ints rfl rfl rfl rfl rfl rfl ?_; (refine Plan.int (i64r (by omega)) ?_)) | refine J.seq (J.region mixed hI (by kernel_rfl) ?_) | refine J.skip ?_)
  refine J.ret (Nrm.ret3 rfl (fun _ h => h) fun B hB => ⟨_, rfl, Ress.cons rfl (Sub.ownLower hB) (Ress.cons rfl (Sub.of_eq ?_) (Ress.cons rfl (Sub.refl _) Ress.nil))⟩)
  congr 2
  dsimp only
  omega

end Go.Proofs.Ytepgphflnelpoaa
end

section
set_option linter.unusedSimpArgs false
set_option linter.unusedVariables false
set_option maxRecDepth 20000
namespace Go.Proofs.Ytepgphflnelpoaa
open Go.Free Go.RowKit Go.Proofs

set_option maxHeartbeats 2000000
theorem ref_FTake (l : List UInt8) (p : Int) (hp : -9223372036854775808 ≤ p ∧ p ≤ 9223372036854775807) (hl : l.length ≤ 140737488355000) :
    Spc Try.prog 55 [.ex (str l), .ex (.int .i64 p)] fun _ => .tup [.ex (str (fTake l p).1), .ex (.int .i64 (fTake l p).2.1), .ex (.int .i64 (fTake l p).2.2)] := by
  refine Spc.intro Try.func55 rfl (Nat.le_of_ble_eq_true rfl) fun w0 => ?_
  have hI := hIb w0
  repeat (first | refine Plan.move rfl rfl rfl rfl ?_ | refine Plan.assign rfl rfl rfl rfl ?_ | (refine Plan.ints rfl rfl rfl rfl rfl rfl ?_; (skip)) | refine J.seq (J.region mixed hI (by kernel_rfl) ?_) | refine J.seq (J.seq (J.region mixed hI (by kernel_rfl) ?_)))
  refine Plan.splitD (fun h0 => ?_) (fun h0 => ?_)
  · have hv : fTake l p = ([], 0, 1) := by unfold fTake; rw [if_pos (.inl h0)]
    rw [hv]
    repeat (first | refine Plan.assign rfl rfl rfl rfl ?_ | refine Plan.skip rfl rfl ?_ | refine Plan.pick rfl rfl rfl rfl rfl ?_ | refine J.seq (J.region mixed hI (by kernel_rfl) ?_) | refine J.condT rfl ?_)
    exact J.ret (Nrm.ret3 rfl (fun _ h => h) fun B hB => ⟨_, rfl, Ress.cons rfl (by exact Sub.refl _) (Ress.cons rfl (by exact Sub.refl _) (Ress.cons rfl (by exact Sub.refl _) Ress.nil))⟩)
  repeat (first | refine Plan.move rfl rfl rfl rfl ?_ | refine Plan.pick rfl rfl rfl rfl rfl ?_ | refine Plan.lenStr rfl rfl rfl rfl Try.underlying9 ?_ | (refine Plan.ints rfl rfl rfl rfl rfl rfl ?_; (skip)))
  refine J.condD rfl (fun h1 => ?_) (fun h1 => ?_)
  · have hv : fTake l p = ([], 0, 1) := by unfold fTake; rw [if_pos (.inr (by omega))]
    rw [hv]
    repeat (first | refine Plan.assign rfl rfl rfl rfl ?_ | refine J.seq (J.region mixed hI (by kernel_rfl) ?_))
    exact J.ret (Nrm.ret3 rfl (fun _ h => h) fun B hB => ⟨_, rfl, Ress.cons rfl (by exact Sub.refl _) (Ress.cons rfl (by exact Sub.refl _) (Ress.cons rfl (by exact Sub.refl _) Ress.nil))⟩)
  have hnn : ¬ (p < 0 ∨ (l.length : Int) < p) := by omega
  obtain ⟨a, ha⟩ : ∃ a : Nat, p = a := ⟨p.toNat, by omega⟩
  subst ha
  obtain ⟨r, hr⟩ : ∃ r, r = l.drop a := ⟨_, rfl⟩
  have hrl : r.length = l.length - a := by rw [hr, List.length_drop]
  have hr' : l.drop ((a : Int)).toNat = r := by rw [hr]; rfl
  have err : ∀ e, fTake0 r = ([], 0, e) → e ≠ 0 → fTake l a = ([], 0, e) := by
    intro e he h0
    unfold fTake; rw [if_neg hnn, hr', he, if_neg h0]
  repeat (first | refine Plan.move rfl rfl rfl rfl ?_ | refine Plan.lenStr rfl rfl rfl rfl Try.underlying9 ?_ | (refine Plan.ints rfl rfl rfl rfl rfl rfl ?_; (first | refine Plan.int (i64r (by omega)) ?_ | skip)) | refine J.seq (J.seq (J.region mixed hI (by kernel_rfl) ?_)) | refine J.skip ?_)
  refine J.condD rfl (fun h2 => ?_) (fun h2 => ?_)
  · rw [err 2 (by unfold fTake0; rw [if_pos (by omega)]) (by decide)]
    repeat (first | refine Plan.assign rfl rfl rfl rfl ?_ | refine J.seq (J.region mixed hI (by kernel_rfl) ?_))
    exact J.ret (Nrm.ret3 rfl (fun _ h => h) fun B hB => ⟨_, rfl, Ress.cons rfl (by exact Sub.refl _) (Ress.cons rfl (by exact Sub.refl _) (Ress.cons rfl (by exact Sub.refl _) Ress.nil))⟩)
  repeat (first | refine Plan.move rfl rfl rfl rfl ?_ | (refine Plan.ints rfl rfl rfl rfl rfl rfl ?_; (refine Plan.int (i64r (by omega)) ?_)) | refine J.seq (J.region mixed hI (by kernel_rfl) ?_) | refine J.skip ?_)
  refine Plan.sliceStr (p := l) (a0 := a) (b0 := a + 4) rfl rfl rfl rfl Try.underlying9 (.inr ⟨_, _, rfl, rfl⟩) (.inr ⟨_, _, rfl, rfl⟩) (by omega) (by omega) ?_
  have hs4 : (l.take (a + 4)).drop a = r.take 4 := by rw [hr, List.drop_take, Nat.add_sub_cancel_left]
  rw [hs4]
  refine Plan.call (B := w0.heap.size) rfl rfl rfl (ref_Open (r.take 4) (by rw [List.length_take]; omega)) Try.func78 rfl rfl (hBb w0) (by repeat (first | exact Opnds.nil | refine Opnds.cons rfl (by exact Sub.refl _) ?_)) ?_
  repeat (first | refine Plan.move rfl rfl rfl rfl ?_ | refine Plan.assign rfl rfl rfl rfl ?_ | refine Plan.extract rfl rfl rfl rfl rfl ?_ | refine Plan.un rfl rfl rfl rfl rfl ?_ | refine J.seq (J.seq (J.region mixed hI (by kernel_rfl) ?_)))
  refine J.cond rfl (fun h3 => ?_) (fun h3 => ?_)
  · have h3' : fits (r.take 4) = false := by simpa using h3
    rw [err 5 (by unfold fTake0; rw [if_neg (by omega), if_pos h3']) (by decide)]
    repeat (first | refine Plan.assign rfl rfl rfl rfl ?_ | refine J.seq (J.region mixed hI (by kernel_rfl) ?_))
    exact J.ret (Nrm.ret3 rfl (fun _ h => h) fun B hB => ⟨_, rfl, Ress.cons rfl (by exact Sub.refl _) (Ress.cons rfl (by exact Sub.refl _) (Ress.cons rfl (by exact Sub.refl _) Ress.nil))⟩)
  have h3' : fits (r.take 4) = true := by simpa using h3
  clear h3
  obtain ⟨h, hh⟩ : ∃ h, h = opened (r.take 4) := ⟨_, rfl⟩
  have hh2 : h.length = 2 := by rw [hh, (opened_len h3').2, List.length_take]; omega
  have hhl := hlen_le h
  have step : fTake0 r = if 65529 < hlen h then ([], 0, 4) else if r.length < hlen h + 6 then ([], 0, 2) else if fits ((r.take (hlen h + 6)).drop 4) = false then ([], 0, 5) else (opened ((r.take (hlen h + 6)).drop 4), hlen h + 6, 0) := by
    unfold fTake0; rw [if_neg (by omega), if_neg (by rw [h3']; decide), ← hh]
  refine J.weak [(0, .ex (str l)), (1, .ex (.int .i64 a)), (7, .ex (str h))] (Weak.cons rfl (Sub.refl _) (Weak.cons rfl (Sub.refl _) (Weak.cons rfl (Sub.of_eq (by rw [hh])) Weak.nil))) ?_
  have c0 := (h.getD 0 0).toNat_lt
  have c1 := (h.getD 1 0).toNat_lt
  repeat (first | refine Plan.move rfl rfl rfl rfl ?_ | refine J.seq (J.region mixed hI (by kernel_rfl) ?_) | refine J.skip ?_)
  refine Plan.indexS (p := h) (q := 0) rfl rfl rfl rfl rfl Try.underlying9 (by omega) ?_
  repeat (first | refine Plan.move rfl rfl rfl rfl ?_ | (refine Plan.ints rfl rfl rfl rfl rfl rfl ?_; (refine Plan.int (i64r (by omega)) ?_)) | (refine Plan.convInt rfl rfl rfl rfl (by first | exact Try.underlying3 | exact Try.underlying5) (by exact Try.underlying3) ?_; (refine Plan.int (i64u8 _) ?_)))
  refine Plan.indexS (p := h) (q := 1) rfl rfl rfl rfl rfl Try.underlying9 (by omega) ?_
  refine Plan.convInt rfl rfl rfl rfl (by exact Try.underlying5) (by exact Try.underlying3) ?_
  refine Plan.int (i64u8 _) ?_
  refine Plan.ints rfl rfl rfl rfl rfl rfl ?_
  refine Plan.int (y := (hlen h : Int)) (by rw [i64r (by omega)]; unfold hlen; omega) ?_
  repeat (first | refine Plan.move rfl rfl rfl rfl ?_ | refine Plan.assign rfl rfl rfl rfl ?_ | (refine Plan.ints rfl rfl rfl rfl rfl rfl ?_; (skip)) | refine J.seq (J.seq (J.region mixed hI (by kernel_rfl) ?_)))
  refine J.condD rfl (fun h4 => ?_) (fun h4 => ?_)
  · rw [err 4 (by rw [step, if_pos (by omega)]) (by decide)]
    repeat (first | refine Plan.assign rfl rfl rfl rfl ?_ | refine J.seq (J.region mixed hI (by kernel_rfl) ?_))
    exact J.ret (Nrm.ret3 rfl (fun _ h => h) fun B hB => ⟨_, rfl, Ress.cons rfl (by exact Sub.refl _) (Ress.cons rfl (by exact Sub.refl _) (Ress.cons rfl (by exact Sub.refl _) Ress.nil))⟩)
  rw [if_neg (by omega)] at step
  repeat (first | refine Plan.move rfl rfl rfl rfl ?_ | refine Plan.lenStr rfl rfl rfl rfl Try.underlying9 ?_ | (refine Plan.ints rfl rfl rfl rfl rfl rfl ?_; (first | refine Plan.int (i64r (by omega)) ?_ | skip)) | refine J.seq (J.seq (J.region mixed hI (by kernel_rfl) ?_)) | refine J.skip ?_)
  refine J.condD rfl (fun h5 => ?_) (fun h5 => ?_)
  · rw [err 2 (by rw [step, if_pos (by omega)]) (by decide)]
    repeat (first | refine Plan.assign rfl rfl rfl rfl ?_ | refine J.seq (J.region mixed hI (by kernel_rfl) ?_))
    exact J.ret (Nrm.ret3 rfl (fun _ h => h) fun B hB => ⟨_, rfl, Ress.cons rfl (by exact Sub.refl _) (Ress.cons rfl (by exact Sub.refl _) (Ress.cons rfl (by exact Sub.refl _) Ress.nil))⟩)
  rw [if_neg (by omega)] at step
  repeat (first | refine Plan.move rfl rfl rfl rfl ?_ | (refine Plan.ints rfl rfl rfl rfl rfl rfl ?_; (refine Plan.int (i64r (by omega)) ?_)) | refine J.seq (J.region mixed hI (by kernel_rfl) ?_) | refine J.skip ?_)
  refine Plan.sliceStr (p := l) (a0 := a + 4) (b0 := a + 6 + hlen h) rfl rfl rfl rfl Try.underlying9 (.inr ⟨_, _, rfl, rfl⟩) (.inr ⟨_, _, rfl, rfl⟩) (by omega) (by omega) ?_
  have hsn : (l.take (a + 6 + hlen h)).drop (a + 4) = (r.take (hlen h + 6)).drop 4 := by
    rw [hr, List.take_drop, List.drop_drop]; congr 2; omega
  rw [hsn]
  refine Plan.call (B := w0.heap.size) rfl rfl rfl (ref_Open ((r.take (hlen h + 6)).drop 4) (by rw [List.length_drop, List.length_take]; omega)) Try.func78 rfl rfl (hBb w0) (by repeat (first | exact Opnds.nil | refine Opnds.cons rfl (by exact Sub.refl _) ?_)) ?_
  repeat (first | refine Plan.move rfl rfl rfl rfl ?_ | refine Plan.assign rfl rfl rfl rfl ?_ | refine Plan.extract rfl rfl rfl rfl rfl ?_ | refine Plan.un rfl rfl rfl rfl rfl ?_ | refine J.seq (J.seq (J.region mixed hI (by kernel_rfl) ?_)))
  refine J.cond rfl (fun h6 => ?_) (fun h6 => ?_)
  · have h6' : fits ((r.take (hlen h + 6)).drop 4) = false := by simpa using h6
    rw [err 5 (by rw [step, if_pos h6']) (by decide)]
    repeat (first | refine Plan.assign rfl rfl rfl rfl ?_ | refine J.seq (J.region mixed hI (by kernel_rfl) ?_))
    exact J.ret (Nrm.ret3 rfl (fun _ h => h) fun B hB => ⟨_, rfl, Ress.cons rfl (by exact Sub.refl _) (Ress.cons rfl (by exact Sub.refl _) (Ress.cons rfl (by exact Sub.refl _) Ress.nil))⟩)
  have h6' : fits ((r.take (hlen h + 6)).drop 4) = true := by simpa using h6
  clear h6
  rw [if_neg (by rw [h6']; decide)] at step
  have hv : fTake l a = (opened ((r.take (hlen h + 6)).drop 4), a + (hlen h + 6), 0) := by
    unfold fTake; rw [if_neg hnn, hr', step]; rfl
  rw [hv]
  repeat (first | refine Plan.move rfl rfl rfl rfl ?_ | refine Plan.assign rfl rfl rfl rfl ?_ | (refine Plan.ints rfl rfl rfl rfl rfl rfl ?_; (refine Plan.int (i64r (by omega)) ?_)) | refine J.seq (J.region mixed hI (by kernel_rfl) ?_) | refine J.skip ?_)
  refine J.ret (Nrm.ret3 rfl (fun _ h => h) fun B hB => ⟨_, rfl, Ress.cons rfl (Sub.refl _) (Ress.cons rfl (Sub.of_eq ?_) (Ress.cons rfl (Sub.refl _) Ress.nil))⟩)
  congr 2
  dsimp only
  omega
end Go.Proofs.Ytepgphflnelpoaa
end

section
set_option linter.unusedSimpArgs false
set_option linter.unusedVariables false
set_option maxRecDepth 20000
namespace Go.Proofs.Ytepgphflnelpoaa
open Go.Free Go.RowKit Go.Proofs
set_option maxHeartbeats 2000000

theorem fits_seal (l : List UInt8) : crcOpen (crcSeal l) = some l := crc_Back_open l
theorem hlen_hdr {n : Nat} (h : n ≤ 65529) : hlen (hdr n) = n := by
  simp only [hlen, hdr, List.getD_eq_getElem?_getD, List.getElem?_cons_zero, List.getElem?_cons_succ, Option.getD_some, UInt8.toNat_ofNat']
  omega
/-- A frame is taken as its body, whatever stands behind. -/
theorem fTake0_put (l r : List UInt8) (h : l.length ≤ 65529) : fTake0 (fPut l ++ r) = (l, l.length + 6, 0) := by
  have hl := fPut_length l
  have h4 : (fPut l ++ r).take 4 = crcSeal (hdr l.length) := by
    unfold fPut; rw [List.append_assoc, List.take_left' (by rw [seal_length]; rfl)]
  have h6 : ((fPut l ++ r).take (l.length + 6)).drop 4 = crcSeal l := by
    rw [List.take_left' hl]; unfold fPut; rw [List.drop_left' (by rw [seal_length]; rfl)]
  unfold fTake0
  rw [h4]
  unfold opened fits
  rw [fits_seal]
  simp only [Option.getD_some, Option.isSome_some]
  rw [hlen_hdr h, h6, fits_seal, List.length_append, hl, if_neg (by omega), if_neg (by decide), if_neg (by omega), if_neg (by omega)]
  simp

theorem fTake_put (l r : List UInt8) (h : l.length ≤ 65529) : fTake (fPut l ++ r) 0 = (l, l.length + 6, 0) := by
  have e := fTake0_put l r h
  unfold fTake
  rw [if_neg (by omega)]
  have e' : fTake0 ((fPut l ++ r).drop (Int.toNat 0)) = (l, l.length + 6, 0) := e
  rw [e']
  simp
theorem fTake_put' (l : List UInt8) (h : l.length ≤ 65529) : fTake (fPut l) 0 = (l, l.length + 6, 0) := by
  have := fTake_put l [] h
  rwa [List.append_nil] at this
theorem frame_PutOk (l : List UInt8) (hl : l.length ≤ 65529) : Spc Try.prog 38 [bytesF l] fun B => .tup [ownB B (fPut l), .ex (.int .i64 0)] := by
  have h := frame_Put l (by omega)
  simp only [if_neg (Nat.not_lt.2 hl)] at h
  exact h

end Go.Proofs.Ytepgphflnelpoaa
end

section
set_option linter.unusedSimpArgs false
set_option linter.unusedVariables false
set_option maxRecDepth 20000
namespace Go.Free
open Go.RowKit

/-! ### Rows of which each element meets a fact -/
def nestR (fs : List Fa) : Fa := .is ⟨fun w v => ∃ vs, rowH 1 vs w v ∧ Fa.dens fs w vs, fun _ _ _ hb ⟨vs, h1, h2⟩ => ⟨vs, rowH_mono hb h1, Fa.monos _ _ _ _ hb h2⟩⟩
def nest (B e : Nat) (fs : List Fa) : Fa := .is ⟨fun w v => ∃ vs, ownH B e 1 vs w v ∧ Fa.dens fs w vs, fun _ _ _ hb ⟨vs, h1, h2⟩ => ⟨vs, ownH_mono hb h1, Fa.monos _ _ _ _ hb h2⟩⟩
/-- The value u is known to meet f. -/
def atF (u : Value) (f : Fa) : Fa := .is ⟨fun w _ => f.den w u, fun _ _ _ hb h => Fa.mono f _ _ u hb h⟩
/-- The address of a cell that meets f. -/
def ptrTo (f : Fa) : Fa := .is ⟨fun w v => ∃ ad u, v = .pointer (some ad) ∧ w.cell? ad = some u ∧ f.den w u,
  fun w _ _ hb ⟨ad, u, h1, h2, h3⟩ => ⟨ad, u, h1, (hb.cell (World.block_lt_of_cell? w _ h2)).trans h2, Fa.mono f _ _ u hb h3⟩⟩

theorem dens_length {w : World} : ∀ {fs : List Fa} {vs : List Value}, Fa.dens fs w vs → vs.length = fs.length
  | [], vs, h => by simp only [Fa.dens] at h; subst h; rfl
  | f :: fs, vs, h => by
    simp only [Fa.dens] at h
    obtain ⟨y, ys, rfl, _, h2⟩ := h
    simp [dens_length h2]
theorem dens_append {w : World} : ∀ {fs gs : List Fa} {vs us : List Value}, Fa.dens fs w vs → Fa.dens gs w us → Fa.dens (fs ++ gs) w (vs ++ us)
  | [], gs, vs, us, h, k => by simp only [Fa.dens] at h; subst h; exact k
  | f :: fs, gs, vs, us, h, k => by
    simp only [Fa.dens] at h
    obtain ⟨y, ys, rfl, h1, h2⟩ := h
    simp only [List.cons_append, Fa.dens]
    exact ⟨y, ys ++ us, rfl, h1, dens_append h2 k⟩
theorem dens_imp {w w' : World} : ∀ {fs : List Fa} {vs : List Value}, (∀ f ∈ fs, ∀ v, f.den w v → f.den w' v) → Fa.dens fs w vs → Fa.dens fs w' vs
  | [], _, _, h => by simpa only [Fa.dens] using h
  | f :: fs, vs, hi, h => by
    simp only [Fa.dens] at h ⊢
    obtain ⟨y, ys, rfl, h1, h2⟩ := h
    exact ⟨y, ys, rfl, hi f List.mem_cons_self y h1, dens_imp (fun g hg => hi g (List.mem_cons_of_mem _ hg)) h2⟩
theorem dens_map {α : Type} {w : World} {F G : α → Fa} (hi : ∀ l v, (F l).den w v → (G l).den w v) : ∀ {ls : List α} {vs : List Value}, Fa.dens (ls.map F) w vs → Fa.dens (ls.map G) w vs
  | [], _, h => by simpa only [List.map_nil, Fa.dens] using h
  | l :: ls, vs, h => by
    simp only [List.map_cons, Fa.dens] at h ⊢
    obtain ⟨y, ys, rfl, h1, h2⟩ := h
    exact ⟨y, ys, rfl, hi l y h1, dens_map hi h2⟩

section
variable {P : Program} {ops : Array Oper} {Q : Exit → Act → World → Prop} {n : Nat} {I : World → Prop} {k i : Nat} {E : Env} {o : Oper} {d : Bool}

theorem Sub.nestRead {B e : Nat} {fs : List Fa} : Sub I (nest B e fs) (nestR fs) := fun _ _ _ ⟨vs, h1, h2⟩ => ⟨vs, own_row h1, h2⟩
theorem Sub.nestMap {α : Type} {F G : α → Fa} {ls : List α} (h : ∀ l, Sub I (F l) (G l)) : Sub I (nestR (ls.map F)) (nestR (ls.map G)) := fun w _ hI ⟨vs, h1, h2⟩ => ⟨vs, h1, dens_map (fun l v hv => h l w v hI hv) h2⟩
theorem Sub.nestNil {B e : Nat} (hB : ∀ w, I w → B ≤ w.heap.size) : Sub I (.ex (.slice none 0 0)) (nest B e []) := fun w v hI h => ⟨[], Sub.nilOwn hB w v hI h, by simp [Fa.dens]⟩
theorem Sub.nestLower {α : Type} {B B' e : Nat} {F G : α → Fa} {ls : List α} (hB : B' ≤ B) (h : ∀ l, Sub I (F l) (G l)) : Sub I (nest B e (ls.map F)) (nest B' e (ls.map G)) := fun w _ hI ⟨vs, h1, h2⟩ => ⟨vs, own_lower h1 hB, dens_map (fun l v hv => h l w v hI hv) h2⟩

theorem Plan.lenNest {t e : TypeId} {x : Operand} {g : Fa} {fs : List Fa} (ho : ops[i]? = some o) (hop : o.op = .call { callee := .builtin .len, args := #[x], argTypes := #[t] }) (hg : wantB ops E o = some true)
    (hx : opF E x = some g) (hs : Sub I g (nestR fs)) (hu : P.underlying t = some (.slice e))
    (h : Plan P ops Q n I d k (i + 1) (setE o.dst (.ex (.int .i64 fs.length)) E)) : Plan P ops Q n I d (k + 1) i E :=
  Plan.step ho (Step.run ho hg fun a w hI hs' => by
    obtain ⟨vs, ⟨A, m, c, hv, _, _, hl, _, _⟩, hd⟩ := hs w _ hI (hs' x (by simp [hop, Op.operands, Call.operands]) _ hx)
    rw [dens_length hd, Nat.mul_one] at hl
    subst hl
    refine ⟨.int .i64 fs.length, w, ?_, Below.refl _ _, by simp [Fa.den]⟩
    have hr : (Builtin.len_ #[t] o.type #[.slice A fs.length c]).run P w = .ok (goInt fs.length) w := by simp [Builtin.len_, run_underlying hu]
    simp only [execOp, hop, resolve, invoke, builtin, List.map_toArray, List.map_cons, List.map_nil, hv, Sem.run_bind, Sem.run_pure, Result.andThen_ok, hr]
    rfl) h

theorem Plan.indexNest {t e : TypeId} {z : Value} {bytes : Nat} {x y : Operand} {g f : Fa} {kd : IntKind} {q : Nat} {fs : List Fa} (ho : ops[i]? = some o) (hop : o.op = .indexAddr t x y)
    (hg : wantB ops E o = some true) (hx : opF E x = some g) (hs : Sub I g (nestR fs)) (hy : opF E y = some (.ex (.int kd (q : Int)))) (he : Elt P t e z 1 bytes) (hq : fs[q]? = some f)
    (h : Plan P ops Q n I d k (i + 1) (setE o.dst (ptrTo f) E)) : Plan P ops Q n I d (k + 1) i E :=
  Plan.step ho (Step.run ho hg fun a w hI hs' => by
    obtain ⟨vs, ⟨A, m, c, hv, _, _, hl, _, hcell⟩, hd⟩ := hs w _ hI (hs' x (by simp [hop, Op.operands]) _ hx)
    have e2 := hs' y (by simp [hop, Op.operands]) _ hy
    simp only [Fa.den] at e2
    obtain ⟨inf, hi, hz, hs1, hby⟩ := he.hi
    rw [dens_length hd, Nat.mul_one] at hl
    have hlt : q < fs.length := (List.getElem?_eq_some_iff.1 hq).1
    obtain ⟨u, hu, hden⟩ := dens_get hd hq
    obtain ⟨ad, rfl, hc⟩ := hcell q u hu
    refine ⟨.pointer (some (ad.add q)), w, ?_, Below.refl _ _, ⟨_, u, rfl, hc, hden⟩⟩
    have hj2 : q < m := by omega
    simp [execOp, hop, hv, e2, Instr.indexAt, asIntOf, run_underlying he.ht, sizeOf, typeInfo, hi, hs1, hj2]) h

theorem Plan.loadNest {t : TypeId} {u : TypeDesc} {x : Operand} {g f : Fa} (ho : ops[i]? = some o) (hop : o.op = .load t x) (hg : wantB ops E o = some true)
    (hx : opF E x = some g) (hs : Sub I g (ptrTo f)) (hu : P.underlying t = some u) (hna : aggB u = false)
    (h : Plan P ops Q n I d k (i + 1) (setE o.dst f E)) : Plan P ops Q n I d (k + 1) i E :=
  Plan.step ho (Step.run ho hg fun a w hI hs' => by
    obtain ⟨ad, v, hv, hc, hden⟩ := hs w _ hI (hs' x (by simp [hop, Op.operands]) _ hx)
    refine ⟨v, w, ?_, Below.refl _ _, hden⟩
    have hagg : (isAgg t).run P w = .ok false w := by
      cases u <;> simp [aggB] at hna <;> simp [isAgg, run_underlying hu]
    simp [execOp, hop, hv, Instr.loadAt, Instr.sureAddr, loadVar, hagg, run_load, hc]) h

/-- A slot's value is named; that it meets its fact stands under a key of its own. -/
theorem J.name {c : Code} {t key : Nat} {f : Fa} (hf : look E t = some f) (h : ∀ u, J P n I c Q ((t, .ex u) :: (key, atF u f) :: E)) : J P n I c Q E := fun a w h1 h2 h3 =>
  h (a.slot t) a w h1 h2 (derive_sat (f := .ex (a.slot t)) (derive_sat (t := key) (f := atF (a.slot t) f) h3 (h3 t f hf)) (by simp [Fa.den]))

theorem J.nameOwn {c : Code} {t key B e sz : Nat} {cs : List Value} {f : Fa} (hf : look E t = some f) (hs : Sub I f (Free.own B e sz cs))
    (h : ∀ u, u.oneCell' = true → flat [u] = [u] → (∀ v ∈ [u], v.cells.size = 1) → J P n I c Q ((t, .ex u) :: (key, atF u (Free.own B e sz cs)) :: E)) : J P n I c Q E := fun a w h1 h2 h3 => by
  have hd : (Free.own B e sz cs).den w (a.slot t) := hs w _ h1 (h3 t f hf)
  have hsl : ∃ A m c, a.slot t = .slice A m c := by
    obtain ⟨_, m, hm⟩ := hd
    rcases hm.2 with ⟨h0, _⟩ | ⟨g, cap, cur, h0, _⟩
    · exact ⟨_, _, _, h0⟩
    · exact ⟨_, _, _, h0⟩
  obtain ⟨A, m, c', hv⟩ := hsl
  exact h (a.slot t) (by rw [hv]; rfl) (by rw [hv]; rfl) (by rw [hv]; simp [Value.cells]) a w h1 h2 (derive_sat (f := .ex (a.slot t)) (derive_sat (t := key) (f := atF (a.slot t) (Free.own B e sz cs)) h3 hd) (by simp [Fa.den]))

/-- What is kept where a row of elements of type e of the call's own is turned. -/
def Apart (e : Nat) (g : Fa) : Prop := ∀ w w' v u B xs, ownH B e 1 xs w v → w.grownBy w' v.ownBlock → g.den w u → g.den w' u
theorem Apart.own {e B' e' sz' : Nat} {cs : List Value} (h : e' ≠ e) : Apart e (own B' e' sz' cs) := fun w w' v u B xs hv hg hu => by
  obtain ⟨hB, m, hm⟩ := hu
  refine ⟨Nat.le_trans hB hg.size, m, hm.kept hg ?_⟩
  rcases hm.2 with ⟨rfl, _⟩ | ⟨g, cap, cur, rfl, _, hh, _⟩
  · exact .inl rfl
  · right
    obtain ⟨_, m2, hm2⟩ := hv
    rcases hm2.2 with ⟨rfl, _⟩ | ⟨g2, cap2, cur2, rfl, _, hh2, _⟩
    · simp [Value.ownBlock]
    · simp only [Value.ownBlock, ne_eq, Option.some.injEq]
      rintro rfl
      rw [hh] at hh2
      cases hh2
      exact h rfl

/-- append(list, element) -/
theorem Plan.appendNest {x y : Operand} {t e : TypeId} {z : Value} {bytes B key : Nat} {fs : List Fa} {f fx fy : Fa} {u : Value} (ho : ops[i]? = some o) (hop : o.op = .call { callee := .builtin .append, args := #[x, y], argTypes := #[t, t] })
    (hg : wantB ops E o = some true) (hx : opF E x = some fx) (hfs : Sub I fx (nest B e fs)) (hy : opF E y = some fy) (hs : Sub I fy (row 1 [u])) (hu : look E key = some (atF u f)) (h1 : u.oneCell' = true)
    (he : Elt P t e z 1 bytes) (hd : ∀ d, o.dst = some d → d < n)
    (hG : ∀ w w' r, I w → w.grownBy w' r → (∀ b, r = some b → B ≤ b) → I w') (hlim : (fs.length + 1) * bytes ≤ 140737488355328) (hap : ∀ g ∈ fs ++ [f], Apart e g)
    (h : Plan P ops Q n I d k (i + 1) (setE o.dst (nest B e (fs ++ [f])) (sieve E))) (hq : d = false ∨ barB ops i = true := by first | exact .inl rfl | exact .inr (by kernel_rfl)) : Plan P ops Q n I d (k + 1) i E :=
  Plan.eff ho hg hd (fun a w hI hS hs' => by
    obtain ⟨vs, e1, ed⟩ := hfs w _ hI (hs' x (by simp [hop, Op.operands, Call.operands]) _ hx)
    have e2 := hs w _ hI (hs' y (by simp [hop, Op.operands, Call.operands]) _ hy)
    have e3 : f.den w u := hS key _ hu
    have hl := dens_length ed
    obtain ⟨v', w', hr, h2, h3⟩ := run_append_rows (ty := o.type) he e1 e2 (by simpa using h1) (by simp only [List.length_singleton, Nat.mul_one]; rw [hl]; exact hlim)
    refine ⟨v', w', .inl ?_, hG w w' _ hI h3 ?_, ⟨vs ++ [u], h2, dens_append (dens_imp (fun g hg v hv => hap g (List.mem_append_left _ hg) w w' _ v _ _ e1 h3 hv) ed) ⟨u, [], rfl, hap f (by simp) w w' _ u _ _ e1 h3 e3, rfl⟩⟩⟩
    · simp only [execOp, hop, resolve, invoke, builtin, List.map_toArray, List.map_cons, List.map_nil, Sem.run_bind, Sem.run_pure, Result.andThen_ok, hr]
    · intro b hb
      obtain ⟨_, m, hm⟩ := e1
      exact (hm.lt b hb).1) hq h

/-! ### A mark: what is known now stays known, whatever memory that comes later is turned -/
def markE (w1 : World) : Env → Env
  | [] => []
  | (t, f) :: r => (t, keepOld w1 f) :: markE w1 r
theorem look_markE {w1 : World} : ∀ {E : Env} {t : Nat} {f : Fa}, look (markE w1 E) t = some f → ∃ g, look E t = some g ∧ f = keepOld w1 g
  | [], _, _, h => by simp [markE, look] at h
  | (s, g) :: r, t, f, h => by
    simp only [markE, look] at h ⊢
    by_cases hs : s = t
    · rw [if_pos hs] at h ⊢
      exact ⟨g, rfl, (Option.some.inj h).symm⟩
    · rw [if_neg hs] at h ⊢
      exact look_markE h
theorem J.mark {c : Code} (h : ∀ w1, I w1 → J P n (fun w => Below w1.heap.size w1 w) c Q (markE w1 E)) : J P n I c Q E := fun a w h1 h2 h3 =>
  h w h1 a w (Below.refl _ _) h2 fun t f hf => by
    obtain ⟨g, hg, rfl⟩ := look_markE hf
    exact keepOld_den (h3 t g hg)
end
end Go.Free
end

section
set_option linter.unusedSimpArgs false
set_option linter.unusedVariables false
set_option maxRecDepth 20000
namespace Go.Proofs.Ytepgphflnelpoaa
open Go.Free Go.RowKit Go.Proofs
set_option maxHeartbeats 2000000

theorem fTake_bd (l : List UInt8) (p : Int) (h : (fTake l p).2.2 = 0) : p < (fTake l p).2.1 ∧ (fTake l p).2.1 ≤ l.length := by
  unfold fTake at h ⊢
  by_cases g : p < 0 ∨ (l.length : Int) < p
  · rw [if_pos g] at h; simp at h
  · rw [if_neg g] at h ⊢
    by_cases g2 : (fTake0 (l.drop p.toNat)).2.2 = 0
    · rw [if_pos g2]
      have hb : 0 < (fTake0 (l.drop p.toNat)).2.1 ∧ (fTake0 (l.drop p.toNat)).2.1 ≤ (l.drop p.toNat).length := by
        unfold fTake0 at g2 ⊢
        split at g2
        · simp at g2
        rename_i k1; rw [if_neg k1]
        split at g2
        · simp at g2
        rename_i k2; rw [if_neg k2]
        split at g2
        · simp at g2
        rename_i k3; rw [if_neg k3]
        split at g2
        · simp at g2
        rename_i k4; rw [if_neg k4]
        split at g2
        · simp at g2
        rename_i k5; rw [if_neg k5]
        dsimp only
        omega
      rw [List.length_drop] at hb
      dsimp only
      omega
    · rw [if_neg g2] at h; exact absurd h g2
/-- The bodies from a place on, the place behind. -/
def scanL (l : List UInt8) (at_ : Nat) : List (List UInt8) × Nat :=
  if _h : at_ < l.length ∧ (fTake l at_).2.2 = 0 then
    ((fTake l at_).1 :: (scanL l (fTake l at_).2.1).1, (scanL l (fTake l at_).2.1).2)
  else ([], at_)
termination_by l.length - at_
decreasing_by
  all_goals
    have := fTake_bd l at_ _h.2
    omega
theorem scanL_go {l : List UInt8} {p : Nat} (h : p < l.length) (h2 : (fTake l p).2.2 = 0) : scanL l p = ((fTake l p).1 :: (scanL l (fTake l p).2.1).1, (scanL l (fTake l p).2.1).2) := by
  rw [scanL]; simp [h, h2]
theorem scanL_stop {l : List UInt8} {p : Nat} (h : ¬ (p < l.length ∧ (fTake l p).2.2 = 0)) : scanL l p = ([], p) := by
  rw [scanL]; simp only [h, dite_false]
theorem scanL_le (l : List UInt8) : ∀ (k p : Nat), l.length - p = k → p ≤ l.length → (scanL l p).2 ≤ l.length ∧ (scanL l p).1.length + p ≤ l.length := by
  intro k
  induction k using Nat.strongRecOn with
  | _ k ih =>
    intro p hk hp
    by_cases h : p < l.length ∧ (fTake l p).2.2 = 0
    · have hb := fTake_bd l p h.2
      have := ih (l.length - (fTake l p).2.1) (by omega) (fTake l p).2.1 rfl (by omega)
      rw [scanL_go h.1 h.2]
      simp only [List.length_cons]
      omega
    · rw [scanL_stop h]; simp; omega

theorem eltBB : Elt Try.prog 76 27 (.slice none 0 0) 1 24 := Elt.mk' Try.underlying76 (by kernel_rfl) rfl (by decide) (by decide)
theorem eltS : Elt Try.prog 86 9 (.string ByteArray.empty) 1 16 := Elt.mk' Try.underlying86 (by kernel_rfl) rfl (by decide) (by decide)
abbrev nestB (B : Nat) (ls : List (List UInt8)) : Fa := nest B 27 (ls.map (ownB B))
def ss (ls : List (List UInt8)) : List Value := ls.map str

def scE (w0 : World) (l : List UInt8) (s : List (List UInt8) × Nat) : Env := [(0, .old w0 (bytesF l)), (5, nestB w0.heap.size s.1), (6, .ex (.int .i64 s.2))]
def scOk (l : List UInt8) (s : List (List UInt8) × Nat) : Prop := s.2 ≤ l.length ∧ s.1.length ≤ s.2 ∧ scanL l 0 = (s.1 ++ (scanL l s.2).1, (scanL l s.2).2)

theorem frame_Scan (l : List UInt8) (hl : l.length ≤ 1000000) :
    Spc Try.prog 34 [bytesF l] fun B => .tup [nestB B (scanL l 0).1, .ex (.int .i64 (scanL l 0).2), .ex (.bool (((scanL l 0).2 : Int) == l.length))] := by
  refine Spc.intro Try.func34 rfl (Nat.le_of_ble_eq_true rfl) fun w0 => ?_
  have hI := hIb w0
  repeat (first | refine Plan.assign rfl rfl rfl rfl ?_ | refine J.seq (J.region mixed hI (by kernel_rfl) ?_))
  refine J.seqMid (scE w0 l) (fun s => scOk l s ∧ scanL l s.2 = ([], s.2)) ?_ ?_
  · refine J.block (J.loop (scE w0 l) (scOk l) (fun s => l.length - s.2) ([], 0) ⟨Nat.zero_le _, Nat.zero_le _, by simp⟩ ?_ ?_)
    · exact Weak.cons rfl (Sub.refl _) (Weak.cons rfl (Sub.nestNil (hBb w0)) (Weak.cons rfl (Sub.refl _) Weak.nil))
    rintro ⟨ls, p⟩ ⟨h1, h2, h3⟩
    dsimp only at h1 h2 h3
    repeat (first | refine Plan.move rfl rfl rfl rfl ?_ | (refine Plan.ints rfl rfl rfl rfl rfl rfl ?_; (skip)) | refine Plan.lenB rfl rfl rfl rfl (by exact Sub.old (fun _ h => h)) Try.underlying27 ?_ | refine J.seq (J.seq (J.region mixed hI (by kernel_rfl) ?_)))
    refine J.condD rfl (fun hc => ?_) (fun hc => ?_)
    · repeat (refine J.skip ?_)
      refine J.block ?_
      repeat (first | refine Plan.move rfl rfl rfl rfl ?_ | refine J.seq (J.region mixed hI (by kernel_rfl) ?_))
      refine Plan.call (B := w0.heap.size) rfl rfl rfl (frame_Take l p (by omega) (by omega)) Try.func51 rfl rfl (hBb w0) (by repeat (first | exact Opnds.nil | refine Opnds.cons rfl (by first | exact Sub.refl _ | exact Sub.old (fun _ h => h)) ?_)) ?_
      repeat (first | refine Plan.move rfl rfl rfl rfl ?_ | refine Plan.assign rfl rfl rfl rfl ?_ | refine Plan.extract rfl rfl rfl rfl rfl ?_ | (refine Plan.ints rfl rfl rfl rfl rfl rfl ?_; (skip)) | refine J.seq (J.seq (J.region mixed hI (by kernel_rfl) ?_)))
      refine J.condN rfl (fun he => ?_) (fun he => ?_)
      · refine J.exit ?_
        have hno : ¬ (p < l.length ∧ (fTake l p).2.2 = 0) := by omega
        exact Nrm.mid (ls, p) ⟨⟨h1, h2, h3⟩, scanL_stop hno⟩ (by repeat (first | exact Weak.nil | refine Weak.cons rfl (Sub.refl _) ?_))
      · have hgo := scanL_go (l := l) (p := p) (by omega) (by omega)
        have hb := fTake_bd l p (by omega)
        refine J.skip ?_
        refine J.nameOwn (t := 7) (key := 100) rfl (Sub.refl _) fun u hu1 hu2 hu3 => ?_
        repeat (first | refine Plan.move rfl rfl rfl rfl ?_ | refine J.seq (J.region mixed hI (by kernel_rfl) ?_))
        refine Plan.lit (B := w0.heap.size) rfl rfl rfl eltBB rfl (hBb w0) rfl hu3 (by decide) ?_
        rw [hu2]
        refine Plan.appendNest (key := 100) rfl rfl rfl rfl (Sub.refl _) rfl Sub.own rfl hu1 eltBB (by intro d hd; cases hd; decide) (hGb w0) (by rw [List.length_map]; dsimp only; omega) (fun g hg => ?_) ?_
        · rcases List.mem_append.1 hg with hg | hg
          · obtain ⟨x, _, rfl⟩ := List.mem_map.1 hg
            exact Apart.own (by decide)
          · rw [List.mem_singleton.1 hg]; exact Apart.own (by decide)
        repeat (first | refine Plan.move rfl rfl rfl rfl ?_ | refine Plan.assign rfl rfl rfl rfl ?_ | refine J.region mixed hI (by kernel_rfl) ?_)
        refine Nrm.next (ls ++ [(fTake l p).1], (fTake l p).2.1) ⟨?_, ?_, ?_⟩ (by dsimp only; omega) ?_
        · dsimp only; omega
        · dsimp only; rw [List.length_append, List.length_singleton]; omega
        · dsimp only; rw [h3, hgo]; simp
        · exact Weak.cons rfl (Sub.refl _) (Weak.cons rfl (Sub.of_eq (by simp only [nestB, List.map_append, List.map_cons, List.map_nil])) (Weak.cons rfl (Sub.refl _) Weak.nil))
    · refine J.exit ?_
      have hno : ¬ (p < l.length ∧ (fTake l p).2.2 = 0) := by omega
      exact Nrm.mid (ls, p) ⟨⟨h1, h2, h3⟩, scanL_stop hno⟩ (by repeat (first | exact Weak.nil | refine Weak.cons rfl (Sub.refl _) ?_))
  rintro ⟨ls, p⟩ ⟨⟨h1, h2, h3⟩, h4⟩
  dsimp only at h1 h2 h3 h4
  rw [h4, List.append_nil] at h3
  rw [h3]
  repeat (first | refine Plan.move rfl rfl rfl rfl ?_ | refine Plan.assign rfl rfl rfl rfl ?_ | (refine Plan.ints rfl rfl rfl rfl rfl rfl ?_; (skip)) | refine Plan.lenB rfl rfl rfl rfl (by exact Sub.old (fun _ h => h)) Try.underlying27 ?_ | refine J.seq (J.region mixed hI (by kernel_rfl) ?_))
  refine J.ret (Nrm.ret3 rfl (fun _ h => h) fun B hB => ⟨_, rfl, Ress.cons rfl (Sub.nestLower hB fun _ => Sub.ownLower hB) (Ress.cons rfl (Sub.refl _) (Ress.cons rfl (Sub.refl _) Ress.nil))⟩)
theorem ss_snoc (ls : List (List UInt8)) (l : List UInt8) : ss (ls ++ [l]) = ss ls ++ [str l] := by simp [ss]
theorem ss_one (ls : List (List UInt8)) : ∀ u ∈ ss ls, u.oneCell' = true := by
  intro u hu
  simp only [ss, List.mem_map] at hu
  obtain ⟨l, _, rfl⟩ := hu
  rfl
theorem ss_length (ls : List (List UInt8)) : (ss ls).length = ls.length := by simp [ss]
theorem ss_flat (ls : List (List UInt8)) : ss ls = ls.flatMap fun l => [str l] := by
  unfold ss
  induction ls with
  | nil => rfl
  | cons a ls ih => simp [ih]
abbrev ownS (B : Nat) (ls : List (List UInt8)) : Fa := own B 9 1 (ss ls)

def scES (w0 : World) (l : List UInt8) (s : List (List UInt8) × Nat) : Env := [(0, .ex (str l)), (5, ownS w0.heap.size s.1), (6, .ex (.int .i64 s.2))]
theorem ref_Scan (l : List UInt8) (hl : l.length ≤ 1000000) :
    Spc Try.prog 42 [.ex (str l)] fun B => .tup [ownS B (scanL l 0).1, .ex (.int .i64 (scanL l 0).2), .ex (.bool (((scanL l 0).2 : Int) == l.length))] := by
  refine Spc.intro Try.func42 rfl (Nat.le_of_ble_eq_true rfl) fun w0 => ?_
  have hI := hIb w0
  repeat (first | refine Plan.assign rfl rfl rfl rfl ?_ | refine J.seq (J.region mixed hI (by kernel_rfl) ?_))
  refine J.seqMid (scES w0 l) (fun s => scOk l s ∧ scanL l s.2 = ([], s.2)) ?_ ?_
  · refine J.block (J.loop (scES w0 l) (scOk l) (fun s => l.length - s.2) ([], 0) ⟨Nat.zero_le _, Nat.zero_le _, by simp⟩ ?_ ?_)
    · exact Weak.cons rfl (Sub.refl _) (Weak.cons rfl (Sub.nilOwn (hBb w0)) (Weak.cons rfl (Sub.refl _) Weak.nil))
    rintro ⟨ls, p⟩ ⟨h1, h2, h3⟩
    dsimp only at h1 h2 h3
    repeat (first | refine Plan.move rfl rfl rfl rfl ?_ | refine Plan.lenStr rfl rfl rfl rfl Try.underlying9 ?_ | (refine Plan.ints rfl rfl rfl rfl rfl rfl ?_; (skip)) | refine J.seq (J.seq (J.region mixed hI (by kernel_rfl) ?_)))
    refine J.condD rfl (fun hc => ?_) (fun hc => ?_)
    · repeat (refine J.skip ?_)
      refine J.block ?_
      repeat (first | refine Plan.move rfl rfl rfl rfl ?_ | refine J.seq (J.region mixed hI (by kernel_rfl) ?_))
      refine Plan.call (B := w0.heap.size) rfl rfl rfl (ref_FTake l p (by omega) (by omega)) Try.func55 rfl rfl (hBb w0) (by repeat (first | exact Opnds.nil | refine Opnds.cons rfl (by exact Sub.refl _) ?_)) ?_
      repeat (first | refine Plan.move rfl rfl rfl rfl ?_ | refine Plan.assign rfl rfl rfl rfl ?_ | refine Plan.extract rfl rfl rfl rfl rfl ?_ | (refine Plan.ints rfl rfl rfl rfl rfl rfl ?_; (skip)) | refine J.seq (J.seq (J.region mixed hI (by kernel_rfl) ?_)))
      refine J.condN rfl (fun he => ?_) (fun he => ?_)
      · refine J.exit ?_
        have hno : ¬ (p < l.length ∧ (fTake l p).2.2 = 0) := by omega
        exact Nrm.mid (ls, p) ⟨⟨h1, h2, h3⟩, scanL_stop hno⟩ (by repeat (first | exact Weak.nil | refine Weak.cons rfl (Sub.refl _) ?_))
      · have hgo := scanL_go (l := l) (p := p) (by omega) (by omega)
        have hb := fTake_bd l p (by omega)
        repeat (first | refine Plan.move rfl rfl rfl rfl ?_ | refine J.seq (J.region mixed hI (by kernel_rfl) ?_) | refine J.skip ?_)
        refine Plan.lit (B := w0.heap.size) rfl rfl rfl eltS rfl (hBb w0) rfl (by simp [Value.cells, str]) (by decide) ?_
        refine Plan.append (news := [str (fTake l p).1]) rfl rfl rfl rfl (Sub.refl _) rfl Sub.own eltS (by intro d hd; cases hd; decide) (hGb w0) (by simp [str, Value.oneCell']) (by rw [ss_length]; dsimp only [List.length_singleton]; omega) ?_
        rw [← ss_snoc]
        repeat (first | refine Plan.move rfl rfl rfl rfl ?_ | refine Plan.assign rfl rfl rfl rfl ?_ | refine J.region mixed hI (by kernel_rfl) ?_)
        refine Nrm.next (ls ++ [(fTake l p).1], (fTake l p).2.1) ⟨?_, ?_, ?_⟩ (by dsimp only; omega) (by repeat (first | exact Weak.nil | refine Weak.cons rfl (Sub.refl _) ?_))
        · dsimp only; omega
        · dsimp only; rw [List.length_append, List.length_singleton]; omega
        · dsimp only; rw [h3, hgo]; simp
    · refine J.exit ?_
      have hno : ¬ (p < l.length ∧ (fTake l p).2.2 = 0) := by omega
      exact Nrm.mid (ls, p) ⟨⟨h1, h2, h3⟩, scanL_stop hno⟩ (by repeat (first | exact Weak.nil | refine Weak.cons rfl (Sub.refl _) ?_))
  rintro ⟨ls, p⟩ ⟨⟨h1, h2, h3⟩, h4⟩
  dsimp only at h1 h2 h3 h4
  rw [h4, List.append_nil] at h3
  rw [h3]
  repeat (first | refine Plan.move rfl rfl rfl rfl ?_ | refine Plan.assign rfl rfl rfl rfl ?_ | refine Plan.lenStr rfl rfl rfl rfl Try.underlying9 ?_ | (refine Plan.ints rfl rfl rfl rfl rfl rfl ?_; (skip)) | refine J.seq (J.region mixed hI (by kernel_rfl) ?_))
  refine J.ret (Nrm.ret3 rfl (fun _ h => h) fun B hB => ⟨_, rfl, Ress.cons rfl (Sub.ownLower hB) (Ress.cons rfl (Sub.refl _) (Ress.cons rfl (Sub.refl _) Ress.nil))⟩)
end Go.Proofs.Ytepgphflnelpoaa
end

section
set_option linter.unusedSimpArgs false
set_option linter.unusedVariables false
set_option maxRecDepth 20000
namespace Go.Proofs.Ytepgphflnelpoaa
open Go.Free Go.RowKit Go.Proofs
set_option maxHeartbeats 2000000

def txE (w0 : World) (ls ms : List (List UInt8)) (i : Nat) : Env :=
  [(0, .old w0 (nestR (ls.map bytesF))), (1, .old w0 (row 1 (ss ms))), (12, .ex (.int .i64 ls.length)), (13, .ex (.int .i64 i))]

end Go.Proofs.Ytepgphflnelpoaa
end

section
set_option linter.unusedSimpArgs false
set_option linter.unusedVariables false
set_option maxRecDepth 20000
namespace Go.Proofs.Ytepgphflnelpoaa
open Go.Free Go.RowKit Go.Proofs
set_option maxHeartbeats 2000000

def frames (ls : List (List UInt8)) : List UInt8 := ls.flatMap fPut
theorem frames_append (a b : List (List UInt8)) : frames (a ++ b) = frames a ++ frames b := by simp [frames]
theorem frames_cons (x : List UInt8) (b : List (List UInt8)) : frames (x :: b) = fPut x ++ frames b := by simp [frames]
def laidOk (ls : List (List UInt8)) : Bool := decide (ls.length ≤ 100 ∧ ∀ x ∈ ls, x.length ≤ 1000)
def laidB (ls : List (List UInt8)) : List UInt8 := if laidOk ls = true then frames ls else []
theorem frames_le {ls : List (List UInt8)} (h : ∀ x ∈ ls, x.length ≤ 1000) : (frames ls).length ≤ 1006 * ls.length := by
  induction ls with
  | nil => simp [frames]
  | cons x ls ih =>
    have h1 := ih fun y hy => h y (List.mem_cons_of_mem _ hy)
    have h2 := h x List.mem_cons_self
    rw [frames_cons, List.length_append, fPut_length, List.length_cons]
    omega
theorem snoc_take {ls : List (List UInt8)} {i : Nat} (h : i < ls.length) : ls.take (i + 1) = ls.take i ++ [ls.getD i []] := by
  rw [List.take_add_one, List.getElem?_eq_getElem h]; simp [List.getD_eq_getElem?_getD, List.getElem?_eq_getElem h]

def ldE (w0 : World) (ls : List (List UInt8)) (i : Nat) : Env :=
  [(0, .old w0 (row 1 (ss ls))), (4, ownB w0.heap.size (frames (ls.take i))), (12, .ex (.int .i64 ls.length)), (13, .ex (.int .i64 i))]

/-- What isn't taken stops a scan; whole frames ahead of it are told. -/
theorem fTake_at (pre r : List UInt8) : fTake (pre ++ r) (pre.length : Nat) = if (fTake0 r).2.2 = 0 then ((fTake0 r).1, pre.length + (fTake0 r).2.1, 0) else ([], 0, (fTake0 r).2.2) := by
  unfold fTake
  rw [if_neg (by rw [List.length_append]; omega), Int.toNat_natCast, List.drop_left]
theorem scan_frames (r : List UInt8) (hr : (fTake0 r).2.2 ≠ 0) : ∀ (ls : List (List UInt8)) (pre : List UInt8), (∀ x ∈ ls, x.length ≤ 65529) →
    scanL (pre ++ frames ls ++ r) pre.length = (ls, (pre ++ frames ls).length)
  | [], pre, _ => by
    simp only [frames, List.flatMap_nil, List.append_nil]
    refine scanL_stop fun h => ?_
    have := h.2
    rw [fTake_at, if_neg hr] at this
    exact hr this
  | x :: ls, pre, hx => by
    have h1 := hx x List.mem_cons_self
    have h0 := fTake0_put x (frames ls ++ r) h1
    have e : pre ++ frames (x :: ls) ++ r = pre ++ (fPut x ++ (frames ls ++ r)) := by rw [frames_cons]; simp
    have e2 : pre ++ frames (x :: ls) ++ r = (pre ++ fPut x) ++ frames ls ++ r := by rw [frames_cons]; simp
    have ht : fTake (pre ++ frames (x :: ls) ++ r) (pre.length : Nat) = (x, (pre ++ fPut x).length, 0) := by
      rw [e, fTake_at, h0]; simp [fPut_length]
    have hlt : pre.length < (pre ++ frames (x :: ls) ++ r).length := by rw [e]; simp only [List.length_append, fPut_length]; omega
    rw [scanL_go hlt (by rw [ht]), ht]
    dsimp only
    have ih := scan_frames r hr ls (pre ++ fPut x) fun y hy => hx y (List.mem_cons_of_mem _ hy)
    rw [e2, ih, frames_cons, List.append_assoc]
theorem fTake0_nil : (fTake0 []).2.2 ≠ 0 := by decide
theorem scan_all (ls : List (List UInt8)) (h : ∀ x ∈ ls, x.length ≤ 65529) : scanL (frames ls) 0 = (ls, (frames ls).length) := by
  have := scan_frames [] fTake0_nil ls [] h
  simpa using this
end Go.Proofs.Ytepgphflnelpoaa
end

section
set_option linter.unusedSimpArgs false
set_option linter.unusedVariables false
set_option maxRecDepth 20000
namespace Go.Proofs.Ytepgphflnelpoaa
open Go.Free Go.RowKit Go.Proofs
set_option maxHeartbeats 2000000

theorem frame_ScanAll {ls : List (List UInt8)} (h : ∀ x ∈ ls, x.length ≤ 65529) (hl : (frames ls).length ≤ 1000000) : Spc Try.prog 34 [bytesF (frames ls)] fun B => .tup [nestB B ls, .ex (.int .i64 (frames ls).length), .ex (.bool true)] := by
  have k := frame_Scan (frames ls) hl
  rw [scan_all ls h] at k
  simp only [beq_self_eq_true] at k
  exact k

end Go.Proofs.Ytepgphflnelpoaa
end

section
set_option linter.unusedSimpArgs false
set_option linter.unusedVariables false
set_option maxRecDepth 20000
namespace Go.Free
open Go.RowKit
section
variable {P : Program} {n : Nat} {I : World → Prop} {Q : Exit → Act → World → Prop} {E : Env} {ops : Array Oper} {k i : Nat} {d : Bool} {o : Oper}
theorem Plan.remI {xt yt : TypeId} {x y : Operand} {kd : IntKind} {p q : Nat} (ho : ops[i]? = some o) (hop : o.op = .binOp .rem xt x y yt) (hg : wantB ops E o = some true)
    (hx : opF E x = some (.ex (.int kd p))) (hy : opF E y = some (.ex (.int kd q))) (h0 : q ≠ 0)
    (h : Plan P ops Q n I d k (i + 1) (setE o.dst (.ex (.int kd ((p % q : Nat) : Int))) E)) : Plan P ops Q n I d (k + 1) i E :=
  Plan.ints ho hop hg hx hy (by
    have h1 : ¬ (q : Int) = 0 := by omega
    simp only [intVal, if_neg h1]
    rw [Int.ofNat_tmod]) h
theorem Plan.shrN {xt yt : TypeId} {x y : Operand} {kd ky : IntKind} {p q : Nat} (ho : ops[i]? = some o) (hop : o.op = .binOp .shr xt x y yt) (hg : wantB ops E o = some true)
    (hx : opF E x = some (.ex (.int kd p))) (hy : opF E y = some (.ex (.int ky q))) (hq : q ≤ kd.bits)
    (h : Plan P ops Q n I d k (i + 1) (setE o.dst (.ex (.int kd ((p / 2 ^ q : Nat) : Int))) E)) : Plan P ops Q n I d (k + 1) i E :=
  Plan.shift ho hop hg hx hy (by
    unfold shVal
    rw [if_neg (by omega)]
    simp only [Int.toNat_natCast, Nat.min_eq_left hq]
    rw [Int.fdiv_eq_ediv_of_nonneg _ (by exact Int.le_of_lt (Int.pow_pos (by decide)))]
    simp) h
end
end Go.Free
end

section
set_option linter.unusedSimpArgs false
set_option linter.unusedVariables false
set_option maxRecDepth 20000
namespace Go.Proofs.Ytepgphflnelpoaa
open Go.Free Go.RowKit Go.Proofs
set_option maxHeartbeats 2000000

/-- A frame that is cut off is none. -/
theorem fTake0_cut (x : List UInt8) (h : x.length ≤ 65529) (j : Nat) (hj : j < (fPut x).length) : (fTake0 ((fPut x).take j)).2.2 ≠ 0 := by
  rw [fPut_length] at hj
  have hl : ((fPut x).take j).length = j := by rw [List.length_take, fPut_length]; omega
  unfold fTake0
  rw [hl]
  by_cases h4 : j < 4
  · rw [if_pos h4]; decide
  · rw [if_neg h4]
    have e4 : ((fPut x).take j).take 4 = crcSeal (hdr x.length) := by
      rw [List.take_take, Nat.min_eq_left (by omega)]
      unfold fPut; rw [List.take_left' (by rw [seal_length]; rfl)]
    rw [e4]
    unfold opened fits
    rw [fits_seal]
    simp only [Option.getD_some, Option.isSome_some]
    rw [hlen_hdr h, if_neg (by decide), if_neg (by omega), if_pos (by omega)]
    decide
/-- Where frames are cut: so many are whole, and a beginning of the next one stands behind. -/
theorem cut_at : ∀ (ls : List (List UInt8)) (k : Nat), k < (frames ls).length → ∃ m j, m < ls.length ∧ j < (fPut (ls.getD m [])).length ∧ k = (frames (ls.take m)).length + j ∧
    (frames ls).take k = frames (ls.take m) ++ (fPut (ls.getD m [])).take j
  | [], k, h => by simp [frames] at h
  | x :: ls, k, h => by
    rw [frames_cons, List.length_append] at h
    by_cases hk : k < (fPut x).length
    · refine ⟨0, k, by simp, by simpa using hk, by simp [frames], ?_⟩
      rw [frames_cons, List.take_append_of_le_length (by omega)]
      simp [frames]
    · obtain ⟨m, j, h1, h2, h3, h4⟩ := cut_at ls (k - (fPut x).length) (by omega)
      refine ⟨m + 1, j, by simp; omega, by simpa using h2, ?_, ?_⟩
      · rw [List.take_succ_cons, frames_cons, List.length_append]; omega
      · rw [List.take_succ_cons, frames_cons, frames_cons, List.append_assoc, List.getD_cons_succ, ← h4, List.take_append, List.take_of_length_le (by omega)]
theorem scan_cut (ls : List (List UInt8)) (h : ∀ x ∈ ls, x.length ≤ 65529) (k : Nat) (_ : k ≤ (frames ls).length) :
    ∃ m, m ≤ ls.length ∧ (frames (ls.take m)).length ≤ k ∧ scanL ((frames ls).take k) 0 = (ls.take m, (frames (ls.take m)).length) ∧ (m = ls.length ∨ k < (frames (ls.take m)).length + ((ls.getD m []).length + 6)) := by
  rcases Nat.lt_or_ge k (frames ls).length with hlt | hge
  · obtain ⟨m, j, h1, h2, h3, h4⟩ := cut_at ls k hlt
    have hm : (ls.getD m []).length ≤ 65529 := by
      rw [List.getD_eq_getElem?_getD, List.getElem?_eq_getElem h1]; exact h _ (List.getElem_mem h1)
    have := scan_frames ((fPut (ls.getD m [])).take j) (fTake0_cut _ hm j h2) (ls.take m) [] fun x hx => h x (List.mem_of_mem_take hx)
    rw [fPut_length] at h2
    refine ⟨m, by omega, by omega, ?_, .inr (by omega)⟩
    rw [h4]
    simpa using this
  · refine ⟨ls.length, Nat.le_refl _, by rw [List.take_length]; omega, ?_, .inl rfl⟩
    rw [List.take_length, List.take_of_length_le hge, scan_all ls h]

def cuE (w0 : World) (l g : List (List UInt8)) (k i : Nat) : Env :=
  [(0, .old w0 (row 1 (ss l))), (7, .ex (.int .i64 k)), (8, nestB w0.heap.size g), (9, .ex (.int .i64 (frames g).length)), (11, .ex (.int .i64 (frames (g.take i)).length)), (64, .ex (.int .i64 g.length)), (65, .ex (.int .i64 i))]

end Go.Proofs.Ytepgphflnelpoaa
end

section
set_option linter.unusedSimpArgs false
set_option linter.unusedVariables false
set_option maxRecDepth 20000
namespace Go.Free
open Go.RowKit

inductive Kd where
  | int (k : IntKind)
  | str
  | bool
def Kd.ok : Kd → Value → Prop
  | .int k, v => ∃ n, v = .int k n ∧ (Lit.int k n).wf = true
  | .str, v => ∃ s : ByteArray, v = .string s ∧ s.size ≤ maxLen
  | .bool, v => ∃ b, v = .bool b
def CellsOk : List Kd → List Value → Prop
  | [], cs => cs = []
  | k :: r, cs => ∃ v r', cs = v :: r' ∧ k.ok v ∧ CellsOk r r'
theorem CellsOk.append : ∀ {k1 k2 : List Kd} {c1 c2 : List Value}, CellsOk k1 c1 → CellsOk k2 c2 → CellsOk (k1 ++ k2) (c1 ++ c2)
  | [], _, _, _, h1, h2 => by simp only [CellsOk] at h1; subst h1; exact h2
  | k :: r, k2, _, c2, ⟨v, r', h1, h3, h4⟩, h2 => by subst h1; exact ⟨v, r' ++ c2, rfl, h3, CellsOk.append h4 h2⟩
theorem CellsOk.length : ∀ {k : List Kd} {c : List Value}, CellsOk k c → c.length = k.length
  | [], _, h => by simp only [CellsOk] at h; subst h; rfl
  | k :: r, _, ⟨v, r', h1, _, h4⟩ => by subst h1; simp [CellsOk.length h4]

def flatFs (P : Program) (g : TypeId → Option (List Kd)) : List Field → Nat → Option (List Kd)
  | [], _ => some []
  | f :: fs, acc =>
    match g f.type with
    | none => none
    | some a => if f.offset = acc ∧ a.length = P.cellsOf f.type then (flatFs P g fs (acc + a.length)).map (a ++ ·) else none
def flatT (P : Program) : Nat → TypeId → Option (List Kd)
  | 0, _ => none
  | n + 1, t =>
    match P.underlying t with
    | some .bool => some [.bool]
    | some (.int k) => some [.int k]
    | some .string => some [.str]
    | some (.struct fs) => match flatFs P (flatT P n) fs.toList 0 with | some l => if l.length = P.cellsOf t then some l else none | none => none
    | some (.array m e) => match flatT P n e with | some l => if l.length = P.cellsOf e ∧ m * l.length = P.cellsOf t then some (List.replicate m l).flatten else none | none => none
    | _ => none

section
variable {H : Type} {enc : TypeId × Value → H} {P : Program} {w : World} {base : Nat} {spare : Nat → Bool} {held : Bool}

theorem flatFs_ok {g : TypeId → Option (List Kd)} {m : Nat} {cs : List Value} (hg : ∀ t l cs x, g t = some l → DataW.trod enc P w base spare held m t cs = some x → CellsOk l cs) :
    ∀ (fs : List Field) (acc : Nat) (l : List Kd), flatFs P g fs acc = some l → acc + l.length ≤ cs.length → (∀ f ∈ fs, ∃ x, DataW.trod enc P w base spare held m f.type ((cs.drop f.offset).take (P.cellsOf f.type)) = some x) →
      CellsOk l ((cs.drop acc).take l.length)
  | [], acc, l, h, _, _ => by simp only [flatFs, Option.some.injEq] at h; subst h; simp [CellsOk]
  | f :: fs, acc, l, h, hl, hf => by
    simp only [flatFs] at h
    cases hga : g f.type with
    | none => rw [hga] at h; cases h
    | some a =>
      rw [hga] at h
      simp only at h
      split at h
      · rename_i hc
        cases hr : flatFs P g fs (acc + a.length) with
        | none => rw [hr] at h; cases h
        | some b =>
          rw [hr] at h
          simp only [Option.map_some, Option.some.injEq] at h
          subst h
          obtain ⟨x, hx⟩ := hf f List.mem_cons_self
          have h1 := hg _ _ _ _ hga hx
          rw [hc.1, ← hc.2] at h1
          rw [List.length_append] at hl ⊢
          have h2 := flatFs_ok hg fs _ b hr (by omega) (fun f' hf' => hf f' (List.mem_cons_of_mem _ hf'))
          rw [List.take_add, List.drop_drop]
          exact h1.append h2
      · cases h
theorem flatT_ok : ∀ (n : Nat) (t : TypeId) (l : List Kd) (m : Nat) (cs : List Value) (x : DataW H × List MemPlace), flatT P n t = some l → DataW.trod enc P w base spare held m t cs = some x → CellsOk l cs
  | 0, _, _, _, _, _, h, _ => by simp [flatT] at h
  | n + 1, t, l, m, cs, x, h, hx => by
    unfold flatT at h
    cases hu : P.underlying t with
    | none => rw [hu] at h; cases h
    | some d =>
      rw [hu] at h
      cases d <;> simp only [reduceCtorEq, Option.some.injEq] at h
      case bool =>
        subst h
        obtain ⟨b, rfl, _⟩ := DataW.trod_bool hu hx
        exact ⟨_, _, rfl, ⟨b, rfl⟩, rfl⟩
      case int k =>
        subst h
        obtain ⟨b, rfl, _, hw⟩ := DataW.trod_int hu hx
        exact ⟨_, _, rfl, ⟨b, rfl, hw⟩, rfl⟩
      case string =>
        subst h
        obtain ⟨s, rfl, _, hw⟩ := DataW.trod_string hu hx
        exact ⟨_, _, rfl, ⟨s, rfl, hw⟩, rfl⟩
      case struct fs =>
        split at h
        · rename_i l' hl'
          split at h
          · rename_i hlen
            cases h
            obtain ⟨xs, k, rfl, _, hcl, hxl, hf⟩ := DataW.trod_struct hu hx
            have := flatFs_ok (cs := cs) (fun t l cs x h1 h2 => flatT_ok n t l k cs x h1 h2) fs.toList 0 l hl' (by omega) (fun f hfm => by
              obtain ⟨i, hi⟩ := List.getElem?_of_mem hfm
              have hi' : i < fs.toList.length := (List.getElem?_eq_some_iff.1 hi).1
              have hfi := hf i f (by simpa using hi)
              have hix : i < xs.length := by simp at hi'; omega
              exact ⟨xs[i], by rw [hfi, List.getElem?_eq_getElem hix]⟩)
            rw [List.drop_zero, List.take_of_length_le (by omega)] at this
            exact this
          · cases h
        · cases h
      case array q e =>
        split at h
        · rename_i l' hl'
          split at h
          · rename_i hlen
            cases h
            obtain ⟨xs, k, rfl, _, hcl, hxl, hf⟩ := DataW.trod_array hu hx
            have each : ∀ i, i < q → CellsOk l' ((cs.drop (i * P.cellsOf e)).take (P.cellsOf e)) := fun i hi => by
              have hfi := hf i hi
              have hix : i < xs.length := by omega
              rw [List.getElem?_eq_getElem hix] at hfi
              exact flatT_ok n e l' k _ _ hl' hfi
            have key : ∀ j, j ≤ q → CellsOk (List.replicate j l').flatten (cs.take (j * P.cellsOf e)) := by
              intro j
              induction j with
              | zero => intro _; simp [CellsOk]
              | succ j ih =>
                intro hj
                rw [List.replicate_succ', List.flatten_append, Nat.add_mul, Nat.one_mul, List.take_add]
                simp only [List.flatten_cons, List.flatten_nil, List.append_nil]
                exact (ih (by omega)).append (each j (by omega))
            have := key q (Nat.le_refl _)
            rw [List.take_of_length_le (by rw [hcl, ← hlen.2, hlen.1]; exact Nat.le_refl _)] at this
            exact this
          · cases h
        · cases h

/-- The cells of a slice of such values that came in. -/
theorem flat_row {t e : TypeId} {n len cap : Nat} {l : List Kd} {A : Option Addr} {d : DataW H} {ps : List MemPlace} (ht : P.underlying t = some (.slice e)) (hl : flatT P n e = some l) (hsz : P.cellsOf e = l.length)
    (h : DataW.Trod enc P w base spare held t (.slice A len cap) d ps) : ∃ ls : List (List Value), ls.length = len ∧ len ≤ 9223372036854775807 ∧ (∀ c ∈ ls, CellsOk l c) ∧ rowH l.length ls.flatten w (.slice A len cap) := by
  obtain ⟨fuel, hf⟩ := h
  have hmm : maxLen = 9223372036854775807 := rfl
  rcases DataW.trod_slice ht hf with ⟨hcs, _⟩ | ⟨x, ln, cp, elems, rest, m, _, hcs, _, hb, h1, h2, h3, h4, _, _⟩
  · simp [Value.cells] at hcs
    obtain ⟨rfl, rfl, rfl⟩ := hcs
    exact ⟨[], rfl, by omega, by simp, none, 0, 0, rfl, by omega, by omega, by simp, fun _ => rfl, fun j u hu => by simp at hu⟩
  · simp [Value.cells] at hcs
    obtain ⟨rfl, rfl, rfl⟩ := hcs
    have each : ∀ i, i < len → ∃ c, CellsOk l c ∧ ∀ j u, c[j]? = some u → w.cell? (x.add (i * l.length + j)) = some u := fun i hi => by
      have := h4 i hi
      rw [List.getElem?_eq_getElem (by omega), Option.bind_eq_some_iff, hsz] at this
      obtain ⟨c, hc, hc2⟩ := this
      obtain ⟨_, hcl, hcc⟩ := World.cells?_some hc
      refine ⟨c, flatT_ok n e l m _ _ hl hc2, fun j u hu => ?_⟩
      have hj : j < c.length := (List.getElem?_eq_some_iff.1 hu).1
      have := hcc j (by omega)
      rw [hu] at this
      rw [← this]
      congr 1
      unfold Addr.add
      by_cases e1 : i * l.length = 0 <;> by_cases e2 : j = 0 <;> simp [e1, e2, Nat.add_assoc]
      all_goals first | omega | skip
    have build : ∀ k, k ≤ len → ∃ ls : List (List Value), ls.length = k ∧ (∀ c ∈ ls, CellsOk l c) ∧ ∀ j u, ls.flatten[j]? = some u → w.cell? (x.add j) = some u := by
      intro k
      induction k with
      | zero => intro _; exact ⟨[], rfl, by simp, fun j u hu => by simp at hu⟩
      | succ k ih =>
        intro hk
        obtain ⟨ls, hls, hok, hc⟩ := ih (by omega)
        obtain ⟨c, hck, hcc⟩ := each k (by omega)
        have hfl : ls.flatten.length = k * l.length := by
          rw [← hls]
          clear hls hc
          induction ls with
          | nil => simp
          | cons a r ihr => rw [List.flatten_cons, List.length_append, (hok a List.mem_cons_self).length, ihr (fun c hc => hok c (List.mem_cons_of_mem _ hc)), List.length_cons, Nat.add_mul]; omega
        refine ⟨ls ++ [c], by simp [hls], fun c' hc' => by rcases List.mem_append.1 hc' with h | h; exact hok c' h; rw [List.mem_singleton.1 h]; exact hck, fun j u hu => ?_⟩
        rw [List.flatten_append] at hu
        simp only [List.flatten_cons, List.flatten_nil, List.append_nil] at hu
        by_cases hj : j < ls.flatten.length
        · rw [List.getElem?_append_left hj] at hu; exact hc j u hu
        · rw [List.getElem?_append_right (by omega)] at hu
          have := hcc _ u hu
          rw [show k * l.length + (j - ls.flatten.length) = j by omega] at this
          exact this
    obtain ⟨ls, hls, hok, hc⟩ := build len (Nat.le_refl _)
    refine ⟨ls, hls, by omega, hok, some x, len, cap, rfl, h1, by omega, ?_, (fun h => by cases h), fun j u hu => ⟨x, rfl, hc j u hu⟩⟩
    rw [← hls]
    clear hls hc
    induction ls with
    | nil => simp
    | cons a r ihr => rw [List.flatten_cons, List.length_append, (hok a List.mem_cons_self).length, ihr (fun c hc => hok c (List.mem_cons_of_mem _ hc)), List.length_cons, Nat.add_mul]; omega
end
end Go.Free
end

section
set_option linter.unusedSimpArgs false
set_option linter.unusedVariables false
set_option maxRecDepth 20000
namespace Go.Free
open Go.RowKit

/-- A piece of memory: what holds of it where it lies in the blocks F. -/
structure Chunk where
  holds : World → (Nat → Prop) → Prop
  lt : ∀ w F b, holds w F → F b → b < w.heap.size
  loc : ∀ w w' F, holds w F → (∀ b, F b → w'.heap[b]? = w.heap[b]?) → holds w' F

structure Lies (H : List Chunk) (φ : Nat → Nat → Prop) (w : World) : Prop where
  holds : ∀ (q : Nat) (c : Chunk), H[q]? = some c → c.holds w (φ q)
  apart : ∀ p q b, φ p b → φ q b → p = q
  bound : ∀ q b, φ q b → q < H.length

/-- All blocks that were there are as they were, but those of S. -/
structure Kept (S : Nat → Prop) (w w' : World) : Prop where
  os : w'.os = w.os
  tape : w'.tape = w.tape
  output : w'.output = w.output
  size : w.heap.size ≤ w'.heap.size
  block : ∀ k, k < w.heap.size → ¬ S k → w'.heap[k]? = w.heap[k]?

theorem Kept.refl (S : Nat → Prop) (w : World) : Kept S w w := ⟨rfl, rfl, rfl, Nat.le_refl _, fun _ _ _ => rfl⟩
theorem Kept.trans {S T U : Nat → Prop} {a b c : World} (h : Kept S a b) (k : Kept T b c) (hS : ∀ i, i < a.heap.size → S i → U i) (hT : ∀ i, i < a.heap.size → T i → U i) : Kept U a c :=
  ⟨k.os.trans h.os, k.tape.trans h.tape, k.output.trans h.output, Nat.le_trans h.size k.size, fun i hi hn => (k.block i (Nat.lt_of_lt_of_le hi h.size) (fun e => hn (hT i hi e))).trans (h.block i hi fun e => hn (hS i hi e))⟩
theorem Kept.ofBelow {S : Nat → Prop} {w w' : World} (h : Below w.heap.size w w') : Kept S w w' := ⟨h.os, h.tape, h.output, h.size, fun k hk _ => h.block k hk⟩
theorem Kept.ofGrown {w w' : World} {r : Option Nat} (h : w.grownBy w' r) : Kept (fun b => r = some b) w w' := ⟨h.os, h.tape, h.output, h.size, fun k hk hn => h.block k hk (fun e => hn e.symm)⟩
theorem Kept.mono {S T : Nat → Prop} {w w' : World} (h : Kept S w w') (hS : ∀ b, b < w.heap.size → S b → T b) : Kept T w w' := ⟨h.os, h.tape, h.output, h.size, fun k hk hn => h.block k hk (fun e => hn (hS k hk e))⟩
theorem Kept.below {w w' : World} {S : Nat → Prop} (h : Kept S w w') (hS : ∀ b, b < w.heap.size → ¬ S b) : Below w.heap.size w w' := ⟨h.os, h.tape, h.output, h.size, fun k hk => h.block k hk (hS k hk)⟩

theorem Chunk.keep (c : Chunk) {S : Nat → Prop} {w w' : World} {F : Nat → Prop} (h : c.holds w F) (hk : Kept S w w') (hS : ∀ b, F b → ¬ S b) : c.holds w' F :=
  c.loc w w' F h fun b hb => hk.block b (c.lt w F b h hb) (hS b hb)
theorem Lies.lt {H : List Chunk} {φ : Nat → Nat → Prop} {w : World} (h : Lies H φ w) {q b : Nat} (hb : φ q b) : b < w.heap.size :=
  (H[q]'(h.bound q b hb)).lt w (φ q) b (h.holds q _ (List.getElem?_eq_getElem (h.bound q b hb))) hb
theorem Lies.keep {H : List Chunk} {φ : Nat → Nat → Prop} {S : Nat → Prop} {w w' : World} (h : Lies H φ w) (hk : Kept S w w') (hS : ∀ q b, φ q b → ¬ S b) : Lies H φ w' :=
  ⟨fun q c hq => c.keep (h.holds q c hq) hk (hS q), h.apart, h.bound⟩

/-- One chunk is turned. -/
theorem Lies.upd {H : List Chunk} {φ : Nat → Nat → Prop} {w w' : World} {q : Nat} {c' : Chunk} {F : Nat → Prop} (h : Lies H φ w) (hq : q < H.length) (hk : Kept (φ q) w w') (hc : c'.holds w' F)
    (hF : ∀ b, F b → φ q b ∨ w.heap.size ≤ b) : Lies (H.set q c') (fun p b => if p = q then F b else φ p b) w' := by
  refine ⟨fun p (c : Chunk) hp => ?_, fun p p' b hp hp' => ?_, fun p b hp => ?_⟩
  · by_cases he : p = q
    · subst he
      rw [List.getElem?_set_self hq] at hp
      cases hp
      simpa using hc
    · rw [List.getElem?_set_ne (Ne.symm he)] at hp
      simp only [if_neg he]
      exact c.keep (h.holds p c hp) hk fun b h1 h2 => he (h.apart p q b h1 h2)
  · by_cases he : p = q
    · by_cases he' : p' = q
      · rw [he, he']
      · simp only [if_pos he] at hp
        simp only [if_neg he'] at hp'
        rcases hF b hp with h1 | h1
        · exact absurd (h.apart _ _ b hp' h1) he'
        · exact absurd (h.lt hp') (by omega)
    · by_cases he' : p' = q
      · simp only [if_neg he] at hp
        simp only [if_pos he'] at hp'
        rcases hF b hp' with h1 | h1
        · exact absurd (h.apart _ _ b hp h1) he
        · exact absurd (h.lt hp) (by omega)
      · simp only [if_neg he] at hp
        simp only [if_neg he'] at hp'
        exact h.apart p p' b hp hp'
  · rw [List.length_set]
    by_cases he : p = q
    · rw [he]; exact hq
    · simp only [if_neg he] at hp
      exact h.bound p b hp

/-- One chunk more. -/
theorem Lies.add {H : List Chunk} {φ : Nat → Nat → Prop} {w w' : World} {c' : Chunk} {F : Nat → Prop} (h : Lies H φ w) (hk : Below w.heap.size w w') (hc : c'.holds w' F) (hF : ∀ b, F b → w.heap.size ≤ b) :
    Lies (H ++ [c']) (fun p b => if p = H.length then F b else φ p b) w' := by
  refine ⟨fun p (c : Chunk) hp => ?_, fun p p' b hp hp' => ?_, fun p b hp => ?_⟩
  · by_cases he : p = H.length
    · subst he
      simp only [List.getElem?_concat_length, Option.some.injEq] at hp
      subst hp
      simpa using hc
    · have hl : p < (H ++ [c']).length := (List.getElem?_eq_some_iff.1 hp).1
      have hl' : p < H.length := by simp at hl; omega
      rw [List.getElem?_append_left hl'] at hp
      simp only [if_neg he]
      exact c.keep (S := fun _ => False) (h.holds p c hp) (.ofBelow hk) fun _ _ e => e
  · by_cases he : p = H.length
    · by_cases he' : p' = H.length
      · rw [he, he']
      · simp only [if_pos he] at hp
        simp only [if_neg he'] at hp'
        have h1 := h.lt hp'
        have h2 := hF b hp
        omega
    · by_cases he' : p' = H.length
      · simp only [if_neg he] at hp
        simp only [if_pos he'] at hp'
        have h1 := h.lt hp
        have h2 := hF b hp'
        omega
      · simp only [if_neg he] at hp
        simp only [if_neg he'] at hp'
        exact h.apart p p' b hp hp'
  · rw [List.length_append]
    by_cases he : p = H.length
    · simp [he]
    · simp only [if_neg he] at hp
      have := h.bound p b hp
      simp; omega

/-- The heap, told under a key beyond the slots: its chunks, all within A. -/
def heap (A : Nat → Prop) (H : List Chunk) : Fa := .is ⟨fun w _ => ∃ φ, Lies H φ w ∧ ∀ q b, φ q b → A b,
  fun _ _ _ hb ⟨φ, h, ha⟩ => ⟨φ, h.keep (S := fun _ => False) (.ofBelow hb) (fun _ _ _ e => e), ha⟩⟩

/-- What is known of the world holds on where memory of A alone is turned; what is new is of A. -/
structure Own (I : World → Prop) (A : Nat → Prop) : Prop where
  fresh : ∀ w, I w → ∀ b, w.heap.size ≤ b → A b
  turn : ∀ w w', I w → Kept A w w' → I w'

theorem Own.below (w0 : World) : Own (fun w => Below w0.heap.size w0 w) (fun b => w0.heap.size ≤ b) :=
  ⟨fun _ h b hb => Nat.le_trans h.size hb, fun w w' h hk => h.trans ⟨hk.os, hk.tape, hk.output, hk.size, fun k hkk => hk.block k (Nat.lt_of_lt_of_le hkk h.size) (by omega)⟩⟩
theorem Own.kept (S : Nat → Prop) (w0 : World) : Own (fun w => Kept S w0 w) (fun b => S b ∨ w0.heap.size ≤ b) :=
  ⟨fun _ h b hb => .inr (Nat.le_trans h.size hb), fun w w' h hk => h.trans hk (fun _ _ h => h) (fun i hi h => h.resolve_right (by omega))⟩
theorem kept_below (S : Nat → Prop) (w0 : World) : ∀ w w', Kept S w0 w → Below w.heap.size w w' → Kept S w0 w' := fun w w' h hb => h.trans (.ofBelow (S := fun _ => False) hb) (fun _ _ h => h) (fun _ _ h => h.elim)

/-! ### Chunks -/
def emp : Chunk := ⟨fun _ F => ∀ b, ¬ F b, fun _ _ b h hb => (h b hb).elim, fun _ _ _ h _ => h⟩
/-- A struct, or a single value, alone in its block. -/
def obj (β : Nat) (cs : List Value) : Chunk := ⟨fun w F => (∃ e, w.heap[β]? = some (.cells cs.toArray e (0, 0))) ∧ ∀ b, F b ↔ b = β,
  fun _ _ b ⟨⟨_, h⟩, hF⟩ hb => by rw [(hF b).1 hb]; exact (Array.getElem?_eq_some_iff.1 h).1,
  fun _ _ _ ⟨⟨e, h⟩, hF⟩ hk => ⟨⟨e, (hk β ((hF β).2 rfl)).trans h⟩, hF⟩⟩
/-- A row of n elements of sz cells each, with nothing else in its block but spare room. -/
def rowC (e sz : Nat) (A : Option Addr) (n cap : Nat) (xs : List Value) : Chunk := ⟨fun w F => w.ownsRow 0 e sz (.slice A n cap) n xs ∧ ∀ b, F b ↔ (Value.slice A n cap).ownBlock = some b,
  fun _ _ b ⟨h, hF⟩ hb => (h.lt b ((hF b).1 hb)).2,
  fun w w' F ⟨h, hF⟩ hk => ⟨by
    refine ⟨h.1, ?_⟩
    rcases h.2 with h0 | ⟨g, cp, cur, hv, hb, hh, r⟩
    · exact .inl h0
    · exact .inr ⟨g, cp, cur, hv, hb, (hk g ((hF g).2 (by rw [hv]; rfl))).trans hh, r⟩, hF⟩⟩
def exC {X : Type} (c : X → Chunk) : Chunk := ⟨fun w F => ∃ x, (c x).holds w F, fun w F b ⟨x, h⟩ hb => (c x).lt w F b h hb, fun w w' F ⟨x, h⟩ hk => ⟨x, (c x).loc w w' F h hk⟩⟩
def sepC (c d : Chunk) : Chunk := ⟨fun w F => ∃ G K, (∀ b, F b ↔ G b ∨ K b) ∧ (∀ b, G b → K b → False) ∧ c.holds w G ∧ d.holds w K,
  fun w F b ⟨G, K, h1, _, h3, h4⟩ hb => ((h1 b).1 hb).elim (c.lt w G b h3) (d.lt w K b h4),
  fun w w' F ⟨G, K, h1, h2, h3, h4⟩ hk => ⟨G, K, h1, h2, c.loc w w' G h3 (fun b hb => hk b ((h1 b).2 (.inl hb))), d.loc w w' K h4 (fun b hb => hk b ((h1 b).2 (.inr hb)))⟩⟩
/-- A chunk, of which something is known besides. -/
def purC (p : Prop) (c : Chunk) : Chunk := ⟨fun w F => p ∧ c.holds w F, fun w F b h hb => c.lt w F b h.2 hb, fun w w' F h hk => ⟨h.1, c.loc w w' F h.2 hk⟩⟩

abbrev ptr (β : Nat) : Value := .pointer (some ⟨β, 0, none⟩)

theorem add_at (β o j : Nat) : (⟨β, o, none⟩ : Addr).add j = ⟨β, o + j, none⟩ := by unfold Addr.add; split <;> simp_all

/-- The chunk's cells read us from that place on. -/
def Chunk.reads (c : Chunk) (β off : Nat) (us : List Value) : Prop := ∀ w F, c.holds w F → ∀ j u, us[j]? = some u → w.cell? ⟨β, off + j, none⟩ = some u
theorem obj_reads {β off : Nat} {cs us : List Value} (h : (cs.drop off).take us.length = us) : (obj β cs).reads β off us := fun w F ⟨⟨e, hh⟩, _⟩ j u hu => by
  simp only [World.cell?, hh, Option.isSome_none, Bool.false_eq_true, if_false, List.getElem?_toArray]
  have hj : j < us.length := (List.getElem?_eq_some_iff.1 hu).1
  rw [← h, List.getElem?_take, if_pos hj, List.getElem?_drop] at hu
  exact hu
theorem obj_reads1 {β off : Nat} {cs : List Value} {u : Value} (h : cs[off]? = some u) : (obj β cs).reads β off [u] := obj_reads (by
  obtain ⟨hl, rfl⟩ := List.getElem?_eq_some_iff.1 h
  rw [List.length_singleton, List.drop_eq_getElem_cons hl]; rfl)
theorem row_reads {e sz β n cap off : Nat} {xs us : List Value} (h : (xs.drop off).take us.length = us) : (rowC e sz (some ⟨β, 0, none⟩) n cap xs).reads β off us := fun w F ⟨hh, _⟩ j u hu => by
  have hj : j < us.length := (List.getElem?_eq_some_iff.1 hu).1
  rw [← h, List.getElem?_take, if_pos hj, List.getElem?_drop] at hu
  have := hh.cells (g := β) rfl (off + j) u hu
  rw [add_at] at this
  simpa using this
theorem row_reads1 {e sz β n cap off : Nat} {xs : List Value} {u : Value} (h : xs[off]? = some u) : (rowC e sz (some ⟨β, 0, none⟩) n cap xs).reads β off [u] := row_reads (by
  obtain ⟨hl, rfl⟩ := List.getElem?_eq_some_iff.1 h
  rw [List.length_singleton, List.drop_eq_getElem_cons hl]; rfl)

/-- With vs stored from that place on the chunk is c'. -/
def Chunk.pat (c : Chunk) (β off : Nat) (vs : List Value) (c' : Chunk) : Prop := ∀ w F, c.holds w F → F β ∧ ∃ cur e, w.heap[β]? = some (.cells cur e (0, 0)) ∧ off + vs.length ≤ cur.size ∧
  ∀ w', w'.heap[β]? = some (.cells (cur.toList.take off ++ vs ++ cur.toList.drop (off + vs.length)).toArray e (0, 0)) → c'.holds w' F
theorem obj_pat {β off : Nat} {cs vs : List Value} (h : off + vs.length ≤ cs.length) : (obj β cs).pat β off vs (obj β (cs.take off ++ vs ++ cs.drop (off + vs.length))) := fun w F ⟨⟨e, hh⟩, hF⟩ =>
  ⟨(hF β).2 rfl, cs.toArray, e, hh, by simpa using h, fun w' hw => ⟨⟨e, by simpa using hw⟩, hF⟩⟩
theorem obj_pat1 {β off : Nat} {cs : List Value} {v : Value} (h : off < cs.length) : (obj β cs).pat β off [v] (obj β (cs.set off v)) := by
  have e : cs.set off v = cs.take off ++ [v] ++ cs.drop (off + [v].length) := by
    rw [List.set_eq_take_append_cons_drop, if_pos h]; simp
  rw [e]
  exact obj_pat (by simp only [List.length_singleton]; omega)
theorem row_pat {e sz β n cap off : Nat} {xs vs : List Value} (h : off + vs.length ≤ xs.length) : (rowC e sz (some ⟨β, 0, none⟩) n cap xs).pat β off vs (rowC e sz (some ⟨β, 0, none⟩) n cap (xs.take off ++ vs ++ xs.drop (off + vs.length))) := fun w F ⟨hh, hF⟩ => by
  refine ⟨(hF β).2 rfl, ?_⟩
  rcases hh.2 with ⟨h0, _⟩ | ⟨g, cp, cur, hv, hb, hg, h1, h2, h3, h4⟩
  · simp at h0
  · cases hv
    have hlen := hh.1
    have hle : n * sz ≤ cur.size := by rw [h3]; exact Nat.mul_le_mul_right _ h1
    refine ⟨cur, e, hg, by omega, fun w' hw => ⟨⟨by simp; omega, .inr ⟨β, cap, _, rfl, Nat.zero_le _, hw, h1, h2, by simp; omega, ?_⟩⟩, hF⟩⟩
    rw [← h4] at h ⊢
    have hk : off + vs.length ≤ n * sz := by rw [List.length_take] at h; omega
    rw [List.take_append, List.take_append, List.take_take, List.drop_take]
    have l1 : (cur.toList.take off).length = off := by rw [List.length_take, Array.length_toList]; omega
    rw [List.length_append, l1, List.take_take, Nat.min_eq_right (by omega), Nat.min_eq_left (show off ≤ n * sz by omega), List.take_of_length_le (show vs.length ≤ n * sz - off by omega)]
theorem row_pat1 {e sz β n cap off : Nat} {xs : List Value} {v : Value} (h : off < xs.length) : (rowC e sz (some ⟨β, 0, none⟩) n cap xs).pat β off [v] (rowC e sz (some ⟨β, 0, none⟩) n cap (xs.set off v)) := by
  have e : xs.set off v = xs.take off ++ [v] ++ xs.drop (off + [v].length) := by
    rw [List.set_eq_take_append_cons_drop, if_pos h]; simp
  rw [e]
  exact row_pat (by simp only [List.length_singleton]; omega)
end Go.Free
end

section
set_option linter.unusedSimpArgs false
set_option linter.unusedVariables false
set_option maxRecDepth 20000
namespace Go.Free
open Go.RowKit

/-- Who has c has d in no more blocks. -/
def Ent (c d : Chunk) : Prop := ∀ w F, c.holds w F → ∃ G, d.holds w G ∧ ∀ b, G b → F b
theorem Ent.refl (c : Chunk) : Ent c c := fun _ F h => ⟨F, h, fun _ hb => hb⟩
theorem Ent.trans {c d e : Chunk} (h : Ent c d) (k : Ent d e) : Ent c e := fun w F hc => by
  obtain ⟨G, h1, h2⟩ := h w F hc
  obtain ⟨K, h3, h4⟩ := k w G h1
  exact ⟨K, h3, fun b hb => h2 b (h4 b hb)⟩
theorem Ent.ex {X : Type} {c : Chunk} {d : X → Chunk} (x : X) (h : Ent c (d x)) : Ent c (exC d) := fun w F hc => by
  obtain ⟨G, h1, h2⟩ := h w F hc
  exact ⟨G, ⟨x, h1⟩, h2⟩
theorem Ent.pur {p : Prop} {c d : Chunk} (hp : p) (h : Ent c d) : Ent c (purC p d) := fun w F hc => by
  obtain ⟨G, h1, h2⟩ := h w F hc
  exact ⟨G, ⟨hp, h1⟩, h2⟩
theorem Ent.sep {c d c' d' : Chunk} (h : Ent c c') (k : Ent d d') : Ent (sepC c d) (sepC c' d') := fun w F ⟨G, K, h1, h2, h3, h4⟩ => by
  obtain ⟨G', g1, g2⟩ := h w G h3
  obtain ⟨K', k1, k2⟩ := k w K h4
  exact ⟨fun b => G' b ∨ K' b, ⟨G', K', fun _ => Iff.rfl, fun b hb hb' => h2 b (g2 b hb) (k2 b hb'), g1, k1⟩, fun b hb => (h1 b).2 (hb.elim (fun e => .inl (g2 b e)) (fun e => .inr (k2 b e)))⟩
theorem Ent.one {c : Chunk} : Ent (sepC c emp) c := fun w F ⟨G, K, h1, _, h3, _⟩ => ⟨G, h3, fun b hb => (h1 b).2 (.inl hb)⟩
theorem Ent.left {c d : Chunk} : Ent (sepC c d) c := fun w F ⟨G, K, h1, _, h3, _⟩ => ⟨G, h3, fun b hb => (h1 b).2 (.inl hb)⟩
theorem Ent.right {c d : Chunk} : Ent (sepC c d) d := fun w F ⟨G, K, h1, _, _, h4⟩ => ⟨K, h4, fun b hb => (h1 b).2 (.inr hb)⟩
theorem Ent.emp {c : Chunk} : Ent c emp := fun _ _ _ => ⟨fun _ => False, fun _ h => h, fun _ h => h.elim⟩
theorem Ent.fst {c d e : Chunk} (h : Ent c e) : Ent (sepC c d) e := Ent.left.trans h

def allC : List Chunk → Chunk
  | [] => emp
  | c :: r => sepC c (allC r)
theorem Lies.all : ∀ {H : List Chunk} {φ : Nat → Nat → Prop} {w : World}, Lies H φ w → (allC H).holds w (fun b => ∃ q, φ q b)
  | [], φ, w, h => fun b ⟨q, hb⟩ => absurd (h.bound q b hb) (Nat.not_lt_zero _)
  | c :: r, φ, w, h => by
    have h' : Lies r (fun q => φ (q + 1)) w := ⟨fun q d hq => h.holds (q + 1) d (by simpa using hq), fun p q b hp hq => by have := h.apart _ _ b hp hq; omega, fun q b hb => by have := h.bound _ b hb; simpa using this⟩
    refine ⟨φ 0, fun b => ∃ q, φ (q + 1) b, fun b => ⟨fun ⟨q, hb⟩ => ?_, fun hb => ?_⟩, fun b hb ⟨q, hb'⟩ => ?_, h.holds 0 c rfl, Lies.all h'⟩
    · cases q with
      | zero => exact .inl hb
      | succ q => exact .inr ⟨q, hb⟩
    · rcases hb with hb | ⟨q, hb⟩
      · exact ⟨0, hb⟩
      · exact ⟨q + 1, hb⟩
    · have := h.apart _ _ b hb hb'
      omega

/-- A function that turns a chunk: called with As and c it ends with R x and c' x for some x, and turns no more than c's blocks. -/
def SpcC (P : Program) (f : FuncId) (As : List Fa) (c : Chunk) {X : Type} (ok : X → Prop) (R : X → Fa) (c' : X → Chunk) : Prop :=
  ∀ (w : World) (args : List Value) (F : Nat → Prop), Fa.dens As w args → c.holds w F → Calls P f args.toArray w fun e w' =>
    ∃ v x, e = .returned v ∧ ok x ∧ Kept F w w' ∧ (R x).den w' v ∧ ∃ F', (c' x).holds w' F' ∧ ∀ b, F' b → F b ∨ w.heap.size ≤ b
/-- A function that reads a chunk. -/
def SpcR (P : Program) (f : FuncId) (As : List Fa) (c : Chunk) (R : Nat → Fa) : Prop :=
  ∀ (w : World) (args : List Value) (F : Nat → Prop), Fa.dens As w args → c.holds w F → Calls P f args.toArray w fun e w' => ∃ v, e = .returned v ∧ Below w.heap.size w w' ∧ ∀ B, B ≤ w.heap.size → (R B).den w' v

section
variable {P : Program} {ops : Array Oper} {Q : Exit → Act → World → Prop} {n : Nat} {I : World → Prop} {k i : Nat} {E : Env} {o : Oper} {d : Bool} {A : Nat → Prop} {H : List Chunk} {key : Nat}

/-- An operation that turns chunks. -/
theorem Plan.turn (ho : ops[i]? = some o) (hg : wantB ops E o = some true) (hd : ∀ d, o.dst = some d → d < n) (hk : look E key = some (heap A H)) (hA : Own I A)
    (h : ∀ a w φ, I w → Sat E a w → (∀ x, x ∈ o.op.operands → ∀ f, opF E x = some f → f.den w (a.eval x)) → Lies H φ w → (∀ q b, φ q b → A b) → (∀ b, w.heap.size ≤ b → A b) → Sh n a →
      wpOp P ops Q i (fun a' w' => ∃ v F H' φ', a' = a.put o.dst v ∧ Kept A w w' ∧ Lies H' φ' w' ∧ (∀ q b, φ' q b → A b) ∧ F.den w' v ∧ Plan P ops Q n I d k (i + 1) (setE o.dst F ((key, heap A H') :: sieve E))) a w)
    (hq : d = false ∨ barB ops i = true) : Plan P ops Q n I d (k + 1) i E := by
  refine .inr ⟨hq, ?_⟩
  intro a w hI hsh hs
  obtain ⟨φ, hL, hLA⟩ := hs key _ hk
  refine wpOp_mono ?_ (h a w φ hI hs (fun x hx f hf => opF_den ho hx (fun t _ f hf => hs t f hf) hf) hL hLA (hA.fresh w hI) hsh)
  rintro a' w' ⟨v, F, H', φ', rfl, hK, hL', hLA', hF, hp⟩
  refine ⟨_, hp, hA.turn w w' hI hK, hsh.put _ _, ?_⟩
  have hs' : Sat ((key, heap A H') :: sieve E) a w' := by
    intro t f hf
    simp only [look] at hf
    by_cases ht : key = t
    · rw [if_pos ht] at hf; cases hf; exact ⟨φ', hL', hLA'⟩
    · rw [if_neg ht] at hf; exact sieve_sat hs w' t f hf
  intro t f hf
  cases hdst : o.dst with
  | none => rw [hdst] at hf; exact hs' t f hf
  | some dd =>
    rw [hdst] at hf
    simp only [setE, look] at hf
    by_cases hdt : dd = t
    · subst hdt
      simp only [if_true, Option.some.injEq] at hf
      subst hf
      rw [slot_put_same hsh (hd dd hdst)]
      exact hF
    · rw [if_neg hdt] at hf
      rw [slot_put_ne a hdt]
      have : look ((key, heap A H') :: sieve E) t = some f := by simpa only [look] using hf
      exact hs' t f this

/-- As it runs within the function. -/
theorem Plan.turnRun (ho : ops[i]? = some o) (hg : wantB ops E o = some true) (hd : ∀ d, o.dst = some d → d < n) (hk : look E key = some (heap A H)) (hA : Own I A)
    (h : ∀ a w φ, I w → Sat E a w → (∀ x, x ∈ o.op.operands → ∀ f, opF E x = some f → f.den w (a.eval x)) → Lies H φ w → (∀ q b, φ q b → A b) → (∀ b, w.heap.size ≤ b → A b) →
      ∃ v w' F H' φ', ((execOp a.eval o).run P w = .ok (.value v) w' ∨ ((execOp a.eval o).run P w = .ok .skip w' ∧ v = undef)) ∧ Kept A w w' ∧ Lies H' φ' w' ∧ (∀ q b, φ' q b → A b) ∧ F.den w' v ∧ Plan P ops Q n I d k (i + 1) (setE o.dst F ((key, heap A H') :: sieve E)))
    (hq : d = false ∨ barB ops i = true) : Plan P ops Q n I d (k + 1) i E :=
  Plan.turn ho hg hd hk hA (fun a w φ h1 h2 h3 h4 h5 h6 hsh => by
    obtain ⟨v, w', F, H', φ', hr, r⟩ := h a w φ h1 h2 h3 h4 h5 h6
    unfold wpOp
    simp only [ho, wantB_spec ho hsh (fun t _ f hf => h2 t f hf) hg, if_true]
    refine .inl ?_
    unfold Oper.wp
    rcases hr with hr | ⟨hr, rfl⟩ <;> rw [hr] <;> exact ⟨_, F, H', φ', rfl, r⟩) hq

theorem wide {H : List Chunk} {φ : Nat → Nat → Prop} {q : Nat} {w : World} {F : Nat → Prop} (h : ∀ q b, φ q b → A b) (h2 : ∀ b, w.heap.size ≤ b → A b) (hF : ∀ b, F b → φ q b ∨ w.heap.size ≤ b) : ∀ p b, (if p = q then F b else φ p b) → A b := fun p b hb => by
  by_cases he : p = q
  · rw [if_pos he] at hb
    exact (hF b hb).elim (h q b) (h2 b)
  · rw [if_neg he] at hb; exact h p b hb

/-- A store of one value, or of a struct, into a chunk. -/
theorem Plan.storeC {t : TypeId} {p x : Operand} {β off q : Nat} {c c' : Chunk} {v : Value} (ho : ops[i]? = some o) (hop : o.op = .store t p x) (hdst : o.dst = none) (hg : wantB ops E o = some true)
    (hp : opF E p = some (.ex (.pointer (some ⟨β, off, none⟩)))) (hx : opF E x = some (.ex v)) (hone : ∀ u ∈ v.cells.toList, u.oneCell' = true) (hi : (P.info? t).map (·.size) = some v.cells.size)
    (hk : look E key = some (heap A H)) (hA : Own I A) (hqH : H[q]? = some c) (hpat : c.pat β off v.cells.toList c')
    (h : Plan P ops Q n I d k (i + 1) ((key, heap A (H.set q c')) :: sieve E)) (hq : d = false ∨ barB ops i = true := by first | exact .inl rfl | exact .inr (by kernel_rfl)) : Plan P ops Q n I d (k + 1) i E :=
  Plan.turnRun ho hg (by rw [hdst]; intro _ e; cases e) hk hA (fun a w φ _ _ hs' hL hLA hfr => by
    have e1 := hs' p (by simp [hop, Op.operands]) _ hp
    have e2 := hs' x (by simp [hop, Op.operands]) _ hx
    simp only [Fa.den] at e1 e2
    obtain ⟨hβ, cur, e, hh, hle, hc'⟩ := hpat w (φ q) (hL.holds q c hqH)
    have hst := run_storeCells_at P β off e v.cells.toList 0 cur w hh (by simpa using hle) hone
    simp only [Nat.add_zero] at hst
    obtain ⟨inf, hi1, hi2⟩ : ∃ inf, P.info? t = some inf ∧ inf.size = v.cells.size := by
      cases hinf : P.info? t with
      | none => rw [hinf] at hi; cases hi
      | some inf => rw [hinf] at hi; exact ⟨inf, rfl, by simpa using hi⟩
    obtain ⟨w', hw'⟩ : ∃ w', w' = w.setRow β (cur.toList.take off ++ v.cells.toList ++ cur.toList.drop (off + v.cells.toList.length)).toArray := ⟨_, rfl⟩
    rw [← hw'] at hst
    have hK : Kept (φ q) w w' := by
      subst hw'
      exact ⟨rfl, rfl, rfl, by simp, fun kk _ hkk => setRow_other w β kk _ (fun e => hkk (by rw [e]; exact hβ))⟩
    have hc2 := hc' w' (by subst hw'; exact setRow_heap w β cur _ e _ hh)
    have hqlt : q < H.length := (List.getElem?_eq_some_iff.1 hqH).1
    have hL' := hL.upd hqlt hK hc2 (fun b hb => .inl hb)
    refine ⟨undef, w', .ex undef, H.set q c', _, .inr ⟨?_, rfl⟩, hK.mono (fun b _ hb => hLA q b hb), hL', wide (H := H) hLA hfr (fun b hb => .inl hb), by simp [Fa.den], by rw [hdst]; exact h⟩
    simp [execOp, hop, e1, e2, Instr.storeAt, Instr.sureAddr, storeVar, sizeOf, typeInfo, hi1, hi2, hst]) hq

/-- A load of one value out of a chunk. -/
theorem Plan.loadC {t : TypeId} {u : TypeDesc} {x : Operand} {β off q : Nat} {c : Chunk} {v : Value} (ho : ops[i]? = some o) (hop : o.op = .load t x) (hg : wantB ops E o = some true)
    (hx : opF E x = some (.ex (.pointer (some ⟨β, off, none⟩)))) (hk : look E key = some (heap A H)) (hqH : H[q]? = some c) (hr : c.reads β off [v]) (hu : P.underlying t = some u) (hna : aggB u = false) (hkn : n ≤ key)
    (h : Plan P ops Q n I d k (i + 1) (setE o.dst (.ex v) E)) : Plan P ops Q n I d (k + 1) i E :=
  Plan.step ho (Step.runK ho hg fun a w _ hs' hK => by
    have e1 := hs' x (by simp [hop, Op.operands]) _ hx
    simp only [Fa.den] at e1
    obtain ⟨φ, hL, _⟩ := hK key hkn _ hk
    have hc := hr w (φ q) (hL.holds q c hqH) 0 v rfl
    simp only [Nat.add_zero] at hc
    refine ⟨v, w, ?_, Below.refl _ _, by simp [Fa.den]⟩
    have hagg : (isAgg t).run P w = .ok false w := by
      cases u <;> simp [aggB] at hna <;> simp [isAgg, run_underlying hu]
    simp [execOp, hop, e1, Instr.loadAt, Instr.sureAddr, loadVar, hagg, run_load, hc]) h
/-- A load of a struct out of a chunk. -/
theorem Plan.loadAggC {t : TypeId} {u : TypeDesc} {x : Operand} {β off q : Nat} {c : Chunk} {vs : List Value} (ho : ops[i]? = some o) (hop : o.op = .load t x) (hg : wantB ops E o = some true)
    (hx : opF E x = some (.ex (.pointer (some ⟨β, off, none⟩)))) (hk : look E key = some (heap A H)) (hqH : H[q]? = some c) (hr : c.reads β off vs) (hu : P.underlying t = some u) (hna : aggB u = true) (hi : (P.info? t).map (·.size) = some vs.length) (hkn : n ≤ key)
    (h : Plan P ops Q n I d k (i + 1) (setE o.dst (.ex (.agg vs.toArray)) E)) : Plan P ops Q n I d (k + 1) i E :=
  Plan.step ho (Step.runK ho hg fun a w _ hs' hK => by
    have e1 := hs' x (by simp [hop, Op.operands]) _ hx
    simp only [Fa.den] at e1
    obtain ⟨φ, hL, _⟩ := hK key hkn _ hk
    have hc := hr w (φ q) (hL.holds q c hqH)
    obtain ⟨inf, hi1, hi2⟩ : ∃ inf, P.info? t = some inf ∧ inf.size = vs.length := by
      cases hinf : P.info? t with
      | none => rw [hinf] at hi; cases hi
      | some inf => rw [hinf] at hi; exact ⟨inf, rfl, by simpa using hi⟩
    refine ⟨.agg vs.toArray, w, ?_, Below.refl _ _, by simp [Fa.den]⟩
    have hagg : (isAgg t).run P w = .ok true w := by
      cases u <;> simp [aggB] at hna <;> simp [isAgg, run_underlying hu]
    have hl := run_loadCellsFrom (P := P) ⟨β, off, none⟩ w vs.length 0 #[] vs rfl (fun j u hu => by rw [Nat.zero_add, add_at]; exact hc j u hu)
    simp [execOp, hop, e1, Instr.loadAt, Instr.sureAddr, loadVar, hagg, sizeOf, typeInfo, hi1, hi2, loadCells, hl]) h

theorem Plan.fieldC {s : TypeId} {x : Operand} {β o0 f off : Nat} {fs : Array Field} {fld : Field} (ho : ops[i]? = some o) (hop : o.op = .fieldAddr s x f) (hg : wantB ops E o = some true)
    (hx : opF E x = some (.ex (.pointer (some ⟨β, o0, none⟩)))) (hu : P.underlying s = some (.struct fs)) (hf : fs[f]? = some fld) (hi : ((P.info? fld.type).map fun i => decide (0 < i.size)) = some true) (hoff : o0 + fld.offset = off)
    (h : Plan P ops Q n I d k (i + 1) (setE o.dst (.ex (.pointer (some ⟨β, off, none⟩))) E)) : Plan P ops Q n I d (k + 1) i E :=
  Plan.step ho (Step.run ho hg fun a w _ hs' => by
    have e1 := hs' x (by simp [hop, Op.operands]) _ hx
    simp only [Fa.den] at e1
    obtain ⟨inf, hi1, hi2⟩ : ∃ inf, P.info? fld.type = some inf ∧ ¬ inf.size = 0 := by
      cases hinf : P.info? fld.type with
      | none => rw [hinf] at hi; cases hi
      | some inf => rw [hinf] at hi; exact ⟨inf, rfl, by simp at hi; omega⟩
    refine ⟨.pointer (some ⟨β, off, none⟩), w, ?_, Below.refl _ _, by simp [Fa.den]⟩
    simp [execOp, hop, e1, Instr.fieldAt, Instr.sureAddr, run_underlying hu, hf, fieldPlace, sizeOf, typeInfo, hi1, hi2, add_at, hoff]) h

theorem Plan.nilOk {x : Operand} {ad : Addr} (ho : ops[i]? = some o) (hop : o.op = .nilCheck x) (hg : wantB ops E o = some true) (hx : opF E x = some (.ex (.pointer (some ad))))
    (h : Plan P ops Q n I d k (i + 1) (setE o.dst (.ex (.pointer (some ad))) E)) : Plan P ops Q n I d (k + 1) i E :=
  Plan.step ho (Step.run ho hg fun a w _ hs' => by
    have e1 := hs' x (by simp [hop, Op.operands]) _ hx
    simp only [Fa.den] at e1
    exact ⟨.pointer (some ad), w, by simp [execOp, hop, e1], Below.refl _ _, by simp [Fa.den]⟩) h

/-- A new variable. -/
theorem Plan.allocC {t : TypeId} {z : Value} (ho : ops[i]? = some o) (hop : o.op = .alloc t) (hg : wantB ops E o = some true) (hd : ∀ d, o.dst = some d → d < n) (hz : (P.info? t).bind (·.zero) = some z)
    (hk : look E key = some (heap A H)) (hA : Own I A)
    (h : ∀ β, Plan P ops Q n I d k (i + 1) (setE o.dst (.ex (ptr β)) ((key, heap A (H ++ [obj β z.cells.toList])) :: sieve E))) (hq : d = false ∨ barB ops i = true := by first | exact .inl rfl | exact .inr (by kernel_rfl)) : Plan P ops Q n I d (k + 1) i E :=
  Plan.turnRun ho hg hd hk hA (fun a w φ _ _ _ hL hLA hfr => by
    obtain ⟨inf, hi1, hi2⟩ : ∃ inf, P.info? t = some inf ∧ inf.zero = some z := by
      cases hinf : P.info? t with
      | none => rw [hinf] at hz; cases hz
      | some inf => rw [hinf] at hz; exact ⟨inf, rfl, by simpa using hz⟩
    have hb : Below w.heap.size w (w.alloc (.cells z.cells t)) := (Below.refl _ _).alloc (Nat.le_refl _) _
    have hL' := hL.add (c' := obj w.heap.size z.cells.toList) (F := fun b => b = w.heap.size) hb ⟨⟨t, by rw [Array.toArray_toList]; exact heap_alloc_new w _⟩, fun b => Iff.rfl⟩ (fun b e => Nat.le_of_eq e.symm)
    refine ⟨ptr w.heap.size, w.alloc (.cells z.cells t), .ex (ptr w.heap.size), _, _, .inl ?_, .ofBelow hb, hL', fun q b hb => ?_, by simp [Fa.den], h w.heap.size⟩
    · simp [execOp, hop, Instr.alloc, zeroValue, typeInfo, hi1, hi2, newVar, newRow]
    · by_cases he : q = H.length
      · simp only [if_pos he] at hb; exact hfr b (Nat.le_of_eq hb.symm)
      · simp only [if_neg he] at hb; exact hLA q b hb) hq

/-- A call that turns chunk q. -/
theorem Plan.callC {f : FuncId} {xs : List Operand} {ts : Array TypeId} {fs : List Fa} {c : Chunk} {X : Type} {ok : X → Prop} {R : X → Fa} {c' : X → Chunk} {fn : Func} {q : Nat} (ho : ops[i]? = some o)
    (hop : o.op = .call { callee := .value (.func f), args := xs.toArray, argTypes := ts }) (hg : wantB ops E o = some true) (hc : SpcC P f fs c ok R c')
    (hf : P.funcs[f]? = some fn) (hbody : fn.body.isNone = false) (hname : (fn.name == "runtime.NumGoroutine") = false) (hd : ∀ d, o.dst = some d → d < n)
    (hx : Opnds I E xs fs) (hk : look E key = some (heap A H)) (hA : Own I A) (hqH : H[q]? = some c)
    (h : ∀ x, ok x → Plan P ops Q n I d k (i + 1) (setE o.dst (R x) ((key, heap A (H.set q (c' x))) :: sieve E))) (hq : d = false ∨ barB ops i = true := by first | exact .inl rfl | exact .inr (by kernel_rfl)) : Plan P ops Q n I d (k + 1) i E :=
  Plan.turn ho hg hd hk hA (fun a w φ hI hs hs' hL hLA hfr hsh => by
    unfold wpOp
    simp only [ho, wantB_spec ho hsh (fun t _ f hf => hs t f hf) hg, if_true]
    refine .inl ?_
    unfold Oper.wp
    have hrun : (execOp a.eval o).run P w = .ok (.enter f (xs.map a.eval).toArray) w := by
      have hn : ¬ fn.name = "runtime.NumGoroutine" := by simpa using hname
      have hb : ¬ fn.body = none := by intro e; rw [e] at hbody; cases hbody
      simp [execOp, hop, resolve, invoke, callFunc, Deferred.ofValue, Act.eval, hf, hb, hn]
    rw [hrun]
    simp only [Oper.upon]
    have hden := Opnds.dens (a := a) hI hx (fun x hxm f hf => hs' x (by simp [hop, Op.operands, Call.operands, hxm]) f hf)
    refine (hc w _ (φ q) hden (hL.holds q c hqH)).mono ?_
    rintro e w' ⟨v, x, rfl, hok, hK, hR, F', hF', hFb⟩
    have hqlt : q < H.length := (List.getElem?_eq_some_iff.1 hqH).1
    exact ⟨v, R x, H.set q (c' x), _, rfl, hK.mono (fun b _ hb => hLA q b hb), hL.upd hqlt hK hF' hFb, wide (H := H) hLA hfr hFb, hR, h x hok⟩) hq

/-- A call that makes a chunk. -/
theorem Plan.callN {f : FuncId} {xs : List Operand} {ts : Array TypeId} {fs : List Fa} {X : Type} {ok : X → Prop} {R : X → Fa} {c' : X → Chunk} {fn : Func} (ho : ops[i]? = some o)
    (hop : o.op = .call { callee := .value (.func f), args := xs.toArray, argTypes := ts }) (hg : wantB ops E o = some true) (hc : SpcC P f fs emp ok R c')
    (hf : P.funcs[f]? = some fn) (hbody : fn.body.isNone = false) (hname : (fn.name == "runtime.NumGoroutine") = false) (hd : ∀ d, o.dst = some d → d < n)
    (hx : Opnds I E xs fs) (hk : look E key = some (heap A H)) (hA : Own I A)
    (h : ∀ x, ok x → Plan P ops Q n I d k (i + 1) (setE o.dst (R x) ((key, heap A (H ++ [c' x])) :: sieve E))) (hq : d = false ∨ barB ops i = true := by first | exact .inl rfl | exact .inr (by kernel_rfl)) : Plan P ops Q n I d (k + 1) i E :=
  Plan.turn ho hg hd hk hA (fun a w φ hI hs hs' hL hLA hfr hsh => by
    unfold wpOp
    simp only [ho, wantB_spec ho hsh (fun t _ f hf => hs t f hf) hg, if_true]
    refine .inl ?_
    unfold Oper.wp
    have hrun : (execOp a.eval o).run P w = .ok (.enter f (xs.map a.eval).toArray) w := by
      have hn : ¬ fn.name = "runtime.NumGoroutine" := by simpa using hname
      have hb : ¬ fn.body = none := by intro e; rw [e] at hbody; cases hbody
      simp [execOp, hop, resolve, invoke, callFunc, Deferred.ofValue, Act.eval, hf, hb, hn]
    rw [hrun]
    simp only [Oper.upon]
    have hden := Opnds.dens (a := a) hI hx (fun x hxm f hf => hs' x (by simp [hop, Op.operands, Call.operands, hxm]) f hf)
    refine (hc w _ (fun _ => False) hden (fun _ e => e)).mono ?_
    rintro e w' ⟨v, x, rfl, hok, hK, hR, F', hF', hFb⟩
    have hB : Below w.heap.size w w' := hK.below (fun _ _ e => e)
    refine ⟨v, R x, H ++ [c' x], _, rfl, .ofBelow hB, hL.add hB hF' (fun b hb => (hFb b hb).resolve_left id), fun q b hb => ?_, hR, h x hok⟩
    by_cases he : q = H.length
    · simp only [if_pos he] at hb; exact hfr b ((hFb b hb).resolve_left id)
    · simp only [if_neg he] at hb; exact hLA q b hb) hq

/-- A call that reads chunk q. -/
theorem Plan.callR {f : FuncId} {xs : List Operand} {ts : Array TypeId} {fs : List Fa} {c : Chunk} {R : Nat → Fa} {fn : Func} {q B : Nat} (ho : ops[i]? = some o)
    (hop : o.op = .call { callee := .value (.func f), args := xs.toArray, argTypes := ts }) (hg : wantB ops E o = some true) (hc : SpcR P f fs c R)
    (hf : P.funcs[f]? = some fn) (hbody : fn.body.isNone = false) (hname : (fn.name == "runtime.NumGoroutine") = false) (hB : ∀ w, I w → B ≤ w.heap.size)
    (hx : Opnds I E xs fs) (hk : look E key = some (heap A H)) (hqH : H[q]? = some c) (hkn : n ≤ key)
    (h : Plan P ops Q n I d k (i + 1) (setE o.dst (R B) E)) : Plan P ops Q n I d (k + 1) i E :=
  Plan.step (F := R B) ho (fun a w hI hsh hs => by
    unfold wpOp
    simp only [ho, wantB_spec ho hsh (fun t ht => hs t (.inl ht)) hg, if_true]
    refine .inl ?_
    unfold Oper.wp
    have hrun : (execOp a.eval o).run P w = .ok (.enter f (xs.map a.eval).toArray) w := by
      have hn : ¬ fn.name = "runtime.NumGoroutine" := by simpa using hname
      have hb : ¬ fn.body = none := by intro e; rw [e] at hbody; cases hbody
      simp [execOp, hop, resolve, invoke, callFunc, Deferred.ofValue, Act.eval, hf, hb, hn]
    rw [hrun]
    simp only [Oper.upon]
    obtain ⟨φ, hL, _⟩ := hs key (.inr hkn) _ hk
    have hden := Opnds.dens (a := a) hI hx (fun x hxm f hf => opF_den ho (by simp [hop, Op.operands, Call.operands, hxm]) (fun t ht => hs t (.inl ht)) hf)
    refine (hc w _ (φ q) hden (hL.holds q c hqH)).mono ?_
    rintro e w' ⟨v, rfl, hb, hR⟩
    exact ⟨v, by rw [dst_of ho], hb, hR B (hB w hI)⟩) h
end
end Go.Free
end
