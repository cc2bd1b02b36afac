/-
  Frames: the plain functions, and that frame.Put, frame.Take and their references return what these say.
-/
import Derived.Test.YtdfdhhepbkejpaaCrcRef2
import Derived.Test.YtdfdhhepbkejpaaFreeMore
set_option linter.unusedSimpArgs false
set_option linter.unusedVariables false
namespace Go.Proofs.Ytdfdhhepbkejpaa
open Go.Free Go.RowKit Go.Proofs

def hdr (n : Nat) : List UInt8 := [UInt8.ofNat (n / 256), UInt8.ofNat (n % 256)]
def fPut (l : List UInt8) : List UInt8 := crcSeal (hdr l.length) ++ crcSeal l
theorem seal_length (l : List UInt8) : (crcSeal l).length = l.length + 2 := by simp [crcSeal]
theorem fPut_length (l : List UInt8) : (fPut l).length = l.length + 6 := by simp [fPut, seal_length, hdr]; omega
abbrev opened (l : List UInt8) : List UInt8 := (crcOpen l).getD []
abbrev fits (l : List UInt8) : Bool := (crcOpen l).isSome
def hlen (h : List UInt8) : Nat := (h.getD 0 0).toNat * 256 + (h.getD 1 0).toNat
/-- The body at the head of bytes, how many bytes that is, the error. -/
def fTake0 (r : List UInt8) : List UInt8 × Nat × Nat :=
  if r.length < 4 then ([], 0, 2)
  else if fits (r.take 4) = false then ([], 0, 5)
  else if 65529 < hlen (opened (r.take 4)) then ([], 0, 4)
  else if r.length < hlen (opened (r.take 4)) + 6 then ([], 0, 2)
  else if fits ((r.take (hlen (opened (r.take 4)) + 6)).drop 4) = false then ([], 0, 5)
  else (opened ((r.take (hlen (opened (r.take 4)) + 6)).drop 4), hlen (opened (r.take 4)) + 6, 0)
def fTake (l : List UInt8) (p : Int) : List UInt8 × Nat × Nat :=
  if p < 0 ∨ (l.length : Int) < p then ([], 0, 1)
  else if (fTake0 (l.drop p.toNat)).2.2 = 0 then ((fTake0 (l.drop p.toNat)).1, p.toNat + (fTake0 (l.drop p.toNat)).2.1, 0) else ([], 0, (fTake0 (l.drop p.toNat)).2.2)

theorem hlen_le (h : List UInt8) : hlen h ≤ 65535 := by
  have h1 := (h.getD 0 0).toNat_lt
  have h2 := (h.getD 1 0).toNat_lt
  unfold hlen; omega

theorem opened_len {l : List UInt8} (h : fits l = true) : 2 ≤ l.length ∧ (opened l).length = l.length - 2 := by
  unfold fits opened crcOpen at *
  split at h
  · rename_i g
    rw [if_pos g]
    simp only [Option.getD_some, List.length_take]; omega
  · cases h
theorem shl8 (x : Nat) (h : x < 65536) : IntKind.i64.wrap ((x : Int) * 2 ^ 8) = ((x * 256 : Nat) : Int) := by rw [i64r (by omega)]; omega
theorem hdr_cells (n : Nat) : flat [Value.int .u8 ((n / 256 % 256 : Nat) : Int), Value.int .u8 ((n % 256 % 256 : Nat) : Int)] = bs (hdr n) := by
  simp [hdr, bs, flat, Value.cells]
theorem hdr_cells2 {n : Nat} (h : n < 65536) : flat [Value.int .u8 ((n / 2 ^ 8 : Nat) : Int), Value.int .u8 ((n % 256 : Nat) : Int)] = bs (hdr n) := by
  rw [← hdr_cells, Nat.mod_mod, Nat.mod_eq_of_lt (a := n / 256) (by omega)]
theorem hdr_cells3 {n : Nat} (h : n < 65536) : flat [Value.int .u8 ((n / 256 : Nat) : Int), Value.int .u8 ((n % 256 : Nat) : Int)] = bs (hdr n) := hdr_cells2 h
theorem frame_Put (l : List UInt8) (hl : l.length ≤ 140737488355000) : Spc Try.prog 25 [bytesF l] fun B => .tup [ownB B (if 65529 < l.length then [] else fPut l), .ex (.int .i64 (if 65529 < l.length then 4 else 0))] := by
  refine Spc.intro Try.func25 rfl (Nat.le_of_ble_eq_true rfl) fun w0 => ?_
  have hI := hIb w0
  repeat (first | refine Plan.move rfl rfl rfl rfl ?_ | refine Plan.assign rfl rfl rfl rfl ?_ | (refine Plan.ints rfl rfl rfl rfl rfl rfl ?_; (skip)) | refine Plan.lenB rfl rfl rfl rfl (by exact Sub.old (fun _ h => h)) Try.underlying27 ?_ | refine J.seq (J.region mixed hI (by kernel_rfl) ?_) | refine J.seq (J.seq (J.region mixed hI (by kernel_rfl) ?_)))
  refine J.condD rfl (fun h => ?_) (fun h => ?_)
  · have h' : 65529 < l.length := by omega
    rw [if_pos h', if_pos h']
    repeat (first | refine Plan.assign rfl rfl rfl rfl ?_ | refine J.seq (J.region mixed hI (by kernel_rfl) ?_))
    exact J.ret (Nrm.ret2 rfl (fun _ h => h) fun B hB => ⟨_, rfl, Ress.cons rfl (by exact Sub.nilOwn (fun _ h => Nat.le_trans hB h.size)) (Ress.cons rfl (by exact Sub.refl _) Ress.nil)⟩)
  · have h' : ¬ 65529 < l.length := by omega
    rw [if_neg h', if_neg h']
    repeat (first | refine Plan.move rfl rfl rfl rfl ?_ | refine J.seq (J.region mixed hI (by kernel_rfl) ?_) | refine J.skip ?_)
    refine Plan.shift rfl rfl rfl rfl rfl rfl ?_
    refine Plan.int (fdivN l.length 8) ?_
    repeat (first | refine Plan.move rfl rfl rfl rfl ?_ | (refine Plan.convInt rfl rfl rfl rfl (by exact Try.underlying3) (by first | exact Try.underlying3 | exact Try.underlying5) ?_; (first | refine Plan.int (u8r (by omega)) ?_ | refine Plan.int (remN _ _) ?_)))
    refine Plan.lit (B := w0.heap.size) rfl rfl rfl eltB rfl (hBb w0) rfl (by simp [Value.cells]) (by decide) ?_
    refine Plan.call (B := w0.heap.size) rfl rfl rfl (crc_Seal (hdr l.length) (by simp [hdr])) Try.func44 rfl rfl (hBb w0) (Opnds.cons rfl (Sub.rowEq (hdr_cells2 (by omega)) Sub.own) Opnds.nil) ?_
    repeat (refine Plan.move rfl rfl rfl rfl ?_)
    refine Plan.call (B := w0.heap.size) rfl rfl rfl (crc_Seal l (by omega)) Try.func44 rfl rfl (hBb w0) (by repeat (first | exact Opnds.nil | refine Opnds.cons rfl (by exact Sub.old (fun _ h => h)) ?_)) ?_
    refine Plan.append (news := bs (crcSeal l)) rfl rfl rfl rfl (Sub.refl _) rfl Sub.own eltB (by intro d hd; cases hd; decide) (hGb w0) (bs_one _) (by simp [bs, seal_length, hdr]; omega) ?_
    rw [← bs_append]
    repeat (refine Plan.assign rfl rfl rfl rfl ?_)
    exact J.ret (Nrm.ret2 rfl (fun _ h => h) fun B hB => ⟨_, rfl, Ress.cons rfl (by exact Sub.ownLower hB) (Ress.cons rfl (by exact Sub.refl _) Ress.nil)⟩)

theorem ref_Frame (l : List UInt8) (hl : l.length ≤ 65529) : Spc Try.prog 45 [.ex (str l)] fun _ => .ex (str (fPut l)) := by
  refine Spc.intro Try.func45 rfl (Nat.le_of_ble_eq_true rfl) fun w0 => ?_
  have hI := hIb w0
  repeat (first | refine Plan.move rfl rfl rfl rfl ?_ | refine Plan.assign rfl rfl rfl rfl ?_ | refine Plan.lenStr rfl rfl rfl rfl Try.underlying9 ?_ | (refine Plan.ints rfl rfl rfl rfl rfl rfl ?_; (first | refine Plan.int (quoN (by omega)) ?_ | refine Plan.int (remN _ _) ?_)) | (refine Plan.convInt rfl rfl rfl rfl (by exact Try.underlying3) (by first | exact Try.underlying3 | exact Try.underlying5) ?_; (refine Plan.int (u8r (by omega)) ?_)) | refine J.seq (J.region mixed hI (by kernel_rfl) ?_))
  refine Plan.lit (B := w0.heap.size) rfl rfl rfl eltB rfl (hBb w0) rfl (by simp [Value.cells]) (by decide) ?_
  refine Plan.convBS (p := hdr l.length) rfl rfl rfl rfl (Sub.rowEq (hdr_cells3 (by omega)) Sub.own) Try.underlying27 Try.underlying9 Try.underlying5 ?_
  refine Plan.call (B := w0.heap.size) rfl rfl rfl (ref_Seal (hdr l.length) (by simp [hdr])) Try.func50 rfl rfl (hBb w0) (by repeat (first | exact Opnds.nil | refine Opnds.cons rfl (by exact Sub.refl _) ?_)) ?_
  repeat (refine Plan.move rfl rfl rfl rfl ?_)
  refine Plan.call (B := w0.heap.size) rfl rfl rfl (ref_Seal l (by omega)) Try.func50 rfl rfl (hBb w0) (by repeat (first | exact Opnds.nil | refine Opnds.cons rfl (by exact Sub.refl _) ?_)) ?_
  refine Plan.concat rfl rfl rfl rfl rfl (by simp [seal_length, hdr]; omega) ?_
  repeat (refine Plan.assign rfl rfl rfl rfl ?_)
  exact J.ret (Nrm.ret1 rfl (fun _ h => h) rfl fun B _ => Sub.refl _)

theorem ref_FPut (l : List UInt8) (hl : l.length ≤ 9223372036854775807) : Spc Try.prog 26 [.ex (str l)] fun _ => .tup [.ex (str (if 65529 < l.length then [] else fPut l)), .ex (.int .i64 (if 65529 < l.length then 4 else 0))] := by
  refine Spc.intro Try.func26 rfl (Nat.le_of_ble_eq_true rfl) fun w0 => ?_
  have hI := hIb w0
  repeat (first | refine Plan.move rfl rfl rfl rfl ?_ | refine Plan.assign rfl rfl rfl rfl ?_ | refine Plan.lenStr rfl rfl rfl rfl Try.underlying9 ?_ | (refine Plan.ints rfl rfl rfl rfl rfl rfl ?_; (skip)) | refine J.seq (J.region mixed hI (by kernel_rfl) ?_) | refine J.seq (J.seq (J.region mixed hI (by kernel_rfl) ?_)))
  refine J.condD rfl (fun h => ?_) (fun h => ?_)
  · have h' : 65529 < l.length := by omega
    rw [if_pos h', if_pos h']
    repeat (first | refine Plan.assign rfl rfl rfl rfl ?_ | refine J.seq (J.region mixed hI (by kernel_rfl) ?_))
    exact J.ret (Nrm.ret2 rfl (fun _ h => h) fun B hB => ⟨_, rfl, Ress.cons rfl (by exact Sub.refl _) (Ress.cons rfl (by exact Sub.refl _) Ress.nil)⟩)
  · have h' : ¬ 65529 < l.length := by omega
    rw [if_neg h', if_neg h']
    repeat (first | refine Plan.move rfl rfl rfl rfl ?_ | refine J.seq (J.region mixed hI (by kernel_rfl) ?_) | refine J.skip ?_)
    refine Plan.call (B := w0.heap.size) rfl rfl rfl (ref_Frame l (by omega)) Try.func45 rfl rfl (hBb w0) (by repeat (first | exact Opnds.nil | refine Opnds.cons rfl (by exact Sub.refl _) ?_)) ?_
    repeat (refine Plan.assign rfl rfl rfl rfl ?_)
    exact J.ret (Nrm.ret2 rfl (fun _ h => h) fun B hB => ⟨_, rfl, Ress.cons rfl (by exact Sub.refl _) (Ress.cons rfl (by exact Sub.refl _) Ress.nil)⟩)

theorem frame_Take (l : List UInt8) (p : Int) (hp : -9223372036854775808 ≤ p ∧ p ≤ 9223372036854775807) (hl : l.length ≤ 140737488355000) :
    Spc Try.prog 27 [bytesF l, .ex (.int .i64 p)] fun B => .tup [ownB B (fTake l p).1, .ex (.int .i64 (fTake l p).2.1), .ex (.int .i64 (fTake l p).2.2)] := by
  refine Spc.intro Try.func27 rfl (Nat.le_of_ble_eq_true rfl) fun w0 => ?_
  have hI := hIb w0
  repeat (first | refine Plan.move rfl rfl rfl rfl ?_ | refine Plan.assign rfl rfl rfl rfl ?_ | (refine Plan.ints rfl rfl rfl rfl rfl rfl ?_; (skip)) | refine J.seq (J.region mixed hI (by kernel_rfl) ?_) | refine J.seq (J.seq (J.region mixed hI (by kernel_rfl) ?_)))
  refine Plan.splitD (fun h0 => ?_) (fun h0 => ?_)
  · have hv : fTake l p = ([], 0, 1) := by unfold fTake; rw [if_pos (.inl h0)]
    rw [hv]
    repeat (first | refine Plan.assign rfl rfl rfl rfl ?_ | refine Plan.skip rfl rfl ?_ | refine Plan.pick rfl rfl rfl rfl rfl ?_ | refine J.seq (J.region mixed hI (by kernel_rfl) ?_) | refine J.condT rfl ?_)
    exact J.ret (Nrm.ret3 rfl (fun _ h => h) fun B hB => ⟨_, rfl, Ress.cons rfl (by exact Sub.nilOwn (fun _ h => Nat.le_trans hB h.size)) (Ress.cons rfl (by exact Sub.refl _) (Ress.cons rfl (by exact Sub.refl _) Ress.nil))⟩)
  repeat (first | refine Plan.move rfl rfl rfl rfl ?_ | refine Plan.pick rfl rfl rfl rfl rfl ?_ | (refine Plan.ints rfl rfl rfl rfl rfl rfl ?_; (skip)) | refine Plan.lenB rfl rfl rfl rfl (by exact Sub.old (fun _ h => h)) Try.underlying27 ?_)
  refine J.condD rfl (fun h1 => ?_) (fun h1 => ?_)
  · have hv : fTake l p = ([], 0, 1) := by unfold fTake; rw [if_pos (.inr (by omega))]
    rw [hv]
    repeat (first | refine Plan.assign rfl rfl rfl rfl ?_ | refine J.seq (J.region mixed hI (by kernel_rfl) ?_))
    exact J.ret (Nrm.ret3 rfl (fun _ h => h) fun B hB => ⟨_, rfl, Ress.cons rfl (by exact Sub.nilOwn (fun _ h => Nat.le_trans hB h.size)) (Ress.cons rfl (by exact Sub.refl _) (Ress.cons rfl (by exact Sub.refl _) Ress.nil))⟩)
  have hnn : ¬ (p < 0 ∨ (l.length : Int) < p) := by omega
  obtain ⟨r, hr⟩ : ∃ r, r = l.drop p.toNat := ⟨_, rfl⟩
  have hrl : r.length = l.length - p.toNat := by rw [hr, List.length_drop]
  have err : ∀ e, fTake0 r = ([], 0, e) → e ≠ 0 → fTake l p = ([], 0, e) := by
    intro e he h0
    unfold fTake; rw [if_neg hnn, ← hr, he, if_neg h0]
  repeat (first | refine Plan.move rfl rfl rfl rfl ?_ | refine J.seq (J.region mixed hI (by kernel_rfl) ?_) | refine J.skip ?_)
  refine Plan.int (y := ((p.toNat : Nat) : Int)) (by omega) ?_
  refine Plan.sliceB (l := l) (a0 := p.toNat) (b0 := l.length) rfl rfl rfl rfl (Sub.old fun _ h => h) eltB (.inr ⟨_, _, rfl, rfl⟩) (.inl ⟨rfl, rfl⟩) (by omega) (Nat.le_refl _) ?_
  rw [List.take_length, ← hr]
  repeat (first | refine Plan.move rfl rfl rfl rfl ?_ | refine Plan.assign rfl rfl rfl rfl ?_ | (refine Plan.ints rfl rfl rfl rfl rfl rfl ?_; (skip)) | refine Plan.lenB rfl rfl rfl rfl (by exact Sub.refl _) Try.underlying27 ?_ | refine J.seq (J.seq (J.region mixed hI (by kernel_rfl) ?_)))
  refine J.condD rfl (fun h2 => ?_) (fun h2 => ?_)
  · rw [err 2 (by unfold fTake0; rw [if_pos (by omega)]) (by decide)]
    repeat (first | refine Plan.assign rfl rfl rfl rfl ?_ | refine J.seq (J.region mixed hI (by kernel_rfl) ?_))
    exact J.ret (Nrm.ret3 rfl (fun _ h => h) fun B hB => ⟨_, rfl, Ress.cons rfl (by exact Sub.nilOwn (fun _ h => Nat.le_trans hB h.size)) (Ress.cons rfl (by exact Sub.refl _) (Ress.cons rfl (by exact Sub.refl _) Ress.nil))⟩)
  repeat (first | refine Plan.move rfl rfl rfl rfl ?_ | refine J.seq (J.region mixed hI (by kernel_rfl) ?_) | refine J.skip ?_)
  refine Plan.sliceB (l := r) (a0 := 0) (b0 := 4) rfl rfl rfl rfl (Sub.refl _) eltB (.inl ⟨rfl, rfl⟩) (.inr ⟨_, _, rfl, rfl⟩) (by omega) (by omega) ?_
  rw [List.drop_zero]
  refine Plan.call (B := w0.heap.size) rfl rfl rfl (crc_Open (r.take 4) (by rw [List.length_take]; omega)) Try.func46 rfl rfl (hBb w0) (by repeat (first | exact Opnds.nil | refine Opnds.cons rfl (by exact Sub.refl _) ?_)) ?_
  repeat (first | refine Plan.move rfl rfl rfl rfl ?_ | refine Plan.assign rfl rfl rfl rfl ?_ | refine Plan.extract rfl rfl rfl rfl rfl ?_ | refine Plan.un rfl rfl rfl rfl rfl ?_ | refine J.seq (J.seq (J.region mixed hI (by kernel_rfl) ?_)))
  refine J.cond rfl (fun h3 => ?_) (fun h3 => ?_)
  · have h3' : fits (r.take 4) = false := by simpa using h3
    rw [err 5 (by unfold fTake0; rw [if_neg (by omega), if_pos h3']) (by decide)]
    repeat (first | refine Plan.assign rfl rfl rfl rfl ?_ | refine J.seq (J.region mixed hI (by kernel_rfl) ?_))
    exact J.ret (Nrm.ret3 rfl (fun _ h => h) fun B hB => ⟨_, rfl, Ress.cons rfl (by exact Sub.nilOwn (fun _ h => Nat.le_trans hB h.size)) (Ress.cons rfl (by exact Sub.refl _) (Ress.cons rfl (by exact Sub.refl _) Ress.nil))⟩)
  have h3' : fits (r.take 4) = true := by simpa using h3
  clear h3
  obtain ⟨h, hh⟩ : ∃ h, h = opened (r.take 4) := ⟨_, rfl⟩
  have hh2 : h.length = 2 := by rw [hh, (opened_len h3').2, List.length_take]; omega
  have hhl := hlen_le h
  have e0 : ∀ x y, fTake0 r = x → x = y → fTake0 r = y := fun x y h1 h2 => h1.trans h2
  have step : fTake0 r = if 65529 < hlen h then ([], 0, 4) else if r.length < hlen h + 6 then ([], 0, 2) else if fits ((r.take (hlen h + 6)).drop 4) = false then ([], 0, 5) else (opened ((r.take (hlen h + 6)).drop 4), hlen h + 6, 0) := by
    unfold fTake0; rw [if_neg (by omega), if_neg (by rw [h3']; decide), ← hh]
  refine J.weak [(0, .old w0 (bytesF l)), (1, .ex (.int .i64 p)), (7, bytesF r), (8, ownB w0.heap.size h)] (Weak.cons rfl (Sub.refl _) (Weak.cons rfl (Sub.refl _) (Weak.cons rfl (Sub.refl _) (Weak.cons rfl (Sub.of_eq (by rw [hh])) Weak.nil)))) ?_
  have c0 := (h.getD 0 0).toNat_lt
  have c1 := (h.getD 1 0).toNat_lt
  repeat (first | refine Plan.move rfl rfl rfl rfl ?_ | refine J.seq (J.region mixed hI (by kernel_rfl) ?_) | refine J.skip ?_)
  refine Plan.indexB (l := h) (q := 0) rfl rfl rfl rfl Sub.own rfl eltB (by omega) ?_
  refine Plan.load rfl rfl rfl rfl (Sub.refl _) Try.underlying5 rfl ?_
  repeat ((refine Plan.convInt rfl rfl rfl rfl (by first | exact Try.underlying3 | exact Try.underlying5) (by exact Try.underlying3) ?_; (refine Plan.int (i64u8 _) ?_)))
  refine Plan.shift rfl rfl rfl rfl rfl rfl ?_
  refine Plan.int (shl8 (h.getD 0 0).toNat (by omega)) ?_
  repeat (refine Plan.move rfl rfl rfl rfl ?_)
  refine Plan.indexB (l := h) (q := 1) rfl rfl rfl rfl Sub.own rfl eltB (by omega) ?_
  refine Plan.load rfl rfl rfl rfl (Sub.refl _) Try.underlying5 rfl ?_
  refine Plan.convInt rfl rfl rfl rfl (by exact Try.underlying5) (by exact Try.underlying3) ?_
  refine Plan.int (i64r (by omega)) ?_
  refine Plan.ints rfl rfl rfl rfl rfl rfl ?_
  refine Plan.int (y := (hlen h : Int)) (or256 (h.getD 0 0).toNat (h.getD 1 0).toNat (by omega) (by omega)) ?_
  repeat (refine Plan.assign rfl rfl rfl rfl ?_)
  refine J.seq (J.block ?_)
  repeat (first | refine Plan.move rfl rfl rfl rfl ?_ | refine Plan.assign rfl rfl rfl rfl ?_ | (refine Plan.ints rfl rfl rfl rfl rfl rfl ?_; (skip)) | refine J.seq (J.region mixed hI (by kernel_rfl) ?_))
  refine J.condD rfl (fun h4 => ?_) (fun h4 => ?_)
  · rw [err 4 (by rw [step, if_pos (by omega)]) (by decide)]
    repeat (first | refine Plan.assign rfl rfl rfl rfl ?_ | refine J.seq (J.region mixed hI (by kernel_rfl) ?_))
    exact J.ret (Nrm.ret3 rfl (fun _ h => h) fun B hB => ⟨_, rfl, Ress.cons rfl (by exact Sub.nilOwn (fun _ h => Nat.le_trans hB h.size)) (Ress.cons rfl (by exact Sub.refl _) (Ress.cons rfl (by exact Sub.refl _) Ress.nil))⟩)
  rw [if_neg (by omega)] at step
  repeat (first | refine Plan.move rfl rfl rfl rfl ?_ | refine Plan.assign rfl rfl rfl rfl ?_ | (refine Plan.ints rfl rfl rfl rfl rfl rfl ?_; (first | refine Plan.int (i64r (by omega)) ?_ | skip)) | refine Plan.lenB rfl rfl rfl rfl (by exact Sub.refl _) Try.underlying27 ?_ | refine J.seq (J.region mixed hI (by kernel_rfl) ?_))
  refine J.condD rfl (fun h5 => ?_) (fun h5 => ?_)
  · rw [err 2 (by rw [step, if_pos (by omega)]) (by decide)]
    repeat (first | refine Plan.assign rfl rfl rfl rfl ?_ | refine J.seq (J.region mixed hI (by kernel_rfl) ?_))
    exact J.ret (Nrm.ret3 rfl (fun _ h => h) fun B hB => ⟨_, rfl, Ress.cons rfl (by exact Sub.nilOwn (fun _ h => Nat.le_trans hB h.size)) (Ress.cons rfl (by exact Sub.refl _) (Ress.cons rfl (by exact Sub.refl _) Ress.nil))⟩)
  rw [if_neg (by omega)] at step
  repeat (first | refine Plan.move rfl rfl rfl rfl ?_ | (refine Plan.ints rfl rfl rfl rfl rfl rfl ?_; (refine Plan.int (i64r (by omega)) ?_)) | refine J.seq (J.region mixed hI (by kernel_rfl) ?_) | refine J.skip ?_)
  refine Plan.sliceB (l := r) (a0 := 4) (b0 := hlen h + 6) rfl rfl rfl rfl (Sub.refl _) eltB (.inr ⟨_, _, rfl, rfl⟩) (.inr ⟨_, _, rfl, rfl⟩) (by omega) (by omega) ?_
  refine Plan.call (B := w0.heap.size) rfl rfl rfl (crc_Open ((r.take (hlen h + 6)).drop 4) (by rw [List.length_drop, List.length_take]; omega)) Try.func46 rfl rfl (hBb w0) (by repeat (first | exact Opnds.nil | refine Opnds.cons rfl (by exact Sub.refl _) ?_)) ?_
  repeat (first | refine Plan.move rfl rfl rfl rfl ?_ | refine Plan.assign rfl rfl rfl rfl ?_ | refine Plan.extract rfl rfl rfl rfl rfl ?_ | refine Plan.un rfl rfl rfl rfl rfl ?_ | refine J.seq (J.seq (J.region mixed hI (by kernel_rfl) ?_)))
  refine J.cond rfl (fun h6 => ?_) (fun h6 => ?_)
  · have h6' : fits ((r.take (hlen h + 6)).drop 4) = false := by simpa using h6
    rw [err 5 (by rw [step, if_pos h6']) (by decide)]
    repeat (first | refine Plan.assign rfl rfl rfl rfl ?_ | refine J.seq (J.region mixed hI (by kernel_rfl) ?_))
    exact J.ret (Nrm.ret3 rfl (fun _ h => h) fun B hB => ⟨_, rfl, Ress.cons rfl (by exact Sub.nilOwn (fun _ h => Nat.le_trans hB h.size)) (Ress.cons rfl (by exact Sub.refl _) (Ress.cons rfl (by exact Sub.refl _) Ress.nil))⟩)
  have h6' : fits ((r.take (hlen h + 6)).drop 4) = true := by simpa using h6
  clear h6
  rw [if_neg (by rw [h6']; decide)] at step
  have hv : fTake l p = (opened ((r.take (hlen h + 6)).drop 4), p.toNat + (hlen h + 6), 0) := by
    unfold fTake; rw [if_neg hnn, ← hr, step]; rfl
  rw [hv]
  repeat (first | refine Plan.move rfl rfl rfl rfl ?_ | refine Plan.assign rfl rfl rfl rfl ?_ | (refine Plan.ints rfl rfl rfl rfl rfl rfl ?_; (refine Plan.int (i64r (by omega)) ?_)) | refine J.seq (J.region mixed hI (by kernel_rfl) ?_) | refine J.skip ?_)
  refine J.ret (Nrm.ret3 rfl (fun _ h => h) fun B hB => ⟨_, rfl, Ress.cons rfl (Sub.ownLower hB) (Ress.cons rfl (Sub.of_eq ?_) (Ress.cons rfl (Sub.refl _) Ress.nil))⟩)
  congr 2
  dsimp only
  omega

end Go.Proofs.Ytdfdhhepbkejpaa
