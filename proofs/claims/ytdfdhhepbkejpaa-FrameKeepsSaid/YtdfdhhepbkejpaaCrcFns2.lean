/-
  slices.Clone of bytes, crc.Seal and crc.Open return what the plain functions say, for slices of at most 2^47 - 8 bytes.
-/
import Derived.Test.YtdfdhhepbkejpaaCrcFns
set_option linter.unusedSimpArgs false
set_option linter.unusedVariables false
namespace Go.Proofs.Ytdfdhhepbkejpaa
open Go.Free Go.RowKit Go.Proofs

theorem bytes_Clone (l : List UInt8) (hl : l.length ≤ 140737488355328) : Spc Try.prog 42 [bytesF l] fun B => ownB B l := by
  refine Spc.intro Try.func42 rfl (Nat.le_of_ble_eq_true rfl) fun w0 => ?_
  have hI := hIb w0
  refine J.seq (J.region mixed hI (by kernel_rfl) ?_)
  repeat (refine Plan.assign rfl rfl rfl rfl ?_)
  refine J.seq (J.seq (J.region mixed hI (by kernel_rfl) ?_))
  repeat (refine Plan.move rfl rfl rfl rfl ?_)
  refine Plan.eqlNil rfl rfl rfl rfl (Sub.old fun _ h => h) Try.underlying27 ?_
  refine J.condNil rfl (fun hc => ?_) ?_
  · have hl0 : l = [] := by simpa [bs] using hc
    subst hl0
    refine J.seq (J.region mixed hI (by kernel_rfl) ?_)
    repeat (refine Plan.assign rfl rfl rfl rfl ?_)
    refine J.ret (Nrm.ret1 rfl (fun _ h => h) rfl fun B hB => Sub.nilOwn fun w h => Nat.le_trans hB (hBb w0 w h))
  refine J.skip ?_
  refine J.seq (J.region mixed hI (by kernel_rfl) ?_)
  refine Plan.lit (B := w0.heap.size) (vs := []) (ps := []) rfl rfl rfl eltB rfl (hBb w0) rfl (by simp) (by decide) ?_
  repeat (refine Plan.move rfl rfl rfl rfl ?_)
  refine Plan.append rfl rfl rfl rfl (Sub.refl _) rfl (Sub.old fun _ h => h) eltB (by intro d hd; cases hd; decide) (hGb w0) (bs_one l) (by simp [flat, bs]; omega) ?_
  repeat (refine Plan.assign rfl rfl rfl rfl ?_)
  refine J.ret (Nrm.ret1 rfl (fun _ h => h) rfl fun B hB => Sub.ownLower hB)

theorem crc_Seal (l : List UInt8) (hl : l.length ≤ 140737488355320) : Spc Try.prog 44 [bytesF l] fun B => ownB B (crcSeal l) := by
  refine Spc.intro Try.func44 rfl (Nat.le_of_ble_eq_true rfl) fun w0 => ?_
  have hI := hIb w0
  refine J.seq (J.region mixed hI (by kernel_rfl) ?_)
  repeat (refine Plan.assign rfl rfl rfl rfl ?_)
  refine J.seq (J.region mixed hI (by kernel_rfl) ?_)
  repeat (refine Plan.move rfl rfl rfl rfl ?_)
  refine Plan.call (B := w0.heap.size) rfl rfl rfl (crc_Of l (by omega)) Try.func49 rfl rfl (hBb w0) (Opnds.cons rfl (Sub.old fun _ h => h) Opnds.nil) ?_
  repeat (refine Plan.assign rfl rfl rfl rfl ?_)
  refine J.seq (J.region mixed hI (by kernel_rfl) ?_)
  repeat (refine Plan.move rfl rfl rfl rfl ?_)
  refine Plan.lenRow rfl rfl rfl rfl (Sub.old fun _ h => h) Try.underlying27 (m := l.length) (by simp [bs]) (by decide) ?_
  repeat (refine Plan.ints rfl rfl rfl rfl rfl rfl ?_)
  refine Plan.int (y := ((l.length + 2 : Nat) : Int)) (by rw [i64r (by omega)]; omega) ?_
  refine Plan.make0 (B := w0.heap.size) rfl rfl rfl rfl rfl eltB (hBb w0) (by omega) ?_
  repeat (refine Plan.move rfl rfl rfl rfl ?_)
  refine Plan.append rfl rfl rfl rfl (Sub.refl _) rfl (Sub.old fun _ h => h) eltB (by intro d hd; cases hd; decide) (hGb w0) (bs_one l) (by simp [bs]; omega) ?_
  repeat (first | refine Plan.move rfl rfl rfl rfl ?_ | refine Plan.shift rfl rfl rfl rfl rfl rfl ?_)
  refine Plan.int (u16_shr _ 8) ?_
  refine Plan.convInt rfl rfl rfl rfl Try.underlying33 Try.underlying5 ?_
  refine Plan.int (u8_of _) ?_
  repeat (refine Plan.move rfl rfl rfl rfl ?_)
  refine Plan.convInt rfl rfl rfl rfl Try.underlying33 Try.underlying5 ?_
  refine Plan.int (u8_of _) ?_
  refine Plan.lit (B := w0.heap.size) rfl rfl rfl eltB rfl (hBb w0) rfl (by simp [Value.cells]) (by decide) ?_
  refine Plan.append (news := bs [hi8 (crcOf l), lo8 (crcOf l)]) rfl rfl rfl rfl (Sub.refl _) rfl Sub.own eltB (by intro d hd; cases hd; decide) (hGb w0) (bs_one _) (by simp [bs]; omega) ?_
  repeat (refine Plan.assign rfl rfl rfl rfl ?_)
  refine J.ret (Nrm.ret1 rfl (fun _ h => h) rfl fun B hB => Sub.trans (Sub.of_eq ?_) (Sub.ownLower hB))
  rw [List.nil_append, ← bs_append]; rfl

theorem crc_Open (l : List UInt8) (hl : l.length ≤ 140737488355320) : Spc Try.prog 46 [bytesF l] fun B => .tup [ownB B ((crcOpen l).getD []), .ex (.bool (crcOpen l).isSome)] := by
  refine Spc.intro Try.func46 rfl (Nat.le_of_ble_eq_true rfl) fun w0 => ?_
  have hI := hIb w0
  refine J.seq (J.region mixed hI (by kernel_rfl) ?_)
  repeat (refine Plan.assign rfl rfl rfl rfl ?_)
  refine J.seq (J.region mixed hI (by kernel_rfl) ?_)
  repeat (refine Plan.move rfl rfl rfl rfl ?_)
  refine Plan.lenRow rfl rfl rfl rfl (Sub.old fun _ h => h) Try.underlying27 (m := l.length) (by simp [bs]) (by decide) ?_
  refine Plan.ints rfl rfl rfl rfl rfl rfl ?_
  rcases Nat.lt_or_ge l.length 2 with hlt | hge
  · have hno : crcOpen l = none := by unfold crcOpen; rw [if_neg (by omega)]
    rw [hno]
    refine Plan.int (i64r (by omega)) ?_
    repeat (refine Plan.assign rfl rfl rfl rfl ?_)
    refine J.seq (J.seq (J.region mixed hI (by kernel_rfl) ?_))
    refine Plan.move rfl rfl rfl rfl ?_
    refine Plan.ints rfl rfl rfl rfl rfl rfl ?_
    refine Plan.boolv (y := true) (by simp; omega) ?_
    repeat (first | refine Plan.move rfl rfl rfl rfl ?_ | refine Plan.skip rfl rfl ?_ | refine Plan.pick rfl rfl rfl rfl rfl ?_)
    refine J.cond rfl (fun _ => ?_) (fun h => by cases h)
    refine J.seq (J.region mixed hI (by kernel_rfl) ?_)
    repeat (refine Plan.assign rfl rfl rfl rfl ?_)
    refine J.ret (Nrm.ret2 rfl (fun _ h => h) fun B hB => ⟨_, rfl, Ress.cons rfl (Sub.nilOwn fun w h => Nat.le_trans hB (hBb w0 w h)) (Ress.cons rfl (Sub.refl _) Ress.nil)⟩)
  · have htk : (l.take (l.length - 2)).length = l.length - 2 := by rw [List.length_take]; omega
    refine Plan.int (y := ((l.length - 2 : Nat) : Int)) (by rw [i64r (by omega)]; omega) ?_
    repeat (refine Plan.assign rfl rfl rfl rfl ?_)
    refine J.seq (J.seq (J.region mixed hI (by kernel_rfl) ?_))
    refine Plan.move rfl rfl rfl rfl ?_
    refine Plan.ints rfl rfl rfl rfl rfl rfl ?_
    refine Plan.boolv (y := false) (by simp) ?_
    repeat (refine Plan.move rfl rfl rfl rfl ?_)
    refine Plan.sliceRow (m := l.length) (a0 := 0) (b0 := l.length - 2) rfl rfl rfl rfl (Sub.old fun _ h => h) eltB (by simp [bs]) (.inl ⟨rfl, rfl⟩) (.inr ⟨_, _, rfl, rfl⟩) (Nat.zero_le _) (by omega) ?_
    refine Plan.call (B := w0.heap.size) rfl rfl rfl (crc_Of (l.take (l.length - 2)) (by omega)) Try.func49 rfl rfl (hBb w0) (Opnds.cons rfl (Sub.of_eq (by simp [bytesF, bs, List.map_take])) Opnds.nil) ?_
    repeat (refine Plan.move rfl rfl rfl rfl ?_)
    refine Plan.indexAddr (fun b : UInt8 => [.int .u8 b.toNat]) 1 l 0 rfl rfl rfl rfl (Sub.trans (Sub.old fun _ h => h) (Sub.rowEq (bs_flat l) (Sub.refl _))) rfl eltB (fun _ => rfl) (by omega) (by omega) ?_
    refine Plan.load rfl rfl rfl rfl (Sub.refl _) Try.underlying5 rfl ?_
    refine Plan.convInt rfl rfl rfl rfl Try.underlying5 Try.underlying33 ?_
    refine Plan.int (u16_lift _) ?_
    refine Plan.shift rfl rfl rfl rfl rfl rfl ?_
    refine Plan.int (u16_shl _ 8) ?_
    repeat (first | refine Plan.move rfl rfl rfl rfl ?_ | refine Plan.ints rfl rfl rfl rfl rfl rfl ?_)
    refine Plan.int (y := ((l.length - 1 : Nat) : Int)) (by rw [i64r (by omega)]; omega) ?_
    refine Plan.indexAddr (fun b : UInt8 => [.int .u8 b.toNat]) 1 l 0 rfl rfl rfl rfl (Sub.trans (Sub.old fun _ h => h) (Sub.rowEq (bs_flat l) (Sub.refl _))) rfl eltB (fun _ => rfl) (by omega) (by omega) ?_
    refine Plan.load rfl rfl rfl rfl (Sub.refl _) Try.underlying5 rfl ?_
    refine Plan.convInt rfl rfl rfl rfl Try.underlying5 Try.underlying33 ?_
    refine Plan.int (u16_lift _) ?_
    refine Plan.ints rfl rfl rfl rfl rfl rfl ?_
    refine Plan.int (u16_or _ _) ?_
    refine Plan.ints rfl rfl rfl rfl rfl rfl ?_
    refine Plan.boolv (bne16 _ _) ?_
    repeat (refine Plan.pick rfl rfl rfl rfl rfl ?_)
    have hj : ((lift16 (l.getD (((l.length - 2 : Nat) : Int)).toNat 0) <<< 8) ||| lift16 (l.getD (((l.length - 1 : Nat) : Int)).toNat 0)) = join16 (l.getD (l.length - 2) 0) (l.getD (l.length - 1) 0) := by
      simp only [Int.toNat_natCast]; rfl
    rw [hj]
    refine J.cond rfl (fun hc => ?_) (fun hc => ?_)
    · have hno : crcOpen l = none := by
        unfold crcOpen; rw [if_neg]
        rintro ⟨_, h⟩
        rw [h] at hc
        simp at hc
      rw [hno]
      refine J.seq (J.region mixed hI (by kernel_rfl) ?_)
      repeat (refine Plan.assign rfl rfl rfl rfl ?_)
      refine J.ret (Nrm.ret2 rfl (fun _ h => h) fun B hB => ⟨_, rfl, Ress.cons rfl (Sub.nilOwn fun w h => Nat.le_trans hB (hBb w0 w h)) (Ress.cons rfl (Sub.refl _) Ress.nil)⟩)
    · have hyes : crcOpen l = some (l.take (l.length - 2)) := by
        unfold crcOpen; rw [if_pos]
        exact ⟨hge, by simpa using hc⟩
      rw [hyes]
      refine J.skip ?_
      refine J.seq (J.region mixed hI (by kernel_rfl) ?_)
      repeat (refine Plan.move rfl rfl rfl rfl ?_)
      refine Plan.sliceRow (m := l.length) (a0 := 0) (b0 := l.length - 2) rfl rfl rfl rfl (Sub.old fun _ h => h) eltB (by simp [bs]) (.inl ⟨rfl, rfl⟩) (.inr ⟨_, _, rfl, rfl⟩) (Nat.zero_le _) (by omega) ?_
      refine Plan.call (B := w0.heap.size) rfl rfl rfl (bytes_Clone (l.take (l.length - 2)) (by omega)) Try.func42 rfl rfl (hBb w0) (Opnds.cons rfl (Sub.of_eq (by simp [bytesF, bs, List.map_take])) Opnds.nil) ?_
      repeat (refine Plan.assign rfl rfl rfl rfl ?_)
      refine J.ret (Nrm.ret2 rfl (fun _ h => h) fun B hB => ⟨_, rfl, Ress.cons rfl (Sub.ownLower hB) (Ress.cons rfl (Sub.refl _) Ress.nil)⟩)
end Go.Proofs.Ytdfdhhepbkejpaa
