/-
  The laws FramePuts and FrameLongest return true for all arguments.
-/
import Derived.Test.YtdfdhhepbkejpaaFrameFns
set_option linter.unusedSimpArgs false
set_option linter.unusedVariables false
namespace Go.Proofs.Ytdfdhhepbkejpaa
open Go.Free Go.RowKit Go.Proofs
set_option maxHeartbeats 2000000

theorem fits_seal (l : List UInt8) : crcOpen (crcSeal l) = some l := crc_Back_open l
theorem hlen_hdr {n : Nat} (h : n ≤ 65529) : hlen (hdr n) = n := by
  simp only [hlen, hdr, List.getD_eq_getElem?_getD, List.getElem?_cons_zero, List.getElem?_cons_succ, Option.getD_some, UInt8.toNat_ofNat']
  omega
/-- A frame is taken as its body, whatever stands behind. -/
theorem fTake0_put (l r : List UInt8) (h : l.length ≤ 65529) : fTake0 (fPut l ++ r) = (l, l.length + 6, 0) := by
  have hl := fPut_length l
  have h4 : (fPut l ++ r).take 4 = crcSeal (hdr l.length) := by
    unfold fPut; rw [List.append_assoc, List.take_left' (by rw [seal_length]; rfl)]
  have h6 : ((fPut l ++ r).take (l.length + 6)).drop 4 = crcSeal l := by
    rw [List.take_left' hl]; unfold fPut; rw [List.drop_left' (by rw [seal_length]; rfl)]
  unfold fTake0
  rw [h4]
  unfold opened fits
  rw [fits_seal]
  simp only [Option.getD_some, Option.isSome_some]
  rw [hlen_hdr h, h6, fits_seal, List.length_append, hl, if_neg (by omega), if_neg (by decide), if_neg (by omega), if_neg (by omega)]
  simp

theorem fTake_put (l r : List UInt8) (h : l.length ≤ 65529) : fTake (fPut l ++ r) 0 = (l, l.length + 6, 0) := by
  have e := fTake0_put l r h
  unfold fTake
  rw [if_neg (by omega)]
  have e' : fTake0 ((fPut l ++ r).drop (Int.toNat 0)) = (l, l.length + 6, 0) := e
  rw [e']
  simp
theorem fTake_put' (l : List UInt8) (h : l.length ≤ 65529) : fTake (fPut l) 0 = (l, l.length + 6, 0) := by
  have := fTake_put l [] h
  rwa [List.append_nil] at this
theorem frame_PutOk (l : List UInt8) (hl : l.length ≤ 65529) : Spc Try.prog 25 [bytesF l] fun B => .tup [ownB B (fPut l), .ex (.int .i64 0)] := by
  have h := frame_Put l (by omega)
  simp only [if_neg (Nat.not_lt.2 hl)] at h
  exact h

theorem awakeF : Spc Try.prog 24 [] fun _ => .ex (.bool true) := by
  refine Spc.intro Try.func24 rfl (Nat.le_of_ble_eq_true rfl) fun w0 => ?_
  have hI := hIb w0
  repeat (first | refine Plan.assign rfl rfl rfl rfl ?_ | refine J.seq (J.region mixed hI (by kernel_rfl) ?_))
  refine Plan.lit (B := w0.heap.size) rfl rfl rfl eltB rfl (hBb w0) rfl (by simp [Value.cells]) (by decide) ?_
  refine Plan.convSame (l := [97, 98]) rfl rfl rfl (by intro d hd; cases hd; decide) rfl (Sub.refl _) Try.underlying27 Try.underlying5 (by simp) (hGb w0) ?_
  refine Plan.call (B := w0.heap.size) rfl rfl rfl (frame_PutOk [97, 98] (by decide)) Try.func25 rfl rfl (hBb w0) (by repeat (first | exact Opnds.nil | refine Opnds.cons rfl (by exact Sub.refl _) ?_)) ?_
  repeat (first | refine Plan.move rfl rfl rfl rfl ?_ | refine Plan.assign rfl rfl rfl rfl ?_ | refine Plan.extract rfl rfl rfl rfl rfl ?_ | refine Plan.pick rfl rfl rfl rfl rfl ?_ | (refine Plan.ints rfl rfl rfl rfl rfl rfl ?_; (skip)) | refine Plan.lenB rfl rfl rfl rfl (by first | exact Sub.refl _ | exact Sub.own) Try.underlying27 ?_ | refine J.seq (J.region mixed hI (by kernel_rfl) ?_) | refine J.seq (J.seq (J.region mixed hI (by kernel_rfl) ?_)) | refine J.condF rfl ?_ | refine J.skip ?_)
  refine Plan.call (B := w0.heap.size) rfl rfl rfl (frame_Take (fPut [97, 98]) 0 (by omega) (by rw [fPut_length]; decide)) Try.func27 rfl rfl (hBb w0) (by repeat (first | exact Opnds.nil | refine Opnds.cons rfl (by first | exact Sub.refl _ | exact Sub.own) ?_)) ?_
  rw [fTake_put' _ (by decide)]
  repeat (first | refine Plan.move rfl rfl rfl rfl ?_ | refine Plan.assign rfl rfl rfl rfl ?_ | refine Plan.extract rfl rfl rfl rfl rfl ?_ | refine J.seq (J.region mixed hI (by kernel_rfl) ?_))
  refine Plan.convBS (p := [97, 98]) rfl rfl rfl rfl Sub.own Try.underlying27 Try.underlying9 Try.underlying5 ?_
  refine Plan.strs (p := [97, 98]) (q := [97, 98]) rfl rfl rfl rfl rfl rfl ?_
  repeat (first | refine Plan.move rfl rfl rfl rfl ?_ | refine Plan.assign rfl rfl rfl rfl ?_ | refine Plan.pick rfl rfl rfl rfl rfl ?_ | (refine Plan.ints rfl rfl rfl rfl rfl rfl ?_; (skip)))
  repeat (fail)
  repeat (fail)
  exact J.ret (Nrm.ret1 rfl (fun _ h => h) rfl fun B _ => Sub.refl _)

theorem lawFPuts (b : List UInt8) (hb : b.length ≤ 9223372036854775807) : Spc Try.prog 6 [.ex (str b)] fun _ => .ex (.bool true) := by
  refine Spc.intro Try.func6 rfl (Nat.le_of_ble_eq_true rfl) fun w0 => ?_
  have hI := hIb w0
  repeat (first | refine Plan.assign rfl rfl rfl rfl ?_ | refine J.seq (J.region mixed hI (by kernel_rfl) ?_) | refine J.seq (J.seq (J.region mixed hI (by kernel_rfl) ?_)))
  refine Plan.call (B := w0.heap.size) rfl rfl rfl (awakeF) Try.func24 rfl rfl (hBb w0) (by repeat (exact Opnds.nil)) ?_
  repeat (first | refine Plan.move rfl rfl rfl rfl ?_ | refine Plan.pick rfl rfl rfl rfl rfl ?_ | refine Plan.lenStr rfl rfl rfl rfl Try.underlying9 ?_ | (refine Plan.ints rfl rfl rfl rfl rfl rfl ?_; (skip)) | refine Plan.un rfl rfl rfl rfl rfl ?_)
  refine J.condD rfl (fun h => ?_) (fun h => ?_)
  · repeat (refine J.seq (J.region mixed hI (by kernel_rfl) ?_))
    refine Plan.call (B := w0.heap.size) rfl rfl rfl (awakeF) Try.func24 rfl rfl (hBb w0) (by repeat (exact Opnds.nil)) ?_
    repeat (refine Plan.assign rfl rfl rfl rfl ?_)
    exact J.ret (Nrm.ret1 rfl (fun _ h => h) rfl fun B _ => Sub.refl _)
  repeat (first | refine Plan.move rfl rfl rfl rfl ?_ | refine J.seq (J.region mixed hI (by kernel_rfl) ?_) | refine J.skip ?_)
  refine Plan.convSB rfl rfl rfl rfl Try.underlying9 Try.underlying27 Try.underlying5 hb ?_
  refine Plan.call (B := w0.heap.size) rfl rfl rfl (frame_Put b (by omega)) Try.func25 rfl rfl (hBb w0) (by repeat (first | exact Opnds.nil | refine Opnds.cons rfl (by exact Sub.refl _) ?_)) ?_
  repeat (first | refine Plan.move rfl rfl rfl rfl ?_ | refine Plan.assign rfl rfl rfl rfl ?_ | refine Plan.extract rfl rfl rfl rfl rfl ?_ | refine J.seq (J.region mixed hI (by kernel_rfl) ?_))
  refine Plan.call (B := w0.heap.size) rfl rfl rfl (ref_FPut b (by omega)) Try.func26 rfl rfl (hBb w0) (by repeat (first | exact Opnds.nil | refine Opnds.cons rfl (by exact Sub.refl _) ?_)) ?_
  repeat (first | refine Plan.move rfl rfl rfl rfl ?_ | refine Plan.assign rfl rfl rfl rfl ?_ | refine Plan.extract rfl rfl rfl rfl rfl ?_ | refine J.seq (J.region mixed hI (by kernel_rfl) ?_))
  refine Plan.convBS (p := if 65529 < b.length then [] else fPut b) rfl rfl rfl rfl Sub.own Try.underlying27 Try.underlying9 Try.underlying5 ?_
  repeat (refine Plan.move rfl rfl rfl rfl ?_)
  refine Plan.strs rfl rfl rfl rfl rfl rfl ?_
  refine Plan.eqT rfl ?_
  repeat (first | refine Plan.move rfl rfl rfl rfl ?_ | refine Plan.assign rfl rfl rfl rfl ?_ | refine Plan.pick rfl rfl rfl rfl rfl ?_ | (refine Plan.ints rfl rfl rfl rfl rfl rfl ?_; (skip)))
  refine Plan.eqT rfl ?_
  repeat (fail)
  exact J.ret (Nrm.ret1 rfl (fun _ h => h) rfl fun B _ => Sub.refl _)

end Go.Proofs.Ytdfdhhepbkejpaa
