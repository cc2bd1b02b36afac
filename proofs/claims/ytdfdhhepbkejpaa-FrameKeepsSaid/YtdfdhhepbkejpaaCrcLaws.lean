/-
  The reference sealing equals the plain one; sealed bytes are opened as they were.
-/
import Derived.Test.YtdfdhhepbkejpaaCrcRef
set_option linter.unusedSimpArgs false
set_option linter.unusedVariables false
namespace Go.Proofs.Ytdfdhhepbkejpaa
open Go.Free Go.RowKit Go.Proofs

theorem ref_Seal (l : List UInt8) (hl : l.length ≤ 9223372036854775000) : Spc Try.prog 50 [.ex (str l)] fun _ => .ex (str (crcSeal l)) := by
  refine Spc.intro Try.func50 rfl (Nat.le_of_ble_eq_true rfl) fun w0 => ?_
  have hI := hIb w0
  have hc := (crcOf l).isLt
  refine J.seq (J.region mixed hI (by kernel_rfl) ?_)
  repeat (refine Plan.assign rfl rfl rfl rfl ?_)
  refine J.seq (J.region mixed hI (by kernel_rfl) ?_)
  repeat (refine Plan.move rfl rfl rfl rfl ?_)
  refine Plan.call (B := 0) (R := fun _ => .ex (.int .i64 (crcOf l).toNat)) rfl rfl rfl (ref_Of l (by omega)) Try.func51 rfl rfl (fun _ _ => Nat.zero_le _) (Opnds.cons rfl (Sub.refl _) Opnds.nil) ?_
  repeat (refine Plan.assign rfl rfl rfl rfl ?_)
  refine J.seq (J.region mixed hI (by kernel_rfl) ?_)
  repeat (first | refine Plan.move rfl rfl rfl rfl ?_ | refine Plan.ints rfl rfl rfl rfl rfl rfl ?_)
  refine Plan.int (y := ((crcOf l >>> 8).toNat : Int)) ?_ ?_
  · rw [BitVec.toNat_ushiftRight, Nat.shiftRight_eq_div_pow, Int.tdiv_eq_ediv_of_nonneg (by omega), i64r (by omega)]; rfl
  refine Plan.convInt rfl rfl rfl rfl Try.underlying3 Try.underlying5 ?_
  refine Plan.int (u8_of _) ?_
  repeat (first | refine Plan.move rfl rfl rfl rfl ?_ | refine Plan.ints rfl rfl rfl rfl rfl rfl ?_)
  refine Plan.convInt rfl rfl rfl rfl Try.underlying3 Try.underlying5 ?_
  refine Plan.int (y := (lo8 (crcOf l)).toNat) ?_ ?_
  · rw [Int.tmod_eq_emod_of_nonneg (by omega)]
    have := u8_of (crcOf l)
    rw [IntKind.wrap_u8] at this ⊢
    rw [Int.emod_emod_of_dvd _ (by decide)]
    exact this
  refine Plan.lit (B := w0.heap.size) rfl rfl rfl eltB rfl (hBb w0) rfl (by simp [Value.cells]) (by decide) ?_
  refine Plan.convBS (p := [hi8 (crcOf l), lo8 (crcOf l)]) rfl rfl rfl rfl (Sub.trans Sub.own (Sub.refl _)) Try.underlying27 Try.underlying9 Try.underlying5 ?_
  refine Plan.concat rfl rfl rfl rfl rfl (by simp; omega) ?_
  repeat (refine Plan.assign rfl rfl rfl rfl ?_)
  refine J.ret (Nrm.ret1 rfl (fun _ h => h) rfl fun B _ => Sub.refl _)

theorem join_nat (a b : UInt8) : (join16 a b).toNat = a.toNat * 256 + b.toNat := by
  have h1 := a.toNat_lt
  have h2 := b.toNat_lt
  simp only [join16, lift16, BitVec.toNat_or, BitVec.toNat_shiftLeft, BitVec.toNat_setWidth, UInt8.toNat_toBitVec]
  have e1 : a.toNat % 2 ^ 16 = a.toNat := by omega
  have e2 : b.toNat % 2 ^ 16 = b.toNat := by omega
  rw [e1, e2]
  have e3 : a.toNat <<< 8 % 2 ^ 16 = a.toNat <<< 8 := by rw [Nat.shiftLeft_eq]; omega
  rw [e3, ← Nat.shiftLeft_add_eq_or_of_lt (by omega), Nat.shiftLeft_eq]
theorem hi_nat (n : BitVec 16) : UInt8.ofNat (n.toNat / 256) = hi8 n := by
  apply UInt8.toNat_inj.1
  have := n.isLt
  rw [UInt8.toNat_ofNat']
  simp only [hi8]
  show _ = ((n >>> 8).setWidth 8).toNat
  rw [BitVec.toNat_setWidth, BitVec.toNat_ushiftRight, Nat.shiftRight_eq_div_pow]
theorem lo_nat (n : BitVec 16) : UInt8.ofNat (n.toNat % 256) = lo8 n := by
  apply UInt8.toNat_inj.1
  rw [UInt8.toNat_ofNat']
  simp only [lo8]
  show _ = (n.setWidth 8).toNat
  rw [BitVec.toNat_setWidth]
  omega
theorem seal_open (l : List UInt8) : crcOpen l = if 2 ≤ l.length ∧ crcSeal (l.take (l.length - 2)) = l then some (l.take (l.length - 2)) else none := by
  unfold crcOpen
  by_cases h2 : 2 ≤ l.length
  · have hsplit : l = l.take (l.length - 2) ++ [l.getD (l.length - 2) 0, l.getD (l.length - 1) 0] := by
      have h1 : l.drop (l.length - 2) = [l.getD (l.length - 2) 0, l.getD (l.length - 1) 0] := by
        rw [List.drop_eq_getElem_cons (by omega), List.drop_eq_getElem_cons (by omega), List.drop_of_length_le (by omega)]
        simp only [List.getD_eq_getElem?_getD]
        rw [List.getElem?_eq_getElem (by omega), List.getElem?_eq_getElem (by omega)]
        simp only [Option.getD_some, List.cons.injEq, and_true, true_and]
        congr 1; omega
      calc l = l.take (l.length - 2) ++ l.drop (l.length - 2) := (List.take_append_drop _ _).symm
        _ = _ := by rw [h1]
    have hj : ∀ n a b, n = join16 a b ↔ hi8 n = a ∧ lo8 n = b := by
      intro n a b
      rw [← hi_nat, ← lo_nat, ← UInt8.toNat_inj, ← UInt8.toNat_inj]
      rw [show (n = join16 a b) ↔ n.toNat = (join16 a b).toNat from ⟨fun h => by rw [h], BitVec.eq_of_toNat_eq⟩, join_nat]
      have h1 := a.toNat_lt
      have h2 := b.toNat_lt
      have h3 := n.isLt
      rw [UInt8.toNat_ofNat', UInt8.toNat_ofNat']
      omega
    have : (crcOf (l.take (l.length - 2)) = join16 (l.getD (l.length - 2) 0) (l.getD (l.length - 1) 0)) ↔ crcSeal (l.take (l.length - 2)) = l := by
      rw [hj]
      constructor
      · rintro ⟨h3, h4⟩
        rw [crcSeal, h3, h4]; exact hsplit.symm
      · intro h
        have h5 := h.trans hsplit
        rw [crcSeal, List.append_cancel_left_eq] at h5
        simpa using h5
    simp only [h2, true_and, this]
  · simp [h2]
end Go.Proofs.Ytdfdhhepbkejpaa
