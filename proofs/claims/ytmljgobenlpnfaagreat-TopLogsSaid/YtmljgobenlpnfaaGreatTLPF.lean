/-
  Laid together: AofPlain, EvRead, EvOp, EvDecFn, DiskFns, DiskFns2, CrcXor, CrcBurst, DiskFns3, AofFns, FreeMap, FreeMap2, EvLater.
-/
import Derived.Test.YtmljgobenlpnfaaGreatTLPE
import Derived.Maps.RangeRun
set_option linter.unusedSimpArgs false
set_option linter.unusedVariables false
set_option maxRecDepth 20000

section
namespace Go.Proofs.YtmljgobenlpnfaaGreat
open Go.Free Go.RowKit Go.Proofs
structure LogV where
  s : List UInt8
  b : Bool
  l : List EvV
def log0 : LogV := ⟨[], false, []⟩
def takeM (m : LogV) (b : List UInt8) (ini : Bool) : Option LogV :=
  match b with
  | [] => none
  | x :: r => if x = 1 ∧ ini = true then some ⟨r, true, m.l⟩ else if x = 0 ∧ decE r = 0 then some ⟨m.s, m.b, m.l ++ [decR r]⟩ else none
def takesM : List (List UInt8) → Bool → LogV → Nat → LogV × Nat
  | [], _, m, p => (m, p)
  | b :: r, ini, m, p => match takeM m b ini with
    | none => (m, p)
    | some m' => takesM r false m' (p + b.length + 6)
def openM (l : List UInt8) : LogV × Nat := takesM (scanL l 0).1 true log0 0
theorem takes_none {b : List UInt8} {r : List (List UInt8)} {f : Bool} {m : LogV} {p : Nat} (h : takeM m b f = none) : takesM (b :: r) f m p = (m, p) := by
  show (match takeM m b f with | none => _ | some m' => _) = _
  rw [h]
theorem takes_some {b : List UInt8} {r : List (List UInt8)} {f : Bool} {m m' : LogV} {p : Nat} (h : takeM m b f = some m') : takesM (b :: r) f m p = takesM r false m' (p + b.length + 6) := by
  show (match takeM m b f with | none => _ | some m' => _) = _
  rw [h]
theorem takes_first : ∀ (bs : List (List UInt8)) (f : Bool) (m : LogV) (p : Nat), ∃ k, k ≤ bs.length ∧ (takesM bs f m p).2 = p + (frames (bs.take k)).length ∧ takesM (bs.take k) f m p = takesM bs f m p
  | [], f, m, p => ⟨0, Nat.le_refl _, by simp [takesM, frames], rfl⟩
  | b :: r, f, m, p => by
    cases h : takeM m b f with
    | none => exact ⟨0, Nat.zero_le _, by rw [takes_none h]; simp [frames], by rw [takes_none h]; rfl⟩
    | some m' =>
      obtain ⟨k, h1, h2, h3⟩ := takes_first r false m' (p + b.length + 6)
      refine ⟨k + 1, by simpa using h1, ?_, ?_⟩
      · rw [takes_some h, h2, List.take_succ_cons, frames_cons, List.length_append, fPut_length]; omega
      · rw [List.take_succ_cons, takes_some h, takes_some h, h3]
theorem fits_is {l : List UInt8} (h : fits l = true) : crcSeal (opened l) = l := by
  unfold fits at h
  unfold opened
  rw [seal_open] at h ⊢
  split
  · rename_i g
    exact g.2
  · rename_i g
    rw [if_neg g] at h; cases h
theorem hdr_hlen {l : List UInt8} (h : l.length = 2) : hdr (hlen l) = l := by
  match l, h with
  | [a, b], _ =>
    have h1 := a.toNat_lt
    have h2 := b.toNat_lt
    have e1 : (a.toNat * 256 + b.toNat) / 256 = a.toNat := by omega
    have e2 : (a.toNat * 256 + b.toNat) % 256 = b.toNat := by omega
    simp [hdr, hlen, e1, e2]
theorem take0_is {r : List UInt8} (h : (fTake0 r).2.2 = 0) : (fTake0 r).1.length ≤ 65529 ∧ (fTake0 r).2.1 = (fTake0 r).1.length + 6 ∧ ∃ t, r = fPut (fTake0 r).1 ++ t := by
  unfold fTake0 at h ⊢
  split at h
  · cases h
  split at h
  · cases h
  split at h
  · cases h
  split at h
  · cases h
  split at h
  · cases h
  rename_i g1 g2 g3 g4 g5
  rw [if_neg g1, if_neg g2, if_neg g3, if_neg g4, if_neg g5]
  have g2' : fits (r.take 4) = true := by cases hh : fits (r.take 4) with | true => rfl | false => exact absurd hh g2
  have g5' : fits ((r.take (hlen (opened (r.take 4)) + 6)).drop 4) = true := by cases hh : fits ((r.take (hlen (opened (r.take 4)) + 6)).drop 4) with | true => rfl | false => exact absurd hh g5
  generalize hn : hlen (opened (r.take 4)) = n at *
  have hb := (opened_len g5').2
  have hh := (opened_len g2').2
  rw [List.length_drop, List.length_take] at hb
  rw [List.length_take] at hh
  have hbn : (opened ((r.take (n + 6)).drop 4)).length = n := by omega
  refine ⟨by dsimp only; omega, by dsimp only; omega, r.drop (n + 6), ?_⟩
  dsimp only
  have e1 : hdr n = opened (r.take 4) := by rw [← hn]; exact hdr_hlen (by omega)
  unfold fPut
  rw [hbn, e1, fits_is g2', fits_is g5']
  have e2 : r.take 4 = (r.take (n + 6)).take 4 := by rw [List.take_take, Nat.min_eq_left (by omega)]
  rw [e2, List.take_append_drop, List.take_append_drop]
theorem scan_is (l : List UInt8) : ∀ (k p : Nat), l.length - p = k → p ≤ l.length → (∀ x ∈ (scanL l p).1, x.length ≤ 65529) ∧ (scanL l p).2 = p + (frames (scanL l p).1).length ∧ ∃ t, l.drop p = frames (scanL l p).1 ++ t := by
  intro k
  induction k using Nat.strongRecOn with
  | _ k ih =>
    intro p hk hp
    by_cases h : p < l.length ∧ (fTake l p).2.2 = 0
    · have hbd := fTake_bd l p h.2
      have hf0 : (fTake0 (l.drop p)).2.2 = 0 := by
        have := h.2
        unfold fTake at this
        rw [if_neg (by omega), Int.toNat_natCast] at this
        split at this
        · assumption
        · exact this
      have hf : fTake l p = ((fTake0 (l.drop p)).1, p + (fTake0 (l.drop p)).2.1, 0) := by
        unfold fTake
        rw [if_neg (by omega), Int.toNat_natCast, if_pos hf0]
      obtain ⟨h1, h2, t, h3⟩ := take0_is hf0
      have hq : (fTake l p).2.1 = p + ((fTake0 (l.drop p)).1.length + 6) := by rw [hf, ← h2]
      obtain ⟨i1, i2, t2, i3⟩ := ih (l.length - (fTake l p).2.1) (by omega) (fTake l p).2.1 rfl (by omega)
      rw [scanL_go h.1 h.2]
      dsimp only
      refine ⟨fun x hx => ?_, ?_, t2, ?_⟩
      · rcases List.mem_cons.1 hx with rfl | hx
        · rw [hf]; exact h1
        · exact i1 x hx
      · rw [i2, frames_cons, List.length_append, fPut_length, hq, hf]; dsimp only; omega
      · have e1 : l.drop (fTake l p).2.1 = (l.drop p).drop ((fTake0 (l.drop p)).1.length + 6) := by rw [List.drop_drop, hq]
        have e2 : (l.drop p).drop ((fTake0 (l.drop p)).1.length + 6) = t := by
          have hl := congrArg (List.drop ((fTake0 (l.drop p)).1.length + 6)) h3
          rw [List.drop_left' (fPut_length _)] at hl
          exact hl
        rw [frames_cons, List.append_assoc, ← i3, e1, e2, hf]
        exact h3
    · rw [scanL_stop h]
      exact ⟨fun x hx => by simp at hx, by simp [frames], l.drop p, by simp [frames]⟩
theorem open_again (l : List UInt8) : (openM l).2 ≤ l.length ∧ openM (l.take (openM l).2) = openM l := by
  obtain ⟨h1, h2, t, h3⟩ := scan_is l l.length 0 rfl (Nat.zero_le _)
  rw [List.drop_zero] at h3
  obtain ⟨k, k1, k2, k3⟩ := takes_first (scanL l 0).1 true log0 0
  have hat : (openM l).2 = (frames ((scanL l 0).1.take k)).length := by unfold openM; rw [k2]; omega
  have hsp : frames (scanL l 0).1 = frames ((scanL l 0).1.take k) ++ frames ((scanL l 0).1.drop k) := by rw [← frames_append, List.take_append_drop]
  have htk : l.take (openM l).2 = frames ((scanL l 0).1.take k) := by
    have hl := congrArg (List.take (openM l).2) h3
    rw [hsp, List.append_assoc, List.take_left' hat.symm] at hl
    exact hl
  constructor
  · rw [hat]
    have := congrArg List.length h3
    rw [hsp, List.length_append, List.length_append] at this
    omega
  · rw [htk]
    show takesM (scanL (frames ((scanL l 0).1.take k)) 0).1 true log0 0 = _
    rw [scan_all _ fun x hx => h1 x (List.mem_of_mem_take hx)]
    exact k3
end Go.Proofs.YtmljgobenlpnfaaGreat
end

section
namespace Go.Proofs.YtmljgobenlpnfaaGreat
open Go.Free Go.RowKit Go.Proofs
set_option maxHeartbeats 4000000
abbrev rdC (β : Nat) (v : Value) (s : RS) : Chunk := obj β [v, vi s.1, vi s.2]
theorem rNum_err {l : List UInt8} {s : RS} (h : (s.2 : Int) ≠ 0) : rNum l s = (0, s) := if_pos (by omega)
theorem rText_err {l : List UInt8} {s : RS} (h : (s.2 : Int) ≠ 0) : rText l s = ([], s) := if_pos (by omega)
theorem rSig_err {l : List UInt8} {s : RS} (h : (s.2 : Int) ≠ 0) : rSig l s = (0, s) := if_pos (by omega)
theorem number_fn {wO : World} {v : Value} {l : List UInt8} (hv : (bytesF l).den wO v) {β : Nat} (hβ : wO.heap.size ≤ β) {s : RS} (hs : okS l s) (hl : l.length ≤ 9223372036854775807) :
    SpcC Tryz.prog 77 [exIn wO (ptr β)] (rdC β v s) (fun _ : Unit => True) (fun _ => .ex (vi (rNum l s).1)) (fun _ => rdC β v (rNum l s).2) := by
  refine SpcC.intro2 Tryz.func77 rfl (Nat.le_of_ble_eq_true rfl) fun w1 F args hd hc => ?_
  have hB0 := exIn_below hd
  have hbe : ∀ w, Kept F w1 w → Below wO.heap.size wO w := fun w h => kept_beyond hB0 (fun b hb => by rw [(hc.2 b).1 hb]; exact hβ) h
  have hI := kept_below F w1
  have hA := Own.kept F w1
  have hs1 := hs.1
  have hs2 := hs.2
  have hb := vTake_bd l s.1
  refine J.weak [(0, .ex (ptr β)), (1000, heap (fun b => F b ∨ w1.heap.size ≤ b) [rdC β v s])] (Weak.cons rfl Sub.inEx (Weak.cons rfl (Sub.refl _) Weak.nil)) ?_
  repeat (first | refine Plan.move rfl rfl rfl rfl ?_ | refine Plan.assign rfl rfl rfl rfl ?_ | (refine Plan.ints rfl rfl rfl rfl rfl rfl ?_; (skip)) | refine Plan.nilOk rfl rfl rfl rfl ?_ | refine Plan.fieldC rfl rfl rfl rfl (by first | exact Tryz.underlying58 | exact Tryz.underlying132) rfl (by kernel_rfl) (by exact (rfl : _ = 2)) ?_ | refine Plan.loadC (key := 1000) (q := 0) rfl rfl rfl rfl rfl rfl (obj_reads1 rfl) (by exact Tryz.underlying3) (by rfl) (by decide) ?_ | refine J.seq (J.region mixed hI (by kernel_rfl) ?_) | refine J.seq (J.seq (J.region mixed hI (by kernel_rfl) ?_)))
  refine J.condN rfl (fun he => ?_) (fun he => ?_)
  · rw [rNum_err he]
    repeat (first | refine Plan.assign rfl rfl rfl rfl ?_ | refine J.seq (J.region mixed hI (by kernel_rfl) ?_))
    exact J.ret (Nrm.retC1 (key := 1000) () rfl rfl rfl trivial (Sub.refl _) Ent.left)
  have hz : s.2 = 0 := by omega
  have kT := vlq_Take l s.1 (by omega) hl
  unfold takeRes at kT
  have eN : rNum l s = (if (vTake l s.1).2.2 ≠ 0 then ((0, (s.1, (vTake l s.1).2.2)) : Int × RS) else if 4611686018427387904 < (vTake l s.1).1 then (0, (s.1, 3)) else ((vTake l s.1).1, ((vTake l s.1).2.1, 0))) := if_neg (fun h => h hz)
  rw [eN]
  obtain ⟨sp, se⟩ := s
  simp only at hz hs1 hs2
  subst hz
  simp only at kT ⊢
  generalize (vTake l sp) = V at *
  obtain ⟨m, nx, er⟩ := V
  simp only at kT hb ⊢
  rcases Nat.eq_zero_or_pos er with h0 | h0
  · subst h0
    repeat (first | refine Plan.move rfl rfl rfl rfl ?_ | refine Plan.nilOk rfl rfl rfl rfl ?_ | refine Plan.fieldC rfl rfl rfl rfl (by first | exact Tryz.underlying58 | exact Tryz.underlying132) rfl (by kernel_rfl) (by first | exact (rfl : _ = 0) | exact (rfl : _ = 1)) ?_ | refine Plan.loadC (key := 1000) (q := 0) rfl rfl rfl rfl rfl rfl (obj_reads1 rfl) (by first | exact Tryz.underlying3 | exact Tryz.underlying56) (by rfl) (by decide) ?_ | refine J.seq (J.region mixed hI (by kernel_rfl) ?_) | refine J.skip ?_)
    refine Plan.call (B := 0) rfl rfl rfl kT Tryz.func103 rfl rfl (fun _ _ => Nat.zero_le _) (Opnds.cons rfl (Sub.known hbe hv) (Opnds.cons rfl (Sub.refl _) Opnds.nil)) ?_
    repeat (first | refine Plan.move rfl rfl rfl rfl ?_ | refine Plan.assign rfl rfl rfl rfl ?_ | refine Plan.extract rfl rfl rfl rfl rfl ?_ | refine Plan.pick rfl rfl rfl rfl rfl ?_ | (refine Plan.ints rfl rfl rfl rfl rfl rfl ?_; (skip)) | refine J.seq (J.seq (J.region mixed hI (by kernel_rfl) ?_)))
    refine J.condD rfl (fun h2 => ?_) (fun h2 => ?_)
    · rw [if_neg (by simp), if_pos (by omega)]
      repeat (first | refine Plan.move rfl rfl rfl rfl ?_ | refine Plan.assign rfl rfl rfl rfl ?_ | (refine Plan.ints rfl rfl rfl rfl rfl rfl ?_; (skip)) | refine Plan.nilOk rfl rfl rfl rfl ?_ | refine Plan.fieldC rfl rfl rfl rfl (by first | exact Tryz.underlying58 | exact Tryz.underlying132) rfl (by kernel_rfl) (by exact (rfl : _ = 2)) ?_ | refine J.seq (J.region mixed hI (by kernel_rfl) ?_) | refine J.region mixed hI (by kernel_rfl) ?_ | refine J.seq (J.seq (J.region mixed hI (by kernel_rfl) ?_)) | refine J.condT rfl ?_)
      refine Plan.storeC (key := 1000) (q := 0) rfl rfl rfl rfl rfl rfl (by simp [Value.cells, Value.oneCell', str]) (by kernel_rfl) rfl hA rfl (obj_pat1 (Nat.le_of_ble_eq_true rfl)) ?_
      repeat (first | refine Plan.assign rfl rfl rfl rfl ?_ | refine J.seq (J.region mixed hI (by kernel_rfl) ?_))
      exact J.ret (Nrm.retC1 (key := 1000) () rfl rfl rfl trivial (Sub.refl _) Ent.left)
    · rw [if_neg (by simp), if_neg (by omega)]
      repeat (first | refine Plan.move rfl rfl rfl rfl ?_ | (refine Plan.ints rfl rfl rfl rfl rfl rfl ?_; (skip)) | refine Plan.nilOk rfl rfl rfl rfl ?_ | refine Plan.fieldC rfl rfl rfl rfl (by first | exact Tryz.underlying58 | exact Tryz.underlying132) rfl (by kernel_rfl) (by exact (rfl : _ = 1)) ?_ | refine J.seq (J.region mixed hI (by kernel_rfl) ?_) | refine J.seq (J.seq (J.region mixed hI (by kernel_rfl) ?_)) | refine J.condF rfl ?_ | refine J.skip ?_)
      refine Plan.storeC (key := 1000) (q := 0) rfl rfl rfl rfl rfl rfl (by simp [Value.cells, Value.oneCell', str]) (by kernel_rfl) rfl hA rfl (obj_pat1 (Nat.le_of_ble_eq_true rfl)) ?_
      repeat (first | refine Plan.move rfl rfl rfl rfl ?_ | refine Plan.assign rfl rfl rfl rfl ?_ | (refine Plan.convInt rfl rfl rfl rfl (by first | exact Tryz.underlying3 | exact Tryz.underlying148) (by exact Tryz.underlying3) ?_; (refine Plan.int (i64r (by omega)) ?_)) | refine J.seq (J.region mixed hI (by kernel_rfl) ?_))
      exact J.ret (Nrm.retC1 (key := 1000) () rfl rfl rfl trivial (Sub.refl _) Ent.left)
  · repeat (first | refine Plan.move rfl rfl rfl rfl ?_ | refine Plan.nilOk rfl rfl rfl rfl ?_ | refine Plan.fieldC rfl rfl rfl rfl (by first | exact Tryz.underlying58 | exact Tryz.underlying132) rfl (by kernel_rfl) (by first | exact (rfl : _ = 0) | exact (rfl : _ = 1)) ?_ | refine Plan.loadC (key := 1000) (q := 0) rfl rfl rfl rfl rfl rfl (obj_reads1 rfl) (by first | exact Tryz.underlying3 | exact Tryz.underlying56) (by rfl) (by decide) ?_ | refine J.seq (J.region mixed hI (by kernel_rfl) ?_) | refine J.skip ?_)
    refine Plan.call (B := 0) rfl rfl rfl kT Tryz.func103 rfl rfl (fun _ _ => Nat.zero_le _) (Opnds.cons rfl (Sub.known hbe hv) (Opnds.cons rfl (Sub.refl _) Opnds.nil)) ?_
    repeat (first | refine Plan.move rfl rfl rfl rfl ?_ | refine Plan.assign rfl rfl rfl rfl ?_ | refine Plan.extract rfl rfl rfl rfl rfl ?_ | (refine Plan.ints rfl rfl rfl rfl rfl rfl ?_; (skip)) | refine J.seq (J.seq (J.region mixed hI (by kernel_rfl) ?_)))
    refine Plan.boolv (y := false) (by simpa using (by omega : ¬ er = 0)) ?_
    repeat (first | refine Plan.move rfl rfl rfl rfl ?_ | refine Plan.skip rfl rfl ?_ | refine Plan.pick rfl rfl rfl rfl rfl ?_ | (refine Plan.ints rfl rfl rfl rfl rfl rfl ?_; (skip)) | refine J.seq (J.seq (J.region mixed hI (by kernel_rfl) ?_)) | refine J.condF rfl ?_ | refine J.skip ?_)
    rw [if_pos (by omega)]
    refine J.condN rfl (fun h2 => ?_) (fun h2 => absurd h2 (by omega))
    repeat (first | refine Plan.move rfl rfl rfl rfl ?_ | refine Plan.nilOk rfl rfl rfl rfl ?_ | refine Plan.fieldC rfl rfl rfl rfl (by first | exact Tryz.underlying58 | exact Tryz.underlying132) rfl (by kernel_rfl) (by exact (rfl : _ = 2)) ?_ | refine J.seq (J.region mixed hI (by kernel_rfl) ?_))
    refine Plan.storeC (key := 1000) (q := 0) rfl rfl rfl rfl rfl rfl (by simp [Value.cells, Value.oneCell', str]) (by kernel_rfl) rfl hA rfl (obj_pat1 (Nat.le_of_ble_eq_true rfl)) ?_
    repeat (first | refine Plan.assign rfl rfl rfl rfl ?_ | refine J.seq (J.region mixed hI (by kernel_rfl) ?_))
    exact J.ret (Nrm.retC1 (key := 1000) () rfl rfl rfl trivial (Sub.refl _) Ent.left)
theorem text_fn {wO : World} {v : Value} {l : List UInt8} (hv : (bytesF l).den wO v) {β : Nat} (hβ : wO.heap.size ≤ β) {s : RS} (hs : okS l s) (hl : l.length ≤ 9223372036854775807) :
    SpcC Tryz.prog 104 [exIn wO (ptr β)] (rdC β v s) (fun _ : Unit => True) (fun _ => .ex (str (rText l s).1)) (fun _ => rdC β v (rText l s).2) := by
  refine SpcC.intro2 Tryz.func104 rfl (Nat.le_of_ble_eq_true rfl) fun w1 F args hd hc => ?_
  have hB0 := exIn_below hd
  have hbe : ∀ w, Kept F w1 w → Below wO.heap.size wO w := fun w h => kept_beyond hB0 (fun b hb => by rw [(hc.2 b).1 hb]; exact hβ) h
  have hI := kept_below F w1
  have hA := Own.kept F w1
  have hs1 := hs.1
  have hs2 := hs.2
  have hb := vTake_bd l s.1
  refine J.weak [(0, .ex (ptr β)), (1000, heap (fun b => F b ∨ w1.heap.size ≤ b) [rdC β v s])] (Weak.cons rfl Sub.inEx (Weak.cons rfl (Sub.refl _) Weak.nil)) ?_
  repeat (first | refine Plan.move rfl rfl rfl rfl ?_ | refine Plan.assign rfl rfl rfl rfl ?_ | (refine Plan.ints rfl rfl rfl rfl rfl rfl ?_; (skip)) | refine Plan.nilOk rfl rfl rfl rfl ?_ | refine Plan.fieldC rfl rfl rfl rfl (by first | exact Tryz.underlying58 | exact Tryz.underlying132) rfl (by kernel_rfl) (by exact (rfl : _ = 2)) ?_ | refine Plan.loadC (key := 1000) (q := 0) rfl rfl rfl rfl rfl rfl (obj_reads1 rfl) (by exact Tryz.underlying3) (by rfl) (by decide) ?_ | refine J.seq (J.region mixed hI (by kernel_rfl) ?_) | refine J.seq (J.seq (J.region mixed hI (by kernel_rfl) ?_)))
  refine J.condN rfl (fun he => ?_) (fun he => ?_)
  · rw [rText_err he]
    repeat (first | refine Plan.assign rfl rfl rfl rfl ?_ | refine J.seq (J.region mixed hI (by kernel_rfl) ?_))
    exact J.ret (Nrm.retC1 (key := 1000) () rfl rfl rfl trivial (Sub.refl _) Ent.left)
  have hz : s.2 = 0 := by omega
  have kT := vlq_TakeText l s.1 64 (by omega) (by omega) hl
  unfold textRes at kT
  have eN : rText l s = ((vText l s.1 64).1, ((vText l s.1 64).2.1, (vText l s.1 64).2.2)) := if_neg (by omega)
  rw [eN]
  obtain ⟨sp, se⟩ := s
  simp only at hz hs1 hs2
  subst hz
  simp only at kT ⊢
  repeat (first | refine Plan.move rfl rfl rfl rfl ?_ | refine Plan.nilOk rfl rfl rfl rfl ?_ | refine Plan.fieldC rfl rfl rfl rfl (by first | exact Tryz.underlying58 | exact Tryz.underlying132) rfl (by kernel_rfl) (by first | exact (rfl : _ = 0) | exact (rfl : _ = 1)) ?_ | refine Plan.loadC (key := 1000) (q := 0) rfl rfl rfl rfl rfl rfl (obj_reads1 rfl) (by first | exact Tryz.underlying3 | exact Tryz.underlying56) (by rfl) (by decide) ?_ | refine J.seq (J.region mixed hI (by kernel_rfl) ?_) | refine J.skip ?_)
  refine Plan.call (B := 0) rfl rfl rfl kT Tryz.func113 rfl rfl (fun _ _ => Nat.zero_le _) (Opnds.cons rfl (Sub.known hbe hv) (Opnds.cons rfl (Sub.refl _) (Opnds.cons rfl (Sub.refl _) Opnds.nil))) ?_
  repeat (first | refine Plan.move rfl rfl rfl rfl ?_ | refine Plan.assign rfl rfl rfl rfl ?_ | refine Plan.extract rfl rfl rfl rfl rfl ?_ | refine Plan.nilOk rfl rfl rfl rfl ?_ | refine Plan.fieldC rfl rfl rfl rfl (by first | exact Tryz.underlying58 | exact Tryz.underlying132) rfl (by kernel_rfl) (by exact (rfl : _ = 1)) ?_ | refine J.seq (J.region mixed hI (by kernel_rfl) ?_))
  refine Plan.storeC (key := 1000) (q := 0) rfl rfl rfl rfl rfl rfl (by simp [Value.cells, Value.oneCell', str]) (by kernel_rfl) rfl hA rfl (obj_pat1 (Nat.le_of_ble_eq_true rfl)) ?_
  repeat (first | refine Plan.nilOk rfl rfl rfl rfl ?_ | refine Plan.fieldC rfl rfl rfl rfl (by first | exact Tryz.underlying58 | exact Tryz.underlying132) rfl (by kernel_rfl) (by exact (rfl : _ = 2)) ?_)
  refine Plan.storeC (key := 1000) (q := 0) rfl rfl rfl rfl rfl rfl (by simp [Value.cells, Value.oneCell', str]) (by kernel_rfl) rfl hA rfl (obj_pat1 (Nat.le_of_ble_eq_true rfl)) ?_
  repeat (first | refine Plan.move rfl rfl rfl rfl ?_ | refine Plan.assign rfl rfl rfl rfl ?_ | refine J.seq (J.region mixed hI (by kernel_rfl) ?_))
  exact J.ret (Nrm.retC1 (key := 1000) () rfl rfl rfl trivial (Sub.refl _) Ent.left)
theorem signed_fn {wO : World} {v : Value} {l : List UInt8} (hv : (bytesF l).den wO v) {β : Nat} (hβ : wO.heap.size ≤ β) {s : RS} (hs : okS l s) (hl : l.length ≤ 9223372036854775807) :
    SpcC Tryz.prog 105 [exIn wO (ptr β)] (rdC β v s) (fun _ : Unit => True) (fun _ => .ex (vi (rSig l s).1)) (fun _ => rdC β v (rSig l s).2) := by
  refine SpcC.intro2 Tryz.func105 rfl (Nat.le_of_ble_eq_true rfl) fun w1 F args hd hc => ?_
  have hB0 := exIn_below hd
  have hbe : ∀ w, Kept F w1 w → Below wO.heap.size wO w := fun w h => kept_beyond hB0 (fun b hb => by rw [(hc.2 b).1 hb]; exact hβ) h
  have hI := kept_below F w1
  have hA := Own.kept F w1
  have hs1 := hs.1
  have hs2 := hs.2
  have hb := vTake_bd l s.1
  refine J.weak [(0, .ex (ptr β)), (1000, heap (fun b => F b ∨ w1.heap.size ≤ b) [rdC β v s])] (Weak.cons rfl Sub.inEx (Weak.cons rfl (Sub.refl _) Weak.nil)) ?_
  repeat (first | refine Plan.move rfl rfl rfl rfl ?_ | refine Plan.assign rfl rfl rfl rfl ?_ | (refine Plan.ints rfl rfl rfl rfl rfl rfl ?_; (skip)) | refine Plan.nilOk rfl rfl rfl rfl ?_ | refine Plan.fieldC rfl rfl rfl rfl (by first | exact Tryz.underlying58 | exact Tryz.underlying132) rfl (by kernel_rfl) (by exact (rfl : _ = 2)) ?_ | refine Plan.loadC (key := 1000) (q := 0) rfl rfl rfl rfl rfl rfl (obj_reads1 rfl) (by exact Tryz.underlying3) (by rfl) (by decide) ?_ | refine J.seq (J.region mixed hI (by kernel_rfl) ?_) | refine J.seq (J.seq (J.region mixed hI (by kernel_rfl) ?_)))
  refine J.condN rfl (fun he => ?_) (fun he => ?_)
  · rw [rSig_err he]
    repeat (first | refine Plan.assign rfl rfl rfl rfl ?_ | refine J.seq (J.region mixed hI (by kernel_rfl) ?_))
    exact J.ret (Nrm.retC1 (key := 1000) () rfl rfl rfl trivial (Sub.refl _) Ent.left)
  have hz : s.2 = 0 := by omega
  have kT := vlq_TakeInt l s.1 (by omega) hl
  have eN : rSig l s = (zag (vTake l s.1).1, ((vTake l s.1).2.1, (vTake l s.1).2.2)) := if_neg (by omega)
  rw [eN]
  obtain ⟨sp, se⟩ := s
  simp only at hz hs1 hs2
  subst hz
  simp only at kT ⊢
  repeat (first | refine Plan.move rfl rfl rfl rfl ?_ | refine Plan.nilOk rfl rfl rfl rfl ?_ | refine Plan.fieldC rfl rfl rfl rfl (by first | exact Tryz.underlying58 | exact Tryz.underlying132) rfl (by kernel_rfl) (by first | exact (rfl : _ = 0) | exact (rfl : _ = 1)) ?_ | refine Plan.loadC (key := 1000) (q := 0) rfl rfl rfl rfl rfl rfl (obj_reads1 rfl) (by first | exact Tryz.underlying3 | exact Tryz.underlying56) (by rfl) (by decide) ?_ | refine J.seq (J.region mixed hI (by kernel_rfl) ?_) | refine J.skip ?_)
  refine Plan.call (B := 0) rfl rfl rfl kT Tryz.func114 rfl rfl (fun _ _ => Nat.zero_le _) (Opnds.cons rfl (Sub.known hbe hv) (Opnds.cons rfl (Sub.refl _) Opnds.nil)) ?_
  repeat (first | refine Plan.move rfl rfl rfl rfl ?_ | refine Plan.assign rfl rfl rfl rfl ?_ | refine Plan.extract rfl rfl rfl rfl rfl ?_ | refine Plan.nilOk rfl rfl rfl rfl ?_ | refine Plan.fieldC rfl rfl rfl rfl (by first | exact Tryz.underlying58 | exact Tryz.underlying132) rfl (by kernel_rfl) (by exact (rfl : _ = 1)) ?_ | refine J.seq (J.region mixed hI (by kernel_rfl) ?_))
  refine Plan.storeC (key := 1000) (q := 0) rfl rfl rfl rfl rfl rfl (by simp [Value.cells, Value.oneCell', str]) (by kernel_rfl) rfl hA rfl (obj_pat1 (Nat.le_of_ble_eq_true rfl)) ?_
  repeat (first | refine Plan.nilOk rfl rfl rfl rfl ?_ | refine Plan.fieldC rfl rfl rfl rfl (by first | exact Tryz.underlying58 | exact Tryz.underlying132) rfl (by kernel_rfl) (by exact (rfl : _ = 2)) ?_)
  refine Plan.storeC (key := 1000) (q := 0) rfl rfl rfl rfl rfl rfl (by simp [Value.cells, Value.oneCell', str]) (by kernel_rfl) rfl hA rfl (obj_pat1 (Nat.le_of_ble_eq_true rfl)) ?_
  repeat (first | refine Plan.move rfl rfl rfl rfl ?_ | refine Plan.assign rfl rfl rfl rfl ?_ | refine J.seq (J.region mixed hI (by kernel_rfl) ?_))
  exact J.ret (Nrm.retC1 (key := 1000) () rfl rfl rfl trivial (Sub.refl _) Ent.left)
end Go.Proofs.YtmljgobenlpnfaaGreat
end

section
namespace Go.Proofs.YtmljgobenlpnfaaGreat
open Go.Free Go.RowKit Go.Proofs
set_option maxHeartbeats 4000000
def opL (k : Int) (a b c : List UInt8) (x r n : Int) : List Value := [vi k, str a, str b, str c, vi x, vi r, vi n]
def opV (l : List UInt8) (s : RS) : List Value := opL (oK l s) (oKey l s).1 (oField l s).1 (oValue l s).1 (oNum l s).1 (oRR l s).1 (oRN l s).1
def opZ : List Value := opL 0 [] [] [] 0 0 0
def opH (A : Nat → Prop) (β α γ δ : Nat) (v : Value) (k : Int) (s : RS) (cs : List Value) : Fa := heap A [rdC β v s, obj α opZ, obj γ cs, obj δ (partsV k)]
def opM (A : Nat → Prop) (β α γ δ : Nat) (v : Value) (k : Int) (s : RS) (cs : List Value) : Env := [(0, .ex (ptr β)), (2, .ex (ptr α)), (3, .ex (ptr γ)), (4, .ex (ptr δ)), (1000, opH A β α γ δ v k s cs)]
theorem op_fn {wO : World} {v : Value} {l : List UInt8} (hv : (bytesF l).den wO v) {β : Nat} (hβ : wO.heap.size ≤ β) {s : RS} (hs : okS l s) (hl : l.length ≤ 9223372036854775807) :
    SpcC Tryz.prog 78 [exIn wO (ptr β)] (rdC β v s) (fun _ : Unit => True) (fun _ => .ex (.agg (opV l s).toArray)) (fun _ => rdC β v (oRN l s).2) := by
  refine SpcC.intro2 Tryz.func78 rfl (Nat.le_of_ble_eq_true rfl) fun w1 F args hd hc => ?_
  have hB0 := exIn_below hd
  have hbe : ∀ w, Kept F w1 w → Below wO.heap.size wO w := fun w h => kept_beyond hB0 (fun b hb => by rw [(hc.2 b).1 hb]; exact hβ) h
  have hI := kept_below F w1
  have hA := Own.kept F w1
  refine J.weak [(0, .ex (ptr β)), (1000, heap (fun b => F b ∨ w1.heap.size ≤ b) [rdC β v s])] (Weak.cons rfl Sub.inEx (Weak.cons rfl (Sub.refl _) Weak.nil)) ?_
  repeat (refine J.seq (J.region mixed hI (by kernel_rfl) ?_))
  refine Plan.allocC (key := 1000) (z := .agg opZ.toArray) rfl rfl rfl (by intro _ e; cases e; decide) (by kernel_rfl) rfl hA fun α => ?_
  repeat (first | refine Plan.move rfl rfl rfl rfl ?_ | refine J.seq (J.region mixed hI (by kernel_rfl) ?_))
  refine Plan.callC (key := 1000) (q := 0) rfl rfl rfl (number_fn hv hβ hs hl) Tryz.func77 rfl rfl (by intro _ e; cases e; decide) (by repeat (first | exact Opnds.nil | refine Opnds.cons rfl (by exact Sub.exIn hbe) ?_)) rfl hA rfl ?_
  intro _ _
  refine Plan.build (cells := (opL (oK l s) [] [] [] 0 0 0).toArray) rfl rfl (ps := [(0, _)]) rfl (Parts.cons rfl Parts.nil) (by kernel_rfl) ?_
  refine Plan.allocC (key := 1000) (z := .agg opZ.toArray) rfl rfl rfl (by intro _ e; cases e; decide) (by kernel_rfl) rfl hA fun γ => ?_
  refine Plan.storeC (key := 1000) (q := 2) (off := 0) rfl rfl rfl rfl rfl rfl (by simp [Value.cells, Value.oneCell', opL, str]) (by show _ = some (opL (oK l s) [] [] [] 0 0 0).toArray.size; kernel_rfl) rfl hA rfl (obj_pat (Nat.le_of_ble_eq_true rfl)) ?_
  repeat (first | refine Plan.fieldC rfl rfl rfl rfl (by first | exact Tryz.underlying40 | exact Tryz.underlying38) rfl (by kernel_rfl) (by exact (rfl : _ = 0)) ?_ | refine Plan.loadC (key := 1000) (q := 2) rfl rfl rfl rfl rfl rfl (obj_reads1 rfl) (by exact Tryz.underlying3) (by rfl) (by decide) ?_ | refine J.seq (J.region mixed hI (by kernel_rfl) ?_))
  refine Plan.call (B := 0) rfl rfl rfl (uses_fn (oK l s)) Tryz.func79 rfl rfl (fun _ _ => Nat.zero_le _) (Opnds.cons rfl (Sub.refl _) Opnds.nil) ?_
  repeat (first | refine Plan.move rfl rfl rfl rfl ?_ | refine Plan.extract rfl rfl rfl rfl rfl ?_)
  refine Plan.allocC (key := 1000) (z := .agg #[.bool false, .bool false, .bool false, .bool false]) rfl rfl rfl (by intro _ e; cases e; decide) (by kernel_rfl) rfl hA fun δ => ?_
  refine Plan.storeC (key := 1000) (q := 3) (off := 0) rfl rfl rfl rfl rfl rfl (by simp [Value.cells, Value.oneCell', partsV]) (by show _ = some (partsV (oK l s)).toArray.size; kernel_rfl) rfl hA rfl (obj_pat (Nat.le_of_ble_eq_true rfl)) ?_
  repeat (refine Plan.assign rfl rfl rfl rfl ?_)
  refine J.seqMid (σ := Unit) (fun _ => opM (fun b => F b ∨ w1.heap.size ≤ b) β α γ δ v (oK l s) (oS1 l s) (opL (oK l s) [] [] [] 0 0 0)) (fun _ => True) ?_ fun _ _ => ?_
  · repeat (first | refine Plan.move rfl rfl rfl rfl ?_ | (refine Plan.ints rfl rfl rfl rfl rfl rfl ?_; (skip)) | refine Plan.nilOk rfl rfl rfl rfl ?_ | refine Plan.fieldC rfl rfl rfl rfl (by first | exact Tryz.underlying40 | exact Tryz.underlying132) rfl (by kernel_rfl) (by exact (rfl : _ = 2)) ?_ | refine Plan.loadC (key := 1000) (q := 0) rfl rfl rfl rfl rfl rfl (obj_reads1 rfl) (by exact Tryz.underlying3) (by rfl) (by decide) ?_ | refine J.seq (J.region mixed hI (by kernel_rfl) ?_))
    refine Plan.splitE (fun h1 => ?_) (fun h1 => ?_)
    · repeat (first | refine Plan.move rfl rfl rfl rfl ?_ | refine Plan.pick rfl rfl rfl rfl rfl ?_ | refine Plan.un rfl rfl rfl rfl rfl ?_)
      refine J.condND rfl (fun hk => ?_) (fun hk => ?_)
      · have e1 : oS1 l s = ((rNum l s).2.1, 3) := if_pos ⟨by omega, hk⟩
        repeat (first | refine Plan.move rfl rfl rfl rfl ?_ | refine Plan.nilOk rfl rfl rfl rfl ?_ | refine Plan.fieldC rfl rfl rfl rfl (by first | exact Tryz.underlying40 | exact Tryz.underlying132) rfl (by kernel_rfl) (by exact (rfl : _ = 2)) ?_ | refine J.region mixed hI (by kernel_rfl) ?_)
        refine Plan.storeC (key := 1000) (q := 0) rfl rfl rfl rfl rfl rfl (by simp [Value.cells, Value.oneCell', str]) (by kernel_rfl) rfl hA rfl (obj_pat1 (Nat.le_of_ble_eq_true rfl)) ?_
        repeat (fail)
        exact Nrm.mid () trivial (Weak.cons rfl (Sub.refl _) (Weak.cons rfl (Sub.refl _) (Weak.cons rfl (Sub.refl _) (Weak.cons rfl (Sub.refl _) (Weak.cons rfl (Sub.of_eq (by rw [e1] <;> rfl)) Weak.nil)))))
      · have e1 : oS1 l s = (rNum l s).2 := if_neg fun hh => hh.2 hk
        refine J.skip ?_
        exact Nrm.mid () trivial (Weak.cons rfl (Sub.refl _) (Weak.cons rfl (Sub.refl _) (Weak.cons rfl (Sub.refl _) (Weak.cons rfl (Sub.refl _) (Weak.cons rfl (Sub.of_eq (by rw [e1] <;> rfl)) Weak.nil)))))
    · have e1 : oS1 l s = (rNum l s).2 := if_neg fun hh => h1 (by omega)
      repeat (first | refine Plan.skip rfl rfl ?_ | refine Plan.pick rfl rfl rfl rfl rfl ?_ | refine J.condF rfl ?_ | refine J.skip ?_)
      exact Nrm.mid () trivial (Weak.cons rfl (Sub.refl _) (Weak.cons rfl (Sub.refl _) (Weak.cons rfl (Sub.refl _) (Weak.cons rfl (Sub.refl _) (Weak.cons rfl (Sub.of_eq (by rw [e1] <;> rfl)) Weak.nil)))))
  refine J.seqMid (σ := Unit) (fun _ => opM (fun b => F b ∨ w1.heap.size ≤ b) β α γ δ v (oK l s) (oKey l s).2 (opL (oK l s) (oKey l s).1 [] [] 0 0 0)) (fun _ => True) ?_ fun _ _ => ?_
  · repeat (first | refine Plan.move rfl rfl rfl rfl ?_ | refine J.region mixed hI (by kernel_rfl) ?_)
    refine Plan.callC (key := 1000) (q := 0) rfl rfl rfl (text_fn hv hβ (oS1_ok hs) hl) Tryz.func104 rfl rfl (by intro _ e; cases e; decide) (by repeat (first | exact Opnds.nil | refine Opnds.cons rfl (by exact Sub.exIn hbe) ?_)) rfl hA rfl ?_
    intro _ _
    repeat (refine Plan.fieldC rfl rfl rfl rfl (by first | exact Tryz.underlying40 | exact Tryz.underlying38) rfl (by kernel_rfl) (by exact (rfl : _ = 1)) ?_)
    refine Plan.storeC (key := 1000) (q := 2) rfl rfl rfl rfl rfl rfl (by simp [Value.cells, Value.oneCell', str]) (by kernel_rfl) rfl hA rfl (obj_pat1 (Nat.le_of_ble_eq_true rfl)) ?_
    repeat (fail)
    exact Nrm.mid () trivial (Weak.cons rfl (Sub.refl _) (Weak.cons rfl (Sub.refl _) (Weak.cons rfl (Sub.refl _) (Weak.cons rfl (Sub.refl _) (Weak.cons rfl (Sub.of_eq rfl) Weak.nil)))))
  refine J.seqMid (σ := Unit) (fun _ => opM (fun b => F b ∨ w1.heap.size ≤ b) β α γ δ v (oK l s) (oField l s).2 (opL (oK l s) (oKey l s).1 (oField l s).1 [] 0 0 0)) (fun _ => True) ?_ fun _ _ => ?_
  · repeat (first | refine Plan.fieldC rfl rfl rfl rfl (by first | exact Tryz.underlying40 | exact Tryz.underlying135) rfl (by kernel_rfl) (by exact (rfl : _ = 0)) ?_ | refine J.seq (J.region mixed hI (by kernel_rfl) ?_))
    refine Plan.loadC (key := 1000) (q := 3) rfl rfl rfl rfl rfl rfl (obj_reads1 rfl) Tryz.underlying4 rfl (by decide) ?_
    refine J.condD rfl (fun hf => ?_) (fun hf => ?_)
    · have hy : oField l s = _ := if_pos hf
      repeat (first | refine Plan.move rfl rfl rfl rfl ?_ | refine J.region mixed hI (by kernel_rfl) ?_)
      refine Plan.callC (key := 1000) (q := 0) rfl rfl rfl (text_fn hv hβ (oKey_ok hs).1 hl) Tryz.func104 rfl rfl (by intro _ e; cases e; decide) (by repeat (first | exact Opnds.nil | refine Opnds.cons rfl (by exact Sub.exIn hbe) ?_)) rfl hA rfl ?_
      intro _ _
      repeat (refine Plan.fieldC rfl rfl rfl rfl (by first | exact Tryz.underlying40 | exact Tryz.underlying38) rfl (by kernel_rfl) (by exact (rfl : _ = 2)) ?_)
      refine Plan.storeC (key := 1000) (q := 2) rfl rfl rfl rfl rfl rfl (by simp [Value.cells, Value.oneCell', str]) (by kernel_rfl) rfl hA rfl (obj_pat1 (Nat.le_of_ble_eq_true rfl)) ?_
      repeat (fail)
      exact Nrm.mid () trivial (Weak.cons rfl (Sub.refl _) (Weak.cons rfl (Sub.refl _) (Weak.cons rfl (Sub.refl _) (Weak.cons rfl (Sub.refl _) (Weak.cons rfl (Sub.of_eq (by rw [hy] <;> rfl)) Weak.nil)))))
    · have hn : oField l s = _ := if_neg hf
      refine J.skip ?_
      exact Nrm.mid () trivial (Weak.cons rfl (Sub.refl _) (Weak.cons rfl (Sub.refl _) (Weak.cons rfl (Sub.refl _) (Weak.cons rfl (Sub.refl _) (Weak.cons rfl (Sub.of_eq (by rw [hn] <;> rfl)) Weak.nil)))))
  refine J.seqMid (σ := Unit) (fun _ => opM (fun b => F b ∨ w1.heap.size ≤ b) β α γ δ v (oK l s) (oValue l s).2 (opL (oK l s) (oKey l s).1 (oField l s).1 (oValue l s).1 0 0 0)) (fun _ => True) ?_ fun _ _ => ?_
  · repeat (first | refine Plan.fieldC rfl rfl rfl rfl (by first | exact Tryz.underlying40 | exact Tryz.underlying135) rfl (by kernel_rfl) (by exact (rfl : _ = 1)) ?_ | refine J.seq (J.region mixed hI (by kernel_rfl) ?_))
    refine Plan.loadC (key := 1000) (q := 3) rfl rfl rfl rfl rfl rfl (obj_reads1 rfl) Tryz.underlying4 rfl (by decide) ?_
    refine J.condD rfl (fun hf => ?_) (fun hf => ?_)
    · have hy : oValue l s = _ := if_pos hf
      repeat (first | refine Plan.move rfl rfl rfl rfl ?_ | refine J.region mixed hI (by kernel_rfl) ?_)
      refine Plan.callC (key := 1000) (q := 0) rfl rfl rfl (text_fn hv hβ (oField_ok hs).1 hl) Tryz.func104 rfl rfl (by intro _ e; cases e; decide) (by repeat (first | exact Opnds.nil | refine Opnds.cons rfl (by exact Sub.exIn hbe) ?_)) rfl hA rfl ?_
      intro _ _
      repeat (refine Plan.fieldC rfl rfl rfl rfl (by first | exact Tryz.underlying40 | exact Tryz.underlying38) rfl (by kernel_rfl) (by exact (rfl : _ = 3)) ?_)
      refine Plan.storeC (key := 1000) (q := 2) rfl rfl rfl rfl rfl rfl (by simp [Value.cells, Value.oneCell', str]) (by kernel_rfl) rfl hA rfl (obj_pat1 (Nat.le_of_ble_eq_true rfl)) ?_
      repeat (fail)
      exact Nrm.mid () trivial (Weak.cons rfl (Sub.refl _) (Weak.cons rfl (Sub.refl _) (Weak.cons rfl (Sub.refl _) (Weak.cons rfl (Sub.refl _) (Weak.cons rfl (Sub.of_eq (by rw [hy] <;> rfl)) Weak.nil)))))
    · have hn : oValue l s = _ := if_neg hf
      refine J.skip ?_
      exact Nrm.mid () trivial (Weak.cons rfl (Sub.refl _) (Weak.cons rfl (Sub.refl _) (Weak.cons rfl (Sub.refl _) (Weak.cons rfl (Sub.refl _) (Weak.cons rfl (Sub.of_eq (by rw [hn] <;> rfl)) Weak.nil)))))
  refine J.seqMid (σ := Unit) (fun _ => opM (fun b => F b ∨ w1.heap.size ≤ b) β α γ δ v (oK l s) (oNum l s).2 (opL (oK l s) (oKey l s).1 (oField l s).1 (oValue l s).1 (oNum l s).1 0 0)) (fun _ => True) ?_ fun _ _ => ?_
  · repeat (first | refine Plan.fieldC rfl rfl rfl rfl (by first | exact Tryz.underlying40 | exact Tryz.underlying135) rfl (by kernel_rfl) (by exact (rfl : _ = 2)) ?_ | refine J.seq (J.region mixed hI (by kernel_rfl) ?_))
    refine Plan.loadC (key := 1000) (q := 3) rfl rfl rfl rfl rfl rfl (obj_reads1 rfl) Tryz.underlying4 rfl (by decide) ?_
    refine J.condD rfl (fun hf => ?_) (fun hf => ?_)
    · have hy : oNum l s = _ := if_pos hf
      repeat (first | refine Plan.move rfl rfl rfl rfl ?_ | refine J.region mixed hI (by kernel_rfl) ?_)
      refine Plan.callC (key := 1000) (q := 0) rfl rfl rfl (signed_fn hv hβ (oValue_ok hs).1 hl) Tryz.func105 rfl rfl (by intro _ e; cases e; decide) (by repeat (first | exact Opnds.nil | refine Opnds.cons rfl (by exact Sub.exIn hbe) ?_)) rfl hA rfl ?_
      intro _ _
      repeat (refine Plan.fieldC rfl rfl rfl rfl (by first | exact Tryz.underlying40 | exact Tryz.underlying38) rfl (by kernel_rfl) (by exact (rfl : _ = 4)) ?_)
      refine Plan.storeC (key := 1000) (q := 2) rfl rfl rfl rfl rfl rfl (by simp [Value.cells, Value.oneCell', str]) (by kernel_rfl) rfl hA rfl (obj_pat1 (Nat.le_of_ble_eq_true rfl)) ?_
      repeat (fail)
      exact Nrm.mid () trivial (Weak.cons rfl (Sub.refl _) (Weak.cons rfl (Sub.refl _) (Weak.cons rfl (Sub.refl _) (Weak.cons rfl (Sub.refl _) (Weak.cons rfl (Sub.of_eq (by rw [hy] <;> rfl)) Weak.nil)))))
    · have hn : oNum l s = _ := if_neg hf
      refine J.skip ?_
      exact Nrm.mid () trivial (Weak.cons rfl (Sub.refl _) (Weak.cons rfl (Sub.refl _) (Weak.cons rfl (Sub.refl _) (Weak.cons rfl (Sub.refl _) (Weak.cons rfl (Sub.of_eq (by rw [hn] <;> rfl)) Weak.nil)))))
  refine J.seqMid (σ := Unit) (fun _ => opM (fun b => F b ∨ w1.heap.size ≤ b) β α γ δ v (oK l s) (oRN l s).2 (opL (oK l s) (oKey l s).1 (oField l s).1 (oValue l s).1 (oNum l s).1 (oRR l s).1 (oRN l s).1)) (fun _ => True) ?_ fun _ _ => ?_
  · repeat (first | refine Plan.fieldC rfl rfl rfl rfl (by first | exact Tryz.underlying40 | exact Tryz.underlying135) rfl (by kernel_rfl) (by exact (rfl : _ = 3)) ?_ | refine J.seq (J.region mixed hI (by kernel_rfl) ?_))
    refine Plan.loadC (key := 1000) (q := 3) rfl rfl rfl rfl rfl rfl (obj_reads1 rfl) Tryz.underlying4 rfl (by decide) ?_
    refine J.condD rfl (fun hf => ?_) (fun hf => ?_)
    · have hy1 : oRR l s = _ := if_pos hf
      have hy2 : oRN l s = _ := if_pos hf
      have okr := (oRR_ok hs).1
      rw [hy1] at hy2 okr
      repeat (first | refine Plan.move rfl rfl rfl rfl ?_ | refine J.seq (J.region mixed hI (by kernel_rfl) ?_))
      refine Plan.callC (key := 1000) (q := 0) rfl rfl rfl (number_fn hv hβ (oNum_ok hs).1 hl) Tryz.func77 rfl rfl (by intro _ e; cases e; decide) (by repeat (first | exact Opnds.nil | refine Opnds.cons rfl (by exact Sub.exIn hbe) ?_)) rfl hA rfl ?_
      intro _ _
      repeat (refine Plan.fieldC rfl rfl rfl rfl (by first | exact Tryz.underlying40 | exact Tryz.underlying38 | exact Tryz.underlying34) rfl (by kernel_rfl) (by exact (rfl : _ = 5)) ?_)
      refine Plan.storeC (key := 1000) (q := 2) rfl rfl rfl rfl rfl rfl (by simp [Value.cells, Value.oneCell', str]) (by kernel_rfl) rfl hA rfl (obj_pat1 (Nat.le_of_ble_eq_true rfl)) ?_
      repeat (first | refine Plan.move rfl rfl rfl rfl ?_ | refine J.region mixed hI (by kernel_rfl) ?_)
      refine Plan.callC (key := 1000) (q := 0) rfl rfl rfl (number_fn hv hβ okr hl) Tryz.func77 rfl rfl (by intro _ e; cases e; decide) (by repeat (first | exact Opnds.nil | refine Opnds.cons rfl (by exact Sub.exIn hbe) ?_)) rfl hA rfl ?_
      intro _ _
      repeat (refine Plan.fieldC rfl rfl rfl rfl (by first | exact Tryz.underlying40 | exact Tryz.underlying38 | exact Tryz.underlying34) rfl (by kernel_rfl) (by first | exact (rfl : _ = 5) | exact (rfl : _ = 6)) ?_)
      refine Plan.storeC (key := 1000) (q := 2) rfl rfl rfl rfl rfl rfl (by simp [Value.cells, Value.oneCell', str]) (by kernel_rfl) rfl hA rfl (obj_pat1 (Nat.le_of_ble_eq_true rfl)) ?_
      repeat (fail)
      exact Nrm.mid () trivial (Weak.cons rfl (Sub.refl _) (Weak.cons rfl (Sub.refl _) (Weak.cons rfl (Sub.refl _) (Weak.cons rfl (Sub.refl _) (Weak.cons rfl (Sub.of_eq (by rw [hy2, hy1] <;> rfl)) Weak.nil)))))
    · have hn1 : oRR l s = _ := if_neg hf
      have hn2 : oRN l s = _ := if_neg hf
      rw [hn1] at hn2
      refine J.skip ?_
      exact Nrm.mid () trivial (Weak.cons rfl (Sub.refl _) (Weak.cons rfl (Sub.refl _) (Weak.cons rfl (Sub.refl _) (Weak.cons rfl (Sub.refl _) (Weak.cons rfl (Sub.of_eq (by rw [hn2, hn1] <;> rfl)) Weak.nil)))))
  repeat (refine J.seq (J.region mixed hI (by kernel_rfl) ?_))
  refine Plan.loadAggC (key := 1000) (q := 2) (vs := opV l s) rfl rfl rfl rfl rfl rfl obj_whole Tryz.underlying38 rfl (by kernel_rfl) (by decide) ?_
  refine Plan.storeC (key := 1000) (q := 1) (off := 0) rfl rfl rfl rfl rfl rfl (by simp [Value.cells, Value.oneCell', opV, opL, str]) (by show _ = some (opV l s).toArray.size; kernel_rfl) rfl hA rfl (obj_pat (Nat.le_of_ble_eq_true rfl)) ?_
  repeat (fail)
  exact J.ret (Nrm.retCc (key := 1000) (q := 1) () rfl rfl rfl rfl obj_whole Tryz.underlying38 rfl (by kernel_rfl) trivial rfl Ent.left)
end Go.Proofs.YtmljgobenlpnfaaGreat
end

section
namespace Go.Proofs.YtmljgobenlpnfaaGreat
open Go.Free Go.RowKit Go.Proofs
set_option maxHeartbeats 4000000
theorem enc_set (e : EvV) {i : Nat} (h : i < 16) (x : Int) : e.enc.set (3 + i) (vi x) = (EvV.mk e.r e.n e.time (fun j => if j = i then x else e.d j) e.kind e.key e.field e.value e.num e.rr e.rn).enc := by
  match i, h with
  | 0, _ => rfl | 1, _ => rfl | 2, _ => rfl | 3, _ => rfl | 4, _ => rfl | 5, _ => rfl | 6, _ => rfl | 7, _ => rfl
  | 8, _ => rfl | 9, _ => rfl | 10, _ => rfl | 11, _ => rfl | 12, _ => rfl | 13, _ => rfl | 14, _ => rfl | 15, _ => rfl
  | _ + 16, h => exact absurd h (by omega)
def eD (l : List UInt8) (i : Nat) : EvV := ⟨nV l 0, nV l 1, nV l 2, fun j => if j < i then nV l (3 + j) else 0, 0, [], [], [], 0, 0, 0⟩
theorem eD_succ (l : List UInt8) {i : Nat} (h : i < 16) : (eD l i).enc.set (3 + i) (vi (nV l (3 + i))) = (eD l (i + 1)).enc := by
  rw [enc_set _ h]
  have : (fun j => if j = i then nV l (3 + i) else if j < i then nV l (3 + j) else 0) = fun j => if j < i + 1 then nV l (3 + j) else 0 := by
    funext j
    by_cases hj : j = i
    · subst hj; simp
    · simp only [if_neg hj]
      by_cases hlt : j < i
      · rw [if_pos hlt, if_pos (by omega)]
      · rw [if_neg hlt, if_neg (by omega)]
  simp only [eD, this]
theorem enc_op (l : List UInt8) (s : RS) : (eD l 16).enc.take 19 ++ opV l s ++ (eD l 16).enc.drop 26 = (decW l s).enc := rfl
def decM (w0 : World) (u : Value) (α β γ : Nat) (l : List UInt8) (s : RS) (cs : List Value) : Env := [(0, .ex u), (2, .ex (ptr α)), (4, .ex (ptr β)), (5, .ex (ptr γ)), (1000, heap (newB w0) [obj α ev0.enc, rdC β u s, obj γ cs])]
def decLp (w0 : World) (u : Value) (α β γ : Nat) (l : List UInt8) (t i : Nat) : Env := [(0, .ex u), (2, .ex (ptr α)), (4, .ex (ptr β)), (5, .ex (ptr γ)), (t, .ex (vi i)), (1000, heap (newB w0) [obj α ev0.enc, rdC β u (nS l (3 + i)), obj γ (eD l i).enc])]
theorem row_slice {l : List UInt8} {w : World} {u : Value} (h : (bytesF l).den w u) : ∃ A c, u = .slice A l.length c := by
  obtain ⟨A, n, c, rfl, _, _, h3, _⟩ := h
  rw [bs_length, Nat.mul_one] at h3
  exact ⟨A, c, by rw [h3]⟩
theorem dec_cases (l : List UInt8) : ((decS l).2 ≠ 0 → decE l = (decS l).2) ∧ ((decS l).2 = 0 → ((decS l).1 ≠ l.length ∨ ¬ rightP (decV l)) → decE l = 3) ∧ ((decS l).2 = 0 → (decS l).1 = l.length → rightP (decV l) → decE l = 0) ∧ (decE l ≠ 0 → decR l = ev0) ∧ (decE l = 0 → decR l = decV l) := by
  refine ⟨fun h => if_pos h, fun h h2 => ?_, fun h h2 h3 => ?_, fun h => if_pos h, fun h => if_neg (fun hh => hh h)⟩
  · unfold decE; rw [if_neg (fun hh => hh h), if_pos h2]
  · unfold decE; rw [if_neg (fun hh => hh h), if_neg (by rintro (hh | hh); exact hh h2; exact hh h3)]
theorem decode_fn (l : List UInt8) (hl : l.length ≤ 9223372036854775807) : Spc Tryz.prog 53 [bytesF l] fun _ => .tup [.ex (aggE (decR l)), .ex (vi (decE l))] := by
  refine Spc.intro Tryz.func53 rfl (Nat.le_of_ble_eq_true rfl) fun w0 => ?_
  have hI := hIb w0
  have hA := Own.below w0
  have hbe : ∀ w, Below w0.heap.size w0 w → Below w0.heap.size w0 w := fun _ h => h
  refine J.heap0 1000 (newB w0) ?_
  refine J.nameOld (t := 0) rfl fun u hv => ?_
  obtain ⟨uA, uc, hu⟩ := row_slice hv
  repeat (refine J.seq (J.region mixed hI (by kernel_rfl) ?_))
  refine Plan.allocC (key := 1000) (z := .agg ev0.enc.toArray) rfl rfl rfl (by intro _ e; cases e; decide) (by kernel_rfl) rfl hA fun α => ?_
  repeat (first | refine Plan.move rfl rfl rfl rfl ?_ | refine Plan.assign rfl rfl rfl rfl ?_ | refine J.seq (J.region mixed hI (by kernel_rfl) ?_))
  subst hu
  refine Plan.build (cells := #[.slice uA l.length uc, vi 0, vi 0]) rfl rfl (ps := [(0, _)]) rfl (Parts.cons rfl Parts.nil) (by kernel_rfl) ?_
  refine Plan.boxC (key := 1000) rfl rfl rfl (by intro _ e; cases e; decide) rfl rfl hA fun β => ?_
  repeat (first | refine Plan.assign rfl rfl rfl rfl ?_ | refine J.seq (J.region mixed hI (by kernel_rfl) ?_))
  refine Plan.allocC (key := 1000) (z := .agg ev0.enc.toArray) rfl rfl rfl (by intro _ e; cases e; decide) (by kernel_rfl) rfl hA fun γ => ?_
  refine J.inA (key := 1000) (q := 1) (β := β) rfl rfl obj_in fun hβ => ?_
  repeat (first | refine Plan.move rfl rfl rfl rfl ?_ | refine J.seq (J.region mixed hI (by kernel_rfl) ?_))
  refine Plan.callC (key := 1000) (q := 1) rfl rfl rfl (number_fn hv hβ (nS_ok l 0) hl) Tryz.func77 rfl rfl (by intro _ e; cases e; decide) (by repeat (first | exact Opnds.nil | refine Opnds.cons rfl (by exact Sub.exIn hbe) ?_)) rfl hA rfl ?_
  intro _ _
  repeat (refine Plan.fieldC rfl rfl rfl rfl (by first | exact Tryz.underlying40 | exact Tryz.underlying34) rfl (by kernel_rfl) (by exact (rfl : _ = 0)) ?_)
  refine Plan.storeC (key := 1000) (q := 2) rfl rfl rfl rfl rfl rfl (by simp [Value.cells, Value.oneCell', str]) (by kernel_rfl) rfl hA rfl (obj_pat1 (Nat.le_of_ble_eq_true rfl)) ?_
  repeat (first | refine Plan.move rfl rfl rfl rfl ?_ | refine J.seq (J.region mixed hI (by kernel_rfl) ?_))
  refine Plan.callC (key := 1000) (q := 1) rfl rfl rfl (number_fn hv hβ (nS_ok l 1) hl) Tryz.func77 rfl rfl (by intro _ e; cases e; decide) (by repeat (first | exact Opnds.nil | refine Opnds.cons rfl (by exact Sub.exIn hbe) ?_)) rfl hA rfl ?_
  intro _ _
  repeat (refine Plan.fieldC rfl rfl rfl rfl (by first | exact Tryz.underlying40 | exact Tryz.underlying34) rfl (by kernel_rfl) (by first | exact (rfl : _ = 0) | exact (rfl : _ = 1)) ?_)
  refine Plan.storeC (key := 1000) (q := 2) rfl rfl rfl rfl rfl rfl (by simp [Value.cells, Value.oneCell', str]) (by kernel_rfl) rfl hA rfl (obj_pat1 (Nat.le_of_ble_eq_true rfl)) ?_
  repeat (first | refine Plan.move rfl rfl rfl rfl ?_ | refine J.seq (J.region mixed hI (by kernel_rfl) ?_))
  refine Plan.callC (key := 1000) (q := 1) rfl rfl rfl (number_fn hv hβ (nS_ok l 2) hl) Tryz.func77 rfl rfl (by intro _ e; cases e; decide) (by repeat (first | exact Opnds.nil | refine Opnds.cons rfl (by exact Sub.exIn hbe) ?_)) rfl hA rfl ?_
  intro _ _
  repeat (refine Plan.fieldC rfl rfl rfl rfl (by exact Tryz.underlying40) rfl (by kernel_rfl) (by exact (rfl : _ = 2)) ?_)
  refine Plan.storeC (key := 1000) (q := 2) rfl rfl rfl rfl rfl rfl (by simp [Value.cells, Value.oneCell', str]) (by kernel_rfl) rfl hA rfl (obj_pat1 (Nat.le_of_ble_eq_true rfl)) ?_
  repeat (first | refine Plan.move rfl rfl rfl rfl ?_ | refine J.seq (J.seq (J.region mixed hI (by kernel_rfl) ?_)))
  refine J.block (J.loop (decLp w0 (.slice uA l.length uc) α β γ l 21) (fun i => i ≤ 16) (fun i => 16 - i) 0 (Nat.zero_le _) (Weak.cons rfl (Sub.refl _) (Weak.cons rfl (Sub.refl _) (Weak.cons rfl (Sub.refl _) (Weak.cons rfl (Sub.refl _) (Weak.cons rfl (Sub.refl _) (Weak.cons rfl (Sub.refl _) Weak.nil)))))) ?_)
  intro i hi
  repeat (first | (refine Plan.ints rfl rfl rfl rfl rfl rfl ?_; (skip)) | refine J.seq (J.region mixed hI (by kernel_rfl) ?_))
  refine J.seq (J.condD rfl (fun hlt => ?_) (fun hlt => ?_))
  · have hlt' : i < 16 := by omega
    repeat (refine J.skip ?_)
    refine J.seq (J.block ?_)
    repeat (first | refine Plan.move rfl rfl rfl rfl ?_ | refine Plan.assign rfl rfl rfl rfl ?_ | refine J.seq (J.region mixed hI (by kernel_rfl) ?_) | refine J.region mixed hI (by kernel_rfl) ?_)
    refine Plan.callC (key := 1000) (q := 1) rfl rfl rfl (number_fn hv hβ (nS_ok l (3 + i)) hl) Tryz.func77 rfl rfl (by intro _ e; cases e; decide) (by repeat (first | exact Opnds.nil | refine Opnds.cons rfl (by exact Sub.exIn hbe) ?_)) rfl hA rfl ?_
    intro _ _
    repeat (refine Plan.fieldC rfl rfl rfl rfl (by exact Tryz.underlying40) rfl (by kernel_rfl) (by exact (rfl : _ = 3)) ?_)
    refine Plan.indexArr (off := 3 + i) (len := 16) (sz := 1) rfl rfl rfl rfl rfl Tryz.underlying36 (by kernel_rfl) (by omega) (by omega) (by simp) ?_
    refine Plan.storeC (key := 1000) (q := 2) rfl rfl rfl rfl rfl rfl (by simp [Value.cells, Value.oneCell', str]) (by kernel_rfl) rfl hA rfl (obj_pat1 (by show 3 + i < 26; omega)) ?_
    repeat (first | refine Plan.move rfl rfl rfl rfl ?_ | (refine Plan.ints rfl rfl rfl rfl rfl rfl ?_; (refine Plan.int (i64r (by omega)) ?_)) | refine J.region mixed hI (by kernel_rfl) ?_)
    refine Plan.int (y := ((i + 1 : Nat) : Int)) (by omega) ?_
    repeat (fail)
    refine Nrm.next (i + 1) (by omega) (by omega) ?_
    exact (Weak.cons rfl (Sub.refl _) (Weak.cons rfl (Sub.refl _) (Weak.cons rfl (Sub.refl _) (Weak.cons rfl (Sub.refl _) (Weak.cons rfl (Sub.refl _) (Weak.cons rfl (Sub.of_eq (by rw [← eD_succ l hlt'] <;> rfl)) Weak.nil))))))
  have hie : i = 16 := by omega
  subst hie
  obtain ⟨s, hs⟩ : ∃ s, nS l 19 = s := ⟨_, rfl⟩
  have h19 : nS l (3 + 16) = s := (congrArg (nS l) (show 3 + 16 = 19 from by decide)).trans hs
  have okl : okS l s := by rw [← hs]; exact nS_ok l _
  refine J.exit (Nrm.weak (decM w0 (.slice uA l.length uc) α β γ l s (eD l 16).enc) (Weak.cons rfl (Sub.refl _) (Weak.cons rfl (Sub.refl _) (Weak.cons rfl (Sub.refl _) (Weak.cons rfl (Sub.refl _) (Weak.cons rfl (Sub.of_eq (by rw [h19])) Weak.nil))))) ?_)
  refine J.seqMid (σ := Unit) (fun _ => decM w0 (.slice uA l.length uc) α β γ l (oRN l s).2 (decW l s).enc) (fun _ => True) ?_ fun _ _ => ?_
  · repeat (first | refine Plan.move rfl rfl rfl rfl ?_ | refine J.region mixed hI (by kernel_rfl) ?_)
    refine Plan.callC (key := 1000) (q := 1) rfl rfl rfl (op_fn hv hβ okl hl) Tryz.func78 rfl rfl (by intro _ e; cases e; decide) (by repeat (first | exact Opnds.nil | refine Opnds.cons rfl (by exact Sub.exIn hbe) ?_)) rfl hA rfl ?_
    intro _ _
    repeat (refine Plan.fieldC rfl rfl rfl rfl (by exact Tryz.underlying40) rfl (by kernel_rfl) (by exact (rfl : _ = 19)) ?_)
    refine Plan.storeC (key := 1000) (q := 2) rfl rfl rfl rfl rfl rfl (by simp [Value.cells, Value.oneCell', opV, opL, str]) (by show _ = some (opV l s).toArray.size; kernel_rfl) rfl hA rfl (obj_pat (Nat.le_of_ble_eq_true rfl)) ?_
    exact Nrm.mid () trivial (Weak.cons rfl (Sub.refl _) (Weak.cons rfl (Sub.refl _) (Weak.cons rfl (Sub.refl _) (Weak.cons rfl (Sub.refl _) (Weak.cons rfl (Sub.of_eq (by rw [← enc_op l s] <;> rfl)) Weak.nil)))))
  have e1 : (oRN l s).2 = decS l := by rw [decS, hs]
  have e2 : decW l s = decV l := by rw [decV, hs]
  have okW := decV_ok l
  obtain ⟨hE1, hE2, hE3, hR1, hR2⟩ := dec_cases l
  rw [e1, e2]
  generalize decS l = fs at hE1 hE2 hE3 hR1 hR2 ⊢
  generalize decV l = W at okW hE2 hE3 hR1 hR2 ⊢
  generalize decE l = xE at hE1 hE2 hE3 hR1 hR2 ⊢
  generalize decR l = xR at hR1 hR2 ⊢
  clear e1 e2
  refine J.seq (J.block ?_)
  repeat (first | refine Plan.move rfl rfl rfl rfl ?_ | refine Plan.assign rfl rfl rfl rfl ?_ | (refine Plan.ints rfl rfl rfl rfl rfl rfl ?_; (skip)) | refine Plan.nilOk rfl rfl rfl rfl ?_ | refine Plan.fieldC rfl rfl rfl rfl (by first | exact Tryz.underlying40 | exact Tryz.underlying132) rfl (by kernel_rfl) (by exact (rfl : _ = 2)) ?_ | refine Plan.loadC (key := 1000) (q := 1) rfl rfl rfl rfl rfl rfl (obj_reads1 rfl) (by exact Tryz.underlying3) (by rfl) (by decide) ?_ | refine J.seq (J.region mixed hI (by kernel_rfl) ?_))
  refine J.condN rfl (fun he => ?_) (fun he => ?_)
  · have hE : xE = fs.2 := hE1 (by omega)
    have hR : xR = ev0 := hR1 (by omega)
    rw [hR, hE]
    refine J.seq ?_
    refine J.draw mixed hI ?_; repeat' (first | refine Plan.move rfl rfl rfl rfl ?_ | refine Plan.assign rfl rfl rfl rfl ?_ | refine Plan.nilOk rfl rfl rfl rfl ?_ | refine Plan.fieldC rfl rfl rfl rfl (by first | exact Tryz.underlying40 | exact Tryz.underlying132) rfl (by kernel_rfl) (by exact (rfl : _ = 2)) ?_ | refine Plan.loadC (key := 1000) (q := 1) rfl rfl rfl rfl rfl rfl (obj_reads1 rfl) (by exact Tryz.underlying3) (by rfl) (by decide) ?_ | refine Plan.build (cells := ev0.enc.toArray) rfl rfl (ps := []) rfl Parts.nil (by kernel_rfl) ?_ | refine Plan.storeC (key := 1000) (q := 0) (off := 0) rfl rfl rfl rfl rfl rfl (by simp [Value.cells, Value.oneCell', ev0, EvV.enc, str]) (by show _ = some ev0.enc.toArray.size; kernel_rfl) rfl hA rfl (obj_pat (Nat.le_of_ble_eq_true rfl)) ?_ | refine D.go (D.two 0 2 (by decide +kernel) (by kernel_rfl) hI ?_ ?_) | refine D.go (D.two 0 3 (by decide +kernel) (by kernel_rfl) hI ?_ ?_) | refine D.go (D.two 0 4 (by decide +kernel) (by kernel_rfl) hI ?_ ?_) | refine D.go (D.two 1 5 (by decide +kernel) (by kernel_rfl) hI ?_ ?_) | refine D.go (D.two 2 5 (by decide +kernel) (by kernel_rfl) hI ?_ ?_) | refine D.go (D.two 3 5 (by decide +kernel) (by kernel_rfl) hI ?_ ?_) | refine D.go (D.two 4 5 (by decide +kernel) (by kernel_rfl) hI ?_ ?_) | refine D.go (D.one 0 (by decide +kernel) (by kernel_rfl) hI ?_) | refine D.go (D.one 5 (by decide +kernel) (by kernel_rfl) hI ?_) | refine D.go (D.one 1 (by decide +kernel) (by kernel_rfl) hI ?_) | refine D.go (D.one 2 (by decide +kernel) (by kernel_rfl) hI ?_) | refine D.go (D.one 3 (by decide +kernel) (by kernel_rfl) hI ?_) | refine D.go (D.one 4 (by decide +kernel) (by kernel_rfl) hI ?_) | refine D.go (D.one 6 (by decide +kernel) (by kernel_rfl) hI ?_) | refine D.go (D.done (by decide +kernel) ?_) | refine (D.two 0 1 (by decide +kernel) (by kernel_rfl) hI ?_ ?_))
    all_goals exact J.ret (Nrm.retCT (key := 1000) (q := 0) rfl (fun _ h => h) rfl rfl rfl obj_whole Tryz.underlying40 rfl (by kernel_rfl) fun B _ => ⟨_, _, rfl, rfl, Sub.refl _⟩)
  have he' : fs.2 = 0 := by omega
  repeat (first | refine Plan.move rfl rfl rfl rfl ?_ | refine Plan.lenE rfl rfl rfl rfl Tryz.underlying56 ?_ | (refine Plan.ints rfl rfl rfl rfl rfl rfl ?_; (skip)) | refine Plan.nilOk rfl rfl rfl rfl ?_ | refine Plan.fieldC rfl rfl rfl rfl (by first | exact Tryz.underlying40 | exact Tryz.underlying132) rfl (by kernel_rfl) (by exact (rfl : _ = 1)) ?_ | refine Plan.loadC (key := 1000) (q := 1) rfl rfl rfl rfl rfl rfl (obj_reads1 rfl) (by exact Tryz.underlying3) (by rfl) (by decide) ?_ | refine J.seq (J.region mixed hI (by kernel_rfl) ?_))
  refine Plan.splitN (fun h1 => ?_) (fun h1 => ?_)
  · have hE : xE = 3 := hE2 he' (.inl (by omega))
    have hR : xR = ev0 := hR1 (by omega)
    rw [hR, hE]
    repeat (first | refine Plan.assign rfl rfl rfl rfl ?_ | refine Plan.skip rfl rfl ?_ | refine Plan.pick rfl rfl rfl rfl rfl ?_ | refine J.seq (J.region mixed hI (by kernel_rfl) ?_) | refine J.condT rfl ?_)
    refine Plan.build (cells := ev0.enc.toArray) rfl rfl (ps := []) rfl Parts.nil (by kernel_rfl) ?_
    refine Plan.storeC (key := 1000) (q := 0) (off := 0) rfl rfl rfl rfl rfl rfl (by simp [Value.cells, Value.oneCell', ev0, EvV.enc, str]) (by show _ = some ev0.enc.toArray.size; kernel_rfl) rfl hA rfl (obj_pat (Nat.le_of_ble_eq_true rfl)) ?_
    repeat (refine Plan.assign rfl rfl rfl rfl ?_)
    exact J.ret (Nrm.retCT (key := 1000) (q := 0) rfl (fun _ h => h) rfl rfl rfl obj_whole Tryz.underlying40 rfl (by kernel_rfl) fun B _ => ⟨_, _, rfl, rfl, Sub.refl _⟩)
  repeat (fail)
  refine Plan.loadAggC (key := 1000) (q := 2) (vs := W.enc) rfl rfl rfl rfl rfl rfl obj_whole Tryz.underlying40 rfl (by rw [encE]; kernel_rfl) (by decide) ?_
  refine Plan.call (B := w0.heap.size) rfl rfl rfl (right_fn W okW) Tryz.func24 rfl rfl (hBb w0) (by repeat (first | exact Opnds.nil | refine Opnds.cons rfl (by exact Sub.refl _) ?_)) ?_
  repeat (first | refine Plan.assign rfl rfl rfl rfl ?_ | refine Plan.pick rfl rfl rfl rfl rfl ?_ | refine Plan.un rfl rfl rfl rfl rfl ?_)
  refine J.condND rfl (fun hr => ?_) (fun hr => ?_)
  · have hE : xE = 3 := hE2 he' (.inr hr)
    have hR : xR = ev0 := hR1 (by omega)
    rw [hR, hE]
    repeat (refine J.seq (J.region mixed hI (by kernel_rfl) ?_))
    refine Plan.build (cells := ev0.enc.toArray) rfl rfl (ps := []) rfl Parts.nil (by kernel_rfl) ?_
    refine Plan.storeC (key := 1000) (q := 0) (off := 0) rfl rfl rfl rfl rfl rfl (by simp [Value.cells, Value.oneCell', ev0, EvV.enc, str]) (by show _ = some ev0.enc.toArray.size; kernel_rfl) rfl hA rfl (obj_pat (Nat.le_of_ble_eq_true rfl)) ?_
    repeat (refine Plan.assign rfl rfl rfl rfl ?_)
    exact J.ret (Nrm.retCT (key := 1000) (q := 0) rfl (fun _ h => h) rfl rfl rfl obj_whole Tryz.underlying40 rfl (by kernel_rfl) fun B _ => ⟨_, _, rfl, rfl, Sub.refl _⟩)
  · have hE : xE = 0 := hE3 he' (by omega) hr
    have hR : xR = W := hR2 hE
    rw [hR, hE]
    repeat (first | refine J.seq (J.region mixed hI (by kernel_rfl) ?_) | refine J.skip ?_)
    refine Plan.loadAggC (key := 1000) (q := 2) (vs := W.enc) rfl rfl rfl rfl rfl rfl obj_whole Tryz.underlying40 rfl (by rw [encE]; kernel_rfl) (by decide) ?_
    refine Plan.storeC (key := 1000) (q := 0) (off := 0) rfl rfl rfl rfl rfl rfl (by simp [Value.cells, Value.oneCell', ev0, EvV.enc, str]) (by show _ = some W.enc.toArray.size; kernel_rfl) rfl hA rfl (obj_pat (Nat.le_of_ble_eq_true rfl)) ?_
    repeat (refine Plan.assign rfl rfl rfl rfl ?_)
    exact J.ret (Nrm.retCT (key := 1000) (q := 0) rfl (fun _ h => h) rfl rfl rfl obj_whole Tryz.underlying40 rfl (by kernel_rfl) fun B _ => ⟨_, _, rfl, rfl, Sub.refl _⟩)
end Go.Proofs.YtmljgobenlpnfaaGreat
end

section
namespace Go.Proofs.YtmljgobenlpnfaaGreat
open Go.Free Go.RowKit Go.Proofs
set_option maxHeartbeats 2000000
abbrev rowB (B : Option Addr) (cap : Nat) (l : List UInt8) : Chunk := rowC 5 1 B l.length cap (bs l)
def diskC (β : Nat) (l : List UInt8) (f r : Nat) : Chunk := exC fun x : Option Addr × Nat => sepC (obj β [.slice x.1 l.length x.2, .int .i64 f, .int .i64 r]) (rowB x.1 x.2 l)
theorem disk_close {β : Nat} {l : List UInt8} {f r cap : Nat} {B : Option Addr} : Ent (allC [obj β [.slice B l.length cap, .int .i64 f, .int .i64 r], rowB B cap l]) (diskC β l f r) :=
  Ent.ex (B, cap) (Ent.sep (Ent.refl _) Ent.one)
theorem disk_Room (β : Nat) (l : List UInt8) (f r : Nat) : SpcR Tryz.prog 66 [.ex (ptr β)] (diskC β l f r) fun _ => .ex (.int .i64 r) := by
  refine SpcR.intro Tryz.func66 rfl (Nat.le_of_ble_eq_true rfl) fun w0 => ?_
  have hI := hIb w0
  refine J.exC (key := 1000) (q := 0) rfl rfl fun x => ?_
  refine J.sepC (key := 1000) (q := 0) rfl rfl ?_
  repeat (first | refine Plan.move rfl rfl rfl rfl ?_ | refine Plan.assign rfl rfl rfl rfl ?_ | refine Plan.nilOk rfl rfl rfl rfl ?_ | refine Plan.fieldC rfl rfl rfl rfl (by exact Tryz.underlying58) rfl (by kernel_rfl) (by exact (rfl : _ = 2)) ?_ | refine Plan.loadC (key := 1000) (q := 0) rfl rfl rfl rfl rfl rfl (obj_reads1 rfl) (by exact Tryz.underlying3) (by rfl) (by decide) ?_ | refine Plan.eqlPtr rfl rfl rfl rfl (by kernel_rfl) ?_ | refine J.seq (J.region mixed hI (by kernel_rfl) ?_) | refine J.seq (J.seq (J.region mixed hI (by kernel_rfl) ?_)) | refine J.condF rfl ?_ | refine J.skip ?_)
  exact J.ret (Nrm.ret1 rfl (fun _ h => h) rfl fun B _ => Sub.refl _)
theorem disk_Bytes (β : Nat) (l : List UInt8) (f r : Nat) (hl : l.length ≤ 65536) : SpcR Tryz.prog 20 [.ex (ptr β)] (diskC β l f r) fun B => ownB B l := by
  refine SpcR.intro Tryz.func20 rfl (Nat.le_of_ble_eq_true rfl) fun w0 => ?_
  have hI := hIb w0
  refine J.exC (key := 1000) (q := 0) rfl rfl fun x => ?_
  refine J.sepC (key := 1000) (q := 0) rfl rfl ?_
  repeat (first | refine Plan.move rfl rfl rfl rfl ?_ | refine Plan.assign rfl rfl rfl rfl ?_ | refine J.seq (J.region mixed hI (by kernel_rfl) ?_) | refine J.seq (J.seq (J.region mixed hI (by kernel_rfl) ?_)))
  refine Plan.eqlPtr rfl rfl rfl rfl (by kernel_rfl) ?_
  repeat (first | refine Plan.move rfl rfl rfl rfl ?_ | refine J.seq (J.region mixed hI (by kernel_rfl) ?_) | refine J.condF rfl ?_ | refine J.skip ?_)
  refine Plan.nilOk rfl rfl rfl rfl ?_
  refine Plan.fieldC rfl rfl rfl rfl (by exact Tryz.underlying58) rfl (by kernel_rfl) rfl ?_
  refine Plan.loadRowC (key := 1000) (q := 0) (q2 := 1) rfl rfl rfl rfl rfl rfl (obj_reads1 rfl) rfl (by exact Tryz.underlying56) (by rfl) (by decide) ?_
  refine Plan.call (B := w0.heap.size) rfl rfl rfl (bytes_Clone l (by omega)) Tryz.func51 rfl rfl (hBb w0) (by repeat (first | exact Opnds.nil | refine Opnds.cons rfl (by exact Sub.refl _) ?_)) ?_
  repeat (refine Plan.assign rfl rfl rfl rfl ?_)
  exact J.ret (Nrm.ret1 rfl (fun _ h => h) rfl fun B hB => by first | exact Sub.refl _ | exact Sub.own | exact Sub.old (fun _ h => h) | exact Sub.oldOwn (fun _ h => h) | exact Sub.nilRow | exact Sub.ownLower hB | exact Sub.nilOwn (fun _ h => Nat.le_trans hB h.size))
end Go.Proofs.YtmljgobenlpnfaaGreat
end

section
namespace Go.Proofs.YtmljgobenlpnfaaGreat
open Go.Free Go.RowKit Go.Proofs
set_option maxHeartbeats 2000000
def clampR (r : Int) : Nat := (max 0 (min r 65536)).toNat
theorem clampR_eq (r : Int) : ((clampR r : Nat) : Int) = if (if (65536 : Int) < r then 65536 else r) > 0 then (if (65536 : Int) < r then 65536 else r) else 0 := by
  unfold clampR; split <;> split <;> omega
theorem disk_New (r : Int) : SpcC Tryz.prog 5 [.ex (.int .i64 r)] emp (fun _ : Nat => True) (fun β => .ex (ptr β)) (fun β => diskC β [] 0 (clampR r)) := by
  refine SpcC.intro Tryz.func5 rfl (Nat.le_of_ble_eq_true rfl) fun w0 F => ?_
  have hI := kept_below F w0
  have hA := Own.kept F w0
  repeat (first | refine Plan.move rfl rfl rfl rfl ?_ | refine Plan.assign rfl rfl rfl rfl ?_ | refine J.seq (J.region mixed hI (by kernel_rfl) ?_))
  refine Plan.min2 rfl rfl rfl rfl rfl ?_
  refine Plan.max2 rfl rfl rfl rfl rfl ?_
  rw [← clampR_eq]
  refine Plan.build rfl rfl rfl (Parts.cons rfl Parts.nil) (cells := #[.slice none 0 0, .int .i64 0, .int .i64 (clampR r)]) (by kernel_rfl) ?_
  refine Plan.boxC (key := 1000) rfl rfl rfl (by intro _ e; cases e; decide) rfl rfl hA fun β => ?_
  repeat (refine Plan.assign rfl rfl rfl rfl ?_)
  refine fun a w h1 h2 h3 => ?_
  refine J.nilRow (key := 1000) 5 1 rfl ?_ a w h1 h2 h3
  exact J.ret (Nrm.retC1 (key := 1000) β rfl rfl rfl trivial (Sub.refl _) (Ent.right.trans (disk_close (l := []) (cap := 0) (B := none))))
theorem disk_Sync (β : Nat) (l : List UInt8) (f r : Nat) : SpcC Tryz.prog 35 [.ex (ptr β)] (diskC β l f r) (fun _ : Unit => True) (fun _ => Fa.any) (fun _ => diskC β l l.length r) := by
  refine SpcC.intro Tryz.func35 rfl (Nat.le_of_ble_eq_true rfl) fun w0 F => ?_
  have hI := kept_below F w0
  have hA := Own.kept F w0
  refine J.exC (key := 1000) (q := 0) rfl rfl fun x => ?_
  refine J.sepC (key := 1000) (q := 0) rfl rfl ?_
  repeat (first | refine Plan.move rfl rfl rfl rfl ?_ | refine Plan.lenE rfl rfl rfl rfl Tryz.underlying56 ?_ | refine Plan.nilOk rfl rfl rfl rfl ?_ | refine Plan.fieldC rfl rfl rfl rfl (by exact Tryz.underlying58) rfl (by kernel_rfl) (by first | exact (rfl : _ = 0) | exact (rfl : _ = 1)) ?_ | refine Plan.loadC (key := 1000) (q := 0) rfl rfl rfl rfl rfl rfl (obj_reads1 rfl) (by first | exact Tryz.underlying3 | exact Tryz.underlying56) (by rfl) (by decide) ?_ | refine Plan.neqPtr rfl rfl rfl rfl (by kernel_rfl) ?_ | refine J.seq (J.region mixed hI (by kernel_rfl) ?_) | refine J.region mixed hI (by kernel_rfl) ?_ | refine J.condT rfl ?_)
  refine Plan.storeC (key := 1000) (q := 0) rfl rfl rfl rfl rfl rfl (by simp [Value.cells, Value.oneCell']) (by kernel_rfl) rfl hA rfl (obj_pat1 (Nat.le_of_ble_eq_true rfl)) ?_
  exact Nrm.retC0 (key := 1000) () rfl rfl rfl trivial disk_close (.inl rfl)
theorem disk_Append (β : Nat) (l : List UInt8) (f r : Nat) (b : List UInt8) (hl : l.length ≤ r) (hr : r ≤ 65536) (hb : b.length ≤ 140737488300000) : SpcC Tryz.prog 34 [.ex (ptr β), bytesF b] (diskC β l f r) (fun _ : Unit => True)
    (fun _ => .ex (.int .i64 (if l.length + b.length ≤ r then 0 else 9))) (fun _ => diskC β (if l.length + b.length ≤ r then l ++ b else l) f r) := by
  refine SpcC.intro Tryz.func34 rfl (Nat.le_of_ble_eq_true rfl) fun w0 F => ?_
  have hI := kept_below F w0
  have hA := Own.kept F w0
  repeat (first | refine Plan.assign rfl rfl rfl rfl ?_ | refine J.seq (J.region mixed hI (by kernel_rfl) ?_))
  refine J.seq (J.block ?_)
  repeat (first | refine Plan.move rfl rfl rfl rfl ?_ | refine Plan.lenB rfl rfl rfl rfl (by exact Sub.refl _) Tryz.underlying56 ?_ | refine J.seq (J.region mixed hI (by kernel_rfl) ?_))
  refine Plan.callR (key := 1000) (B := 0) (q := 0) rfl rfl rfl (disk_Room β l f r) Tryz.func66 rfl rfl (fun _ _ => Nat.zero_le _) (by repeat (first | exact Opnds.nil | refine Opnds.cons rfl (by exact Sub.refl _) ?_)) rfl rfl (by decide) ?_
  repeat (refine Plan.move rfl rfl rfl rfl ?_)
  refine Plan.callR (key := 1000) (B := 0) (q := 0) rfl rfl rfl (disk_Bytes β l f r (by omega)) Tryz.func20 rfl rfl (fun _ _ => Nat.zero_le _) (by repeat (first | exact Opnds.nil | refine Opnds.cons rfl (by exact Sub.refl _) ?_)) rfl rfl (by decide) ?_
  repeat (first | refine Plan.assign rfl rfl rfl rfl ?_ | (refine Plan.ints rfl rfl rfl rfl rfl rfl ?_; (first | refine Plan.int (i64r (by omega)) ?_ | skip)) | refine Plan.lenB rfl rfl rfl rfl (by exact Sub.own) Tryz.underlying56 ?_)
  refine J.condD rfl (fun h => ?_) (fun h => ?_)
  · have h' : ¬ l.length + b.length ≤ r := by omega
    rw [if_neg h', if_neg h']
    repeat (first | refine Plan.assign rfl rfl rfl rfl ?_ | refine J.seq (J.region mixed hI (by kernel_rfl) ?_))
    exact J.ret (Nrm.retC1 (key := 1000) () rfl rfl rfl trivial (Sub.refl _) Ent.one)
  · have h' : l.length + b.length ≤ r := by omega
    rw [if_pos h', if_pos h']
    repeat (first | refine Plan.move rfl rfl rfl rfl ?_ | refine Plan.assign rfl rfl rfl rfl ?_ | (refine Plan.ints rfl rfl rfl rfl rfl rfl ?_; (skip)) | refine Plan.lenB rfl rfl rfl rfl (by exact Sub.refl _) Tryz.underlying56 ?_ | refine J.seq (J.region mixed hI (by kernel_rfl) ?_))
    refine J.condD rfl (fun h2 => ?_) (fun h2 => ?_)
    · refine J.exC (key := 1000) (q := 0) rfl rfl fun x => ?_
      refine J.sepC (key := 1000) (q := 0) rfl rfl ?_
      repeat (first | refine Plan.move rfl rfl rfl rfl ?_ | refine Plan.nilOk rfl rfl rfl rfl ?_ | refine Plan.fieldC rfl rfl rfl rfl (by exact Tryz.underlying58) rfl (by kernel_rfl) (by exact (rfl : _ = 0)) ?_ | refine Plan.loadC (key := 1000) (q := 0) rfl rfl rfl rfl rfl rfl (obj_reads1 rfl) (by first | exact Tryz.underlying3 | exact Tryz.underlying56) (by rfl) (by decide) ?_ | refine J.region mixed hI (by kernel_rfl) ?_)
      refine Plan.appendC (key := 1000) (q := 1) (news := bs b) rfl rfl rfl rfl rfl (Sub.refl _) eltB (by intro _ e; cases e; decide) rfl hA rfl (bs_one _) (by simp [bs]; omega) fun B' m' cap' hm => ?_
      have hm' : m' = (l ++ b).length := by simp [bs] at hm; simp; omega
      subst hm'
      rw [← bs_append]
      repeat (first | refine Plan.nilOk rfl rfl rfl rfl ?_ | refine Plan.fieldC rfl rfl rfl rfl (by exact Tryz.underlying58) rfl (by kernel_rfl) (by exact (rfl : _ = 0)) ?_)
      refine Plan.storeC (key := 1000) (q := 0) rfl rfl rfl rfl rfl rfl (by simp [Value.cells, Value.oneCell']) (by kernel_rfl) rfl hA rfl (obj_pat1 (Nat.le_of_ble_eq_true rfl)) ?_
      repeat (first | refine Plan.assign rfl rfl rfl rfl ?_ | refine J.seq (J.region mixed hI (by kernel_rfl) ?_))
      exact J.ret (Nrm.retC1 (key := 1000) () rfl rfl rfl trivial (Sub.refl _) disk_close)
    · have hb0 : b = [] := List.eq_nil_of_length_eq_zero (by omega)
      subst hb0
      rw [List.append_nil]
      repeat (first | refine Plan.assign rfl rfl rfl rfl ?_ | refine J.seq (J.region mixed hI (by kernel_rfl) ?_) | refine J.skip ?_)
      exact J.ret (Nrm.retC1 (key := 1000) () rfl rfl rfl trivial (Sub.refl _) Ent.one)
end Go.Proofs.YtmljgobenlpnfaaGreat
end

section
namespace Go.Proofs.YtmljgobenlpnfaaGreat
open Go.Free Go.RowKit Go.Proofs
/-! ### The plain law -/
theorem shr15 (n : BitVec 16) : n >>> 15 = 0#16 ∨ n >>> 15 = 1#16 := by
  have := n.isLt
  have h : (n >>> 15).toNat = n.toNat / 2 ^ 15 := by rw [BitVec.toNat_ushiftRight, Nat.shiftRight_eq_div_pow]
  rcases Nat.lt_or_ge n.toNat (2 ^ 15) with h1 | h1
  · exact .inl (BitVec.eq_of_toNat_eq (by rw [h]; simp; omega))
  · exact .inr (BitVec.eq_of_toNat_eq (by rw [h]; simp; omega))
theorem xlc (a b c : BitVec 16) : a ^^^ (b ^^^ c) = b ^^^ (a ^^^ c) := by rw [← BitVec.xor_assoc, BitVec.xor_comm a b, BitVec.xor_assoc]
theorem step_xor (a b : BitVec 16) : crcStep (a ^^^ b) = crcStep a ^^^ crcStep b := by
  have h : (a ^^^ b) >>> 15 = (a >>> 15) ^^^ (b >>> 15) := by
    apply BitVec.eq_of_getElem_eq; intro i hi; simp
  have h2 : (a ^^^ b) <<< 1 = (a <<< 1) ^^^ (b <<< 1) := by
    apply BitVec.eq_of_getElem_eq; intro i hi; simp
    by_cases hh : i = 0 <;> simp [hh]
  have h3 : 0x1021#16 * ((a >>> 15) ^^^ (b >>> 15)) = (0x1021#16 * (a >>> 15)) ^^^ (0x1021#16 * (b >>> 15)) := by
    rcases shr15 a with h1 | h1 <;> rcases shr15 b with h2 | h2 <;> rw [h1, h2] <;> rfl
  simp only [crcStep, h, h2, h3]
  simp only [BitVec.xor_assoc]
  rw [xlc (b <<< 1)]
theorem steps_xor (k : Nat) (a b : BitVec 16) : crcSteps k (a ^^^ b) = crcSteps k a ^^^ crcSteps k b := by
  induction k with
  | zero => rfl
  | succ k ih => simp only [crcSteps, ih, step_xor]
theorem lift_xor (c d : UInt8) : lift16 (c ^^^ d) <<< 8 = (lift16 c <<< 8) ^^^ (lift16 d <<< 8) := by
  apply BitVec.eq_of_getElem_eq; intro i hi
  simp [lift16]
  by_cases hh : i < 8 <;> simp [hh]
theorem byte_xor (m n : BitVec 16) (c d : UInt8) : crcByte (m ^^^ n) (c ^^^ d) = crcByte m c ^^^ crcByte n d := by
  simp only [crcByte, lift_xor, ← steps_xor]
  congr 1
  simp only [BitVec.xor_assoc]
  rw [xlc n]
theorem from_xor : ∀ (a b : List UInt8) (m n : BitVec 16), a.length = b.length → crcFrom (m ^^^ n) (List.zipWith (· ^^^ ·) a b) = crcFrom m a ^^^ crcFrom n b
  | [], [], m, n, _ => rfl
  | [], _ :: _, _, _, h => by simp at h
  | _ :: _, [], _, _, h => by simp at h
  | x :: a, y :: b, m, n, h => by
    simp only [List.zipWith_cons_cons, crcFrom, List.foldl_cons, byte_xor]
    exact from_xor a b _ _ (by simpa using h)
theorem zip_zero : ∀ (a : List UInt8), List.zipWith (· ^^^ ·) a (List.replicate a.length (0 : UInt8)) = a
  | [] => rfl
  | x :: a => by simp [List.replicate_succ, zip_zero a]
theorem u8_xor (a b : UInt8) : IntKind.u8.wrap ((BitVec.ofInt IntKind.u8.bits (a.toNat : Int) ^^^ BitVec.ofInt IntKind.u8.bits (b.toNat : Int)).toNat : Int) = (a ^^^ b).toNat := by
  have ha := a.toNat_lt
  have hb := b.toNat_lt
  have h : (BitVec.ofInt IntKind.u8.bits (a.toNat : Int) ^^^ BitVec.ofInt IntKind.u8.bits (b.toNat : Int)).toNat = a.toNat ^^^ b.toNat := by
    show (BitVec.ofInt 8 (a.toNat : Int) ^^^ BitVec.ofInt 8 (b.toNat : Int)).toNat = _
    rw [BitVec.toNat_xor, ofInt_u8 _ ha, ofInt_u8 _ hb]
  rw [h, UInt8.toNat_xor]
  have : a.toNat ^^^ b.toNat < 2 ^ 8 := Nat.xor_lt_two_pow ha hb
  rw [IntKind.wrap_u8]; omega
end Go.Proofs.YtmljgobenlpnfaaGreat
end

section
namespace Go.Proofs.YtmljgobenlpnfaaGreat
open Go.Free Go.RowKit Go.Proofs
theorem step_zero {n : BitVec 16} (h : crcStep n = 0#16) : n = 0#16 := by
  have hn := n.isLt
  rcases Nat.lt_or_ge (n.toNat * 2) 65536 with h1 | h1
  · have e := step_lo n (by omega)
    rw [h] at e
    apply BitVec.eq_of_toNat_eq
    have : (0#16).toNat = 0 := rfl
    omega
  · have e := step_hi n (by omega)
    rw [h] at e
    have h0 : (0#16).toNat = 0 := rfl
    rw [h0] at e
    have e2 : n.toNat * 2 - 65536 = 4129 := by
      have h3 : (n.toNat * 2 - 65536) ^^^ 4129 ^^^ 4129 = 0 ^^^ 4129 := by rw [← e]
      rw [Nat.xor_assoc, Nat.xor_self, Nat.xor_zero, Nat.zero_xor] at h3
      exact h3
    omega
theorem steps_zero : ∀ (k : Nat) {n : BitVec 16}, crcSteps k n = 0#16 → n = 0#16
  | 0, _, h => h
  | k + 1, _, h => steps_zero k (step_zero h)
theorem steps_add (j k : Nat) (n : BitVec 16) : crcSteps (j + k) n = crcSteps j (crcSteps k n) := by
  induction j with
  | zero => rw [Nat.zero_add]; rfl
  | succ j ih => rw [show j + 1 + k = (j + k) + 1 by omega]; simp only [crcSteps, ih]
theorem steps_of_zero (k : Nat) : crcSteps k 0#16 = 0#16 := by
  induction k with
  | zero => rfl
  | succ k ih => simp only [crcSteps, ih]; rfl
theorem steps_shift : ∀ (j : Nat) (x : BitVec 16), x.toNat * 2 ^ j < 65536 → (crcSteps j x).toNat = x.toNat * 2 ^ j
  | 0, x, _ => by simp [crcSteps]
  | j + 1, x, h => by
    rw [Nat.pow_succ, ← Nat.mul_assoc] at h
    have ih := steps_shift j x (by omega)
    simp only [crcSteps]
    rw [step_lo _ (by rw [ih]; omega), ih, Nat.pow_succ, Nat.mul_assoc]
theorem from_append (m : BitVec 16) (a b : List UInt8) : crcFrom m (a ++ b) = crcFrom (crcFrom m a) b := by simp [crcFrom]
theorem from_zeros (n : BitVec 16) : ∀ q, crcFrom n (List.replicate q 0) = crcSteps (8 * q) n
  | 0 => rfl
  | q + 1 => by
    rw [List.replicate_succ', from_append, from_zeros n q]
    show crcByte (crcSteps (8 * q) n) 0 = _
    have h0 : lift16 0 <<< 8 = 0#16 := by decide
    simp only [crcByte, h0, BitVec.xor_zero]
    rw [← steps_add]; congr 1; omega
def bitAt (pos : Nat) : UInt8 := UInt8.ofNat (2 ^ (7 - pos % 8))
def flipAt (l : List UInt8) (pos : Nat) : List UInt8 := l.set (pos / 8) (l.getD (pos / 8) 0 ^^^ bitAt pos)
theorem flip_length (l : List UInt8) (pos : Nat) : (flipAt l pos).length = l.length := by simp [flipAt]
theorem one_steps (j : Nat) (h : j < 16) : (crcSteps j 1#16).toNat = 2 ^ j := by
  have h1 : (1#16).toNat = 1 := rfl
  have h2 : 2 ^ j ≤ 2 ^ 15 := Nat.pow_le_pow_right (by decide) (by omega)
  rw [steps_shift j _ (by rw [h1]; omega), h1, Nat.one_mul]
theorem bit_byte (pos : Nat) : lift16 (bitAt pos) <<< 8 = crcSteps (15 - pos % 8) 1#16 := by
  apply BitVec.eq_of_toNat_eq
  rw [one_steps _ (by omega)]
  have h : 2 ^ (7 - pos % 8) ≤ 2 ^ 7 := Nat.pow_le_pow_right (by decide) (by omega)
  have hb : (bitAt pos).toNat = 2 ^ (7 - pos % 8) := by unfold bitAt; rw [UInt8.toNat_ofNat']; exact Nat.mod_eq_of_lt (by omega)
  simp only [lift16, BitVec.toNat_shiftLeft, BitVec.toNat_setWidth, UInt8.toNat_toBitVec, hb, Nat.shiftLeft_eq]
  rw [show 15 - pos % 8 = (7 - pos % 8) + 8 by omega, Nat.pow_add]
  omega
theorem set_split {l : List UInt8} {j : Nat} (h : j < l.length) (c : UInt8) : l.set j c = l.take j ++ c :: l.drop (j + 1) := List.set_eq_take_append_cons_drop .. |>.trans (by simp [h])
theorem from_flip (m : BitVec 16) (l : List UInt8) (pos : Nat) (h : pos < 8 * l.length) : crcFrom m (flipAt l pos) = crcFrom m l ^^^ crcSteps (8 * l.length + 15 - pos) 1#16 := by
  have hj : pos / 8 < l.length := by omega
  obtain ⟨j, hjd⟩ : ∃ j, j = pos / 8 := ⟨_, rfl⟩
  rw [← hjd] at hj
  have hl : l = l.take j ++ l.getD j 0 :: l.drop (j + 1) := by
    have := List.take_append_drop j l
    rw [List.drop_eq_getElem_cons hj] at this
    simp [List.getD_eq_getElem?_getD, List.getElem?_eq_getElem hj]
  obtain ⟨r, hr⟩ : ∃ r, r = l.drop (j + 1) := ⟨_, rfl⟩
  have hrl : r.length = l.length - (j + 1) := by rw [hr, List.length_drop]
  have e1 : crcFrom m (flipAt l pos) = crcFrom (crcByte (crcFrom m (l.take j)) (l.getD j 0 ^^^ bitAt pos)) r := by
    unfold flipAt; rw [← hjd, set_split hj, from_append, ← hr]; rfl
  have e2 : crcFrom m l = crcFrom (crcByte (crcFrom m (l.take j)) (l.getD j 0)) r := by
    conv => lhs; rw [hl]
    rw [from_append, ← hr]; rfl
  have e3 : crcByte (crcFrom m (l.take j)) (l.getD j 0 ^^^ bitAt pos) = crcByte (crcFrom m (l.take j)) (l.getD j 0) ^^^ crcSteps (23 - pos % 8) 1#16 := by
    have := byte_xor (crcFrom m (l.take j)) 0#16 (l.getD j 0) (bitAt pos)
    rw [BitVec.xor_zero] at this
    rw [this]
    congr 1
    simp only [crcByte, BitVec.zero_xor, bit_byte]
    rw [← steps_add]; congr 1; omega
  have e4 := from_xor r (List.replicate r.length 0) (crcByte (crcFrom m (l.take j)) (l.getD j 0)) (crcSteps (23 - pos % 8) 1#16) (by simp)
  rw [zip_zero, from_zeros, ← steps_add] at e4
  rw [e1, e2, e3, e4]
  congr 2
  omega
theorem steps_one (j : Nat) (h : j < 16) : crcSteps j 1#16 = BitVec.twoPow 16 j := by
  apply BitVec.eq_of_toNat_eq
  rw [one_steps j h, BitVec.toNat_twoPow]
  have h2 : 2 ^ j ≤ 2 ^ 15 := Nat.pow_le_pow_right (by decide) (by omega)
  exact (Nat.mod_eq_of_lt (by omega)).symm
theorem join_xor (a b : UInt8) : join16 a b = (lift16 a <<< 8) ^^^ lift16 b := by
  unfold join16
  apply BitVec.eq_of_getElem_eq; intro i hi
  simp only [lift16, BitVec.getElem_or, BitVec.getElem_xor, BitVec.getElem_shiftLeft, BitVec.getElem_setWidth]
  by_cases h : i < 8
  · simp [h]
  · have : b.toBitVec.getLsbD i = false := BitVec.getLsbD_of_ge _ _ (by omega)
    simp [h, this]
theorem lift_steps (b : UInt8) : lift16 b <<< 8 = crcSteps 8 (lift16 b) := by
  have hb := b.toNat_lt
  have e : (lift16 b).toNat = b.toNat := by
    simp only [lift16, BitVec.toNat_setWidth, UInt8.toNat_toBitVec]; omega
  apply BitVec.eq_of_toNat_eq
  rw [steps_shift 8 _ (by rw [e]; omega), BitVec.toNat_shiftLeft, Nat.shiftLeft_eq, e]
  omega
theorem two_bytes (m : BitVec 16) (a b : UInt8) : crcByte (crcByte m a) b = crcSteps 16 (m ^^^ join16 a b) := by
  simp only [crcByte]
  rw [lift_steps b, ← steps_xor, ← steps_add, join_xor, BitVec.xor_assoc]
theorem fits_zero (l : List UInt8) (h : 2 ≤ l.length) : (crcOpen l).isSome = true ↔ crcOf l = 0#16 := by
  obtain ⟨a, ha⟩ : ∃ a, a = l.getD (l.length - 2) 0 := ⟨_, rfl⟩
  obtain ⟨b, hb⟩ : ∃ b, b = l.getD (l.length - 1) 0 := ⟨_, rfl⟩
  have hsplit : l = l.take (l.length - 2) ++ [a, b] := by
    have h1 : l.drop (l.length - 2) = [a, b] := by
      rw [ha, hb, List.drop_eq_getElem_cons (by omega), List.drop_eq_getElem_cons (by omega), List.drop_of_length_le (by omega)]
      simp only [List.getD_eq_getElem?_getD]
      rw [List.getElem?_eq_getElem (by omega), List.getElem?_eq_getElem (by omega)]
      simp only [Option.getD_some, List.cons.injEq, and_true, true_and]
      congr 1; omega
    have := List.take_append_drop (l.length - 2) l
    rw [h1] at this; exact this.symm
  have hc : crcOf l = crcSteps 16 (crcOf (l.take (l.length - 2)) ^^^ join16 a b) := by
    rw [← two_bytes]
    conv => lhs; rw [hsplit]
    unfold crcOf
    rw [from_append]; rfl
  unfold crcOpen
  rw [← ha, ← hb, hc]
  constructor
  · intro hs
    split at hs
    · rename_i g
      rw [g.2, BitVec.xor_self, steps_of_zero]
    · cases hs
  · intro hz
    have hx := steps_zero 16 hz
    have he : crcOf (l.take (l.length - 2)) = join16 a b := by
      have h2 : crcOf (l.take (l.length - 2)) ^^^ join16 a b ^^^ join16 a b = 0#16 ^^^ join16 a b := by rw [hx]
      rw [BitVec.xor_assoc, BitVec.xor_self, BitVec.xor_zero, BitVec.zero_xor] at h2
      exact h2
    rw [if_pos ⟨h, he⟩]; rfl
end Go.Proofs.YtmljgobenlpnfaaGreat
end

section
namespace Go.Proofs.YtmljgobenlpnfaaGreat
open Go.Free Go.RowKit Go.Proofs
set_option maxHeartbeats 2000000
theorem disk_Cut (β : Nat) (l : List UInt8) (f r : Nat) (n : Int) (hl : l.length ≤ 65536) (hn : -9223372036854775808 ≤ n ∧ n ≤ 9223372036854775807) : SpcC Tryz.prog 23 [.ex (ptr β), .ex (.int .i64 n)] (diskC β l f r) (fun _ : Unit => True)
    (fun _ => .ex (.int .i64 (if 0 ≤ n ∧ n ≤ l.length then 0 else 1))) (fun _ => if 0 ≤ n ∧ n ≤ l.length then diskC β (l.take n.toNat) n.toNat r else diskC β l f r) := by
  refine SpcC.intro Tryz.func23 rfl (Nat.le_of_ble_eq_true rfl) fun w0 F => ?_
  have hI := kept_below F w0
  have hA := Own.kept F w0
  repeat (first | refine Plan.move rfl rfl rfl rfl ?_ | refine Plan.assign rfl rfl rfl rfl ?_ | (refine Plan.ints rfl rfl rfl rfl rfl rfl ?_; (skip)) | refine J.seq (J.region mixed hI (by kernel_rfl) ?_) | refine J.seq (J.seq (J.region mixed hI (by kernel_rfl) ?_)))
  refine Plan.splitD (fun hn0 => ?_) (fun hn0 => ?_)
  · have h' : ¬ (0 ≤ n ∧ n ≤ l.length) := by omega
    rw [if_neg h', if_neg h']
    repeat (first | refine Plan.assign rfl rfl rfl rfl ?_ | refine Plan.skip rfl rfl ?_ | refine Plan.pick rfl rfl rfl rfl rfl ?_ | refine J.seq (J.region mixed hI (by kernel_rfl) ?_) | refine J.condT rfl ?_)
    exact J.ret (Nrm.retC1 (key := 1000) () rfl rfl rfl trivial (Sub.refl _) Ent.one)
  repeat (refine Plan.move rfl rfl rfl rfl ?_)
  refine Plan.callR (key := 1000) (B := 0) (q := 0) rfl rfl rfl (disk_Bytes β l f r (by omega)) Tryz.func20 rfl rfl (fun _ _ => Nat.zero_le _) (by repeat (first | exact Opnds.nil | refine Opnds.cons rfl (by exact Sub.refl _) ?_)) rfl rfl (by decide) ?_
  repeat (first | refine Plan.pick rfl rfl rfl rfl rfl ?_ | (refine Plan.ints rfl rfl rfl rfl rfl rfl ?_; (skip)) | refine Plan.lenB rfl rfl rfl rfl (by exact Sub.own) Tryz.underlying56 ?_)
  refine J.condD rfl (fun h => ?_) (fun h => ?_)
  · have h' : ¬ (0 ≤ n ∧ n ≤ l.length) := by omega
    rw [if_neg h', if_neg h']
    repeat (first | refine Plan.assign rfl rfl rfl rfl ?_ | refine J.seq (J.region mixed hI (by kernel_rfl) ?_))
    exact J.ret (Nrm.retC1 (key := 1000) () rfl rfl rfl trivial (Sub.refl _) Ent.one)
  have h' : 0 ≤ n ∧ n ≤ l.length := by omega
  rw [if_pos h', if_pos h']
  obtain ⟨m, rfl⟩ : ∃ m : Nat, n = m := ⟨n.toNat, by omega⟩
  rw [Int.toNat_natCast]
  have hml : m ≤ l.length := by omega
  have htl : (l.take m).length = m := by rw [List.length_take]; omega
  repeat (first | refine Plan.move rfl rfl rfl rfl ?_ | refine Plan.nilOk rfl rfl rfl rfl ?_ | refine Plan.fieldC rfl rfl rfl rfl (by exact Tryz.underlying58) rfl (by kernel_rfl) (by exact (rfl : _ = 0)) ?_ | refine Plan.neqPtr rfl rfl rfl rfl (by kernel_rfl) ?_ | refine J.seq (J.region mixed hI (by kernel_rfl) ?_) | refine J.seq (J.seq (J.region mixed hI (by kernel_rfl) ?_)) | refine J.condT rfl ?_ | refine J.skip ?_)
  refine Plan.exC (by kernel_rfl) hI (key := 1000) (q := 0) rfl rfl fun x => ?_
  refine Plan.sepC (by kernel_rfl) hI (key := 1000) (q := 0) rfl rfl ?_
  refine Plan.factC (by kernel_rfl) hI (key := 1000) (q := 1) rfl rfl (fun w F hh => row_fact hh) fun hf => ?_
  repeat (first | refine Plan.move rfl rfl rfl rfl ?_ | refine Plan.loadC (key := 1000) (q := 0) rfl rfl rfl rfl rfl rfl (obj_reads1 rfl) (by first | exact Tryz.underlying3 | exact Tryz.underlying56) (by rfl) (by decide) ?_)
  refine Plan.sliceHi rfl rfl rfl rfl eltB rfl (by omega) ?_
  repeat (first | refine Plan.nilOk rfl rfl rfl rfl ?_ | refine Plan.fieldC rfl rfl rfl rfl (by exact Tryz.underlying58) rfl (by kernel_rfl) (by exact (rfl : _ = 0)) ?_)
  refine Plan.storeC (key := 1000) (q := 0) rfl rfl rfl rfl rfl rfl (by simp [Value.cells, Value.oneCell']) (by kernel_rfl) rfl hA rfl (obj_pat1 (Nat.le_of_ble_eq_true rfl)) ?_
  refine J.convC (key := 1000) (q := 1) rfl rfl (Ent.rowCut hml) ?_
  have hbt : List.take (m * 1) (bs l) = bs (l.take m) := by simp [bs, List.map_take]
  rw [hbt]
  have hC : Ent (allC [obj β [.slice x.1 m x.2, .int .i64 f, .int .i64 r], rowC 5 1 x.1 m x.2 (bs (l.take m))]) (diskC β (l.take m) f r) := by
    have h9 := disk_close (l := l.take m) (B := x.1) (cap := x.2) (f := f) (r := r) (β := β)
    simp only [rowB, htl] at h9
    exact h9
  refine J.regroup (key := 1000) [diskC β (l.take m) f r] rfl (hC.trans Ent.addEmp) ?_
  repeat (first | refine Plan.move rfl rfl rfl rfl ?_ | refine J.region mixed hI (by kernel_rfl) ?_)
  refine Plan.callC (key := 1000) (q := 0) rfl rfl rfl (disk_Sync β (l.take m) f r) Tryz.func35 rfl rfl (by intro _ e; cases e; decide) (by repeat (first | exact Opnds.nil | refine Opnds.cons rfl (by exact Sub.refl _) ?_)) rfl hA rfl ?_
  intro _ _
  rw [htl]
  repeat (first | refine Plan.assign rfl rfl rfl rfl ?_ | refine J.seq (J.region mixed hI (by kernel_rfl) ?_))
  exact J.ret (Nrm.retC1 (key := 1000) () rfl rfl rfl trivial (Sub.refl _) Ent.one)
theorem disk_rest (x y : Int) (hy : 0 < y ∧ y ≤ 4611686018427387904) : Spc Tryz.prog 36 [.ex (.int .i64 x), .ex (.int .i64 y)] fun _ => .ex (.int .i64 (x % y)) := by
  refine Spc.intro Tryz.func36 rfl (Nat.le_of_ble_eq_true rfl) fun w0 => ?_
  have hI := hIb w0
  repeat (first | refine Plan.move rfl rfl rfl rfl ?_ | refine Plan.assign rfl rfl rfl rfl ?_ | refine J.seq (J.region mixed hI (by kernel_rfl) ?_))
  refine Plan.ints (v := .int .i64 (x.tmod y)) rfl rfl rfl rfl rfl (by simp only [intVal]; rw [if_neg (by omega)]) ?_
  have h1 : x.tmod y < y := Int.tmod_lt_of_pos x (by omega)
  have h2 : -y < x.tmod y := by have := Int.lt_tmod_of_pos x (b := y) (by omega); exact this
  refine Plan.move rfl rfl rfl rfl ?_
  refine Plan.ints rfl rfl rfl rfl rfl rfl ?_
  refine Plan.int (i64r (by omega)) ?_
  refine Plan.move rfl rfl rfl rfl ?_
  refine Plan.ints (v := .int .i64 (x % y)) rfl rfl rfl rfl rfl (by
    simp only [intVal]; rw [if_neg (by omega)]
    have : (x.tmod y + y).tmod y = x % y := by
      rw [Int.tmod_eq_emod_of_nonneg (by omega), Int.add_emod_right]
      rw [← Int.emod_emod_of_dvd x (Int.dvd_refl y)]
      have h3 : x.tmod y = x - y * (x.tdiv y) := Int.tmod_def x y
      rw [h3, Int.sub_mul_emod_self_left, Int.emod_emod_of_dvd x (Int.dvd_refl y)]
    rw [this]) ?_
  repeat (refine Plan.assign rfl rfl rfl rfl ?_)
  exact J.ret (Nrm.ret1 rfl (fun _ h => h) rfl fun B _ => Sub.refl _)
end Go.Proofs.YtmljgobenlpnfaaGreat
end

section
namespace Go.Proofs.YtmljgobenlpnfaaGreat
open Go.Free Go.RowKit Go.Proofs
set_option maxHeartbeats 4000000
abbrev rowEv (B : Option Addr) (n cap : Nat) (xs : List Value) : Chunk := rowC 40 26 B n cap xs
abbrev evsC (L : List EvV) : List Value := L.flatMap EvV.enc
theorem evs_len (L : List EvV) : (evsC L).length = L.length * 26 := flatMap_length _ 26 encE L
theorem encE_one (e : EvV) : ∀ u ∈ e.enc, u.oneCell' = true := by simp [EvV.enc, Value.oneCell', str]
theorem evs_one (L : List EvV) : ∀ u ∈ evsC L, u.oneCell' = true := fun u hu => by
  obtain ⟨e, _, he⟩ := List.mem_flatMap.1 hu
  exact encE_one e u he
def logC (γ β : Nat) (m : LogV) (f : Nat) : Chunk := exC fun x : Option Addr × Nat => sepC (obj γ [ptr β, str m.s, .bool m.b, .slice x.1 m.l.length x.2, vi f]) (rowEv x.1 m.l.length x.2 (evsC m.l))
theorem log_close {γ β f cap : Nat} {m : LogV} {B : Option Addr} : Ent (allC [obj γ [ptr β, str m.s, .bool m.b, .slice B m.l.length cap, vi f], rowEv B m.l.length cap (evsC m.l)]) (logC γ β m f) :=
  Ent.ex (B, cap) (Ent.sep (Ent.refl _) Ent.one)
theorem log_disk {γ β f cap : Nat} {m : LogV} {B : Option Addr} {D : Chunk} : Ent (allC [obj γ [ptr β, str m.s, .bool m.b, .slice B m.l.length cap, vi f], D, rowEv B m.l.length cap (evsC m.l)]) (allC [logC γ β m f, D]) :=
  (Ent.pickC (H' := [obj γ [ptr β, str m.s, .bool m.b, .slice B m.l.length cap, vi f], rowEv B m.l.length cap (evsC m.l), D]) [0, 2, 1] rfl rfl).trans ((Ent.splitC (H1 := [_, _])).trans (Ent.sep log_close (Ent.refl _)))
theorem evs_Clone (L : List EvV) (hl : L.length ≤ 1000000) : Spc Tryz.prog 37 [row 26 (evsC L)] fun B => own B 40 26 (evsC L) := by
  refine Spc.intro Tryz.func37 rfl (Nat.le_of_ble_eq_true rfl) fun w0 => ?_
  have hI := hIb w0
  repeat (first | refine Plan.move rfl rfl rfl rfl ?_ | refine Plan.assign rfl rfl rfl rfl ?_ | refine J.seq (J.region mixed hI (by kernel_rfl) ?_) | refine J.seq (J.seq (J.region mixed hI (by kernel_rfl) ?_)))
  refine Plan.eqlNil rfl rfl rfl rfl (Sub.old fun _ h => h) Tryz.underlying22 ?_
  repeat (fail)
  refine J.condNil rfl (fun he => ?_) ?_
  · have he' : L = [] := by cases L with | nil => rfl | cons e r => simp [EvV.enc] at he
    subst he'
    repeat (first | refine Plan.assign rfl rfl rfl rfl ?_ | refine J.seq (J.region mixed hI (by kernel_rfl) ?_))
    exact J.ret (Nrm.ret1 rfl (fun _ h => h) rfl fun B hB => by first | exact Sub.refl _ | exact Sub.own | exact Sub.old (fun _ h => h) | exact Sub.oldOwn (fun _ h => h) | exact Sub.nilRow | exact Sub.ownLower hB | exact Sub.nilOwn (fun _ h => Nat.le_trans hB h.size))
  · repeat (first | refine J.seq (J.region mixed hI (by kernel_rfl) ?_) | refine J.skip ?_)
    refine Plan.lit (B := w0.heap.size) (vs := []) rfl rfl rfl eltE rfl (hBb w0) rfl (by simp [Value.cells]) (by decide) ?_
    repeat (refine Plan.move rfl rfl rfl rfl ?_)
    refine Plan.append (news := evsC L) rfl rfl rfl rfl (Sub.refl _) rfl (Sub.old fun _ h => h) eltE (by intro d hd; cases hd; decide) (hGb w0) (evs_one _) (by rw [evs_len]; simp [flat]; omega) ?_
    repeat (refine Plan.assign rfl rfl rfl rfl ?_)
    exact J.ret (Nrm.ret1 rfl (fun _ h => h) rfl fun B hB => by first | exact Sub.refl _ | exact Sub.own | exact Sub.old (fun _ h => h) | exact Sub.oldOwn (fun _ h => h) | exact Sub.nilRow | exact Sub.ownLower hB | exact Sub.nilOwn (fun _ h => Nat.le_trans hB h.size))
theorem log_Fast (γ β : Nat) (m : LogV) (f : Nat) : SpcR Tryz.prog 10 [.ex (ptr γ)] (logC γ β m f) fun _ => .ex (vi f) := by
  refine SpcR.intro Tryz.func10 rfl (Nat.le_of_ble_eq_true rfl) fun w0 => ?_
  have hI := hIb w0
  refine J.exC (key := 1000) (q := 0) rfl rfl fun x => ?_
  refine J.sepC (key := 1000) (q := 0) rfl rfl ?_
  repeat (first | refine Plan.move rfl rfl rfl rfl ?_ | refine Plan.assign rfl rfl rfl rfl ?_ | refine Plan.nilOk rfl rfl rfl rfl ?_ | refine Plan.fieldC rfl rfl rfl rfl (by first | exact Tryz.underlying58 | exact Tryz.underlying60) rfl (by kernel_rfl) (by exact (rfl : _ = 4)) ?_ | refine Plan.loadC (key := 1000) (q := 0) rfl rfl rfl rfl rfl rfl (obj_reads1 rfl) (by exact Tryz.underlying3) (by rfl) (by decide) ?_ | refine Plan.eqlPtr rfl rfl rfl rfl (by kernel_rfl) ?_ | refine J.seq (J.region mixed hI (by kernel_rfl) ?_) | refine J.seq (J.seq (J.region mixed hI (by kernel_rfl) ?_)) | refine J.condF rfl ?_ | refine J.skip ?_)
  exact J.ret (Nrm.ret1 rfl (fun _ h => h) rfl fun B _ => Sub.refl _)
theorem log_Events (γ β : Nat) (m : LogV) (f : Nat) (hl : m.l.length ≤ 1000000) : SpcR Tryz.prog 12 [.ex (ptr γ)] (logC γ β m f) fun B => own B 40 26 (evsC m.l) := by
  refine SpcR.intro Tryz.func12 rfl (Nat.le_of_ble_eq_true rfl) fun w0 => ?_
  have hI := hIb w0
  refine J.exC (key := 1000) (q := 0) rfl rfl fun x => ?_
  refine J.sepC (key := 1000) (q := 0) rfl rfl ?_
  repeat (first | refine Plan.move rfl rfl rfl rfl ?_ | refine Plan.assign rfl rfl rfl rfl ?_ | refine J.seq (J.region mixed hI (by kernel_rfl) ?_) | refine J.seq (J.seq (J.region mixed hI (by kernel_rfl) ?_)))
  refine Plan.eqlPtr rfl rfl rfl rfl (by kernel_rfl) ?_
  repeat (first | refine Plan.move rfl rfl rfl rfl ?_ | refine J.seq (J.region mixed hI (by kernel_rfl) ?_) | refine J.condF rfl ?_ | refine J.skip ?_)
  refine Plan.nilOk rfl rfl rfl rfl ?_
  refine Plan.fieldC rfl rfl rfl rfl (by exact Tryz.underlying60) rfl (by kernel_rfl) rfl ?_
  refine Plan.loadRowC (key := 1000) (q := 0) (q2 := 1) rfl rfl rfl rfl rfl rfl (obj_reads1 rfl) rfl (by exact Tryz.underlying22) (by rfl) (by decide) ?_
  refine Plan.call (B := w0.heap.size) rfl rfl rfl (evs_Clone m.l hl) Tryz.func37 rfl rfl (hBb w0) (by repeat (first | exact Opnds.nil | refine Opnds.cons rfl (by exact Sub.refl _) ?_)) ?_
  repeat (refine Plan.assign rfl rfl rfl rfl ?_)
  exact J.ret (Nrm.ret1 rfl (fun _ h => h) rfl fun B hB => by first | exact Sub.refl _ | exact Sub.own | exact Sub.old (fun _ h => h) | exact Sub.oldOwn (fun _ h => h) | exact Sub.nilRow | exact Sub.ownLower hB | exact Sub.nilOwn (fun _ h => Nat.le_trans hB h.size))
theorem log_Sync (γ β : Nat) (m : LogV) (f : Nat) (l : List UInt8) (df r : Nat) (hl : m.l.length ≤ 1000000) : SpcC Tryz.prog 9 [.ex (ptr γ)] (allC [logC γ β m f, diskC β l df r]) (fun _ : Unit => True) (fun _ => Fa.any)
    (fun _ => allC [logC γ β m m.l.length, diskC β l l.length r]) := by
  refine SpcC.intro Tryz.func9 rfl (Nat.le_of_ble_eq_true rfl) fun w0 F => ?_
  have hI := kept_below F w0
  have hA := Own.kept F w0
  refine J.open1 (key := 1000) rfl ?_
  refine J.exC (key := 1000) (q := 0) rfl rfl fun x => ?_
  refine J.sepC (key := 1000) (q := 0) rfl rfl ?_
  repeat (first | refine Plan.move rfl rfl rfl rfl ?_ | refine Plan.nilOk rfl rfl rfl rfl ?_ | refine Plan.fieldC rfl rfl rfl rfl (by first | exact Tryz.underlying58 | exact Tryz.underlying60) rfl (by kernel_rfl) (by exact (rfl : _ = 0)) ?_ | refine Plan.loadC (key := 1000) (q := 0) rfl rfl rfl rfl rfl rfl (obj_reads1 rfl) (by first | exact Tryz.underlying3 | exact Tryz.underlying26) (by rfl) (by decide) ?_ | refine Plan.neqPtr rfl rfl rfl rfl (by kernel_rfl) ?_ | refine J.seq (J.region mixed hI (by kernel_rfl) ?_) | refine J.condT rfl ?_)
  refine Plan.callC (key := 1000) (q := 1) rfl rfl rfl (disk_Sync β l df r) Tryz.func35 rfl rfl (by intro _ e; cases e; decide) (by repeat (first | exact Opnds.nil | refine Opnds.cons rfl (by exact Sub.refl _) ?_)) rfl hA rfl ?_
  intro _ _
  repeat (first | refine Plan.move rfl rfl rfl rfl ?_ | refine Plan.nilOk rfl rfl rfl rfl ?_ | refine Plan.fieldC rfl rfl rfl rfl (by first | exact Tryz.underlying58 | exact Tryz.underlying60) rfl (by kernel_rfl) (by exact (rfl : _ = 3)) ?_ | refine Plan.loadC (key := 1000) (q := 0) rfl rfl rfl rfl rfl rfl (obj_reads1 rfl) (by first | exact Tryz.underlying3 | exact Tryz.underlying22) (by rfl) (by decide) ?_ | refine J.region mixed hI (by kernel_rfl) ?_)
  refine Plan.lenE rfl rfl rfl rfl Tryz.underlying22 ?_
  repeat (first | refine Plan.nilOk rfl rfl rfl rfl ?_ | refine Plan.fieldC rfl rfl rfl rfl (by first | exact Tryz.underlying58 | exact Tryz.underlying60) rfl (by kernel_rfl) (by exact (rfl : _ = 4)) ?_)
  refine Plan.storeC (key := 1000) (q := 0) rfl rfl rfl rfl rfl rfl (by simp [Value.cells, Value.oneCell', str]) (by kernel_rfl) rfl hA rfl (obj_pat1 (Nat.le_of_ble_eq_true rfl)) ?_
  repeat (fail)
  exact Nrm.retC0 (key := 1000) () rfl rfl rfl trivial (log_disk (cap := x.2) (B := x.1)) (.inl rfl)
theorem framed_fn (e : EvV) (h : e.okV) : Spc Tryz.prog 33 [.ex (aggE e)] fun B => .tup [ownB B (if rightP e then fPut (0 :: encB e) else []), .ex (vi (if rightP e then 0 else 1))] := by
  refine Spc.intro Tryz.func33 rfl (Nat.le_of_ble_eq_true rfl) fun w0 => ?_
  have hI := hIb w0
  have hA := Own.below w0
  refine J.heap0 1000 (newB w0) ?_
  repeat (refine J.seq (J.region mixed hI (by kernel_rfl) ?_))
  refine Plan.boxC (key := 1000) rfl rfl rfl (by intro _ e; cases e; decide) rfl rfl hA fun α => ?_
  repeat (first | refine Plan.assign rfl rfl rfl rfl ?_ | refine J.seq (J.region mixed hI (by kernel_rfl) ?_))
  refine Plan.loadAggC (key := 1000) (q := 0) (vs := e.enc) rfl rfl rfl rfl rfl rfl obj_whole Tryz.underlying40 rfl (by rw [encE]; kernel_rfl) (by decide) ?_
  by_cases hr : rightP e
  · have hle := encB_le hr
    have hp := frame_Put (0 :: encB e) (by simp only [List.length_cons]; omega)
    rw [if_neg (by simp only [List.length_cons]; omega), if_neg (by simp only [List.length_cons]; omega)] at hp
    rw [if_pos hr, if_pos hr]
    refine Plan.call (B := w0.heap.size) rfl rfl rfl (encode_yes e h hr) Tryz.func64 rfl rfl (hBb w0) (by repeat (first | exact Opnds.nil | refine Opnds.cons rfl (by exact Sub.refl _) ?_)) ?_
    repeat (first | refine Plan.move rfl rfl rfl rfl ?_ | refine Plan.assign rfl rfl rfl rfl ?_ | refine Plan.extract rfl rfl rfl rfl rfl ?_ | (refine Plan.ints rfl rfl rfl rfl rfl rfl ?_; (skip)) | refine J.seq (J.region mixed hI (by kernel_rfl) ?_) | refine J.seq (J.seq (J.region mixed hI (by kernel_rfl) ?_)) | refine J.condF rfl ?_ | refine J.skip ?_)
    refine Plan.lit (B := w0.heap.size) (vs := [.int .u8 0]) rfl rfl rfl eltB rfl (hBb w0) rfl (by simp [Value.cells]) (by decide) ?_
    repeat (refine Plan.move rfl rfl rfl rfl ?_)
    refine Plan.append (news := bs (encB e)) rfl rfl rfl rfl (Sub.refl _) rfl Sub.own eltB (by intro d hd; cases hd; decide) (hGb w0) (bs_one _) (by simp [bs, flat, Value.cells]; omega) ?_
    have hb : flat [Value.int .u8 0] ++ bs (encB e) = bs (0 :: encB e) := rfl
    rw [hb]
    refine Plan.call (B := w0.heap.size) rfl rfl rfl (hp) Tryz.func65 rfl rfl (hBb w0) (by repeat (first | exact Opnds.nil | refine Opnds.cons rfl (by exact Sub.own) ?_)) ?_
    repeat (first | refine Plan.assign rfl rfl rfl rfl ?_ | refine Plan.extract rfl rfl rfl rfl rfl ?_)
    exact J.ret (Nrm.ret2 rfl (fun _ h => h) fun B hB => ⟨_, rfl, Ress.cons rfl (by exact Sub.ownLower hB) (Ress.cons rfl (by exact Sub.refl _) Ress.nil)⟩)
  · rw [if_neg hr, if_neg hr]
    refine Plan.call (B := w0.heap.size) rfl rfl rfl (encode_no e h hr) Tryz.func64 rfl rfl (hBb w0) (by repeat (first | exact Opnds.nil | refine Opnds.cons rfl (by exact Sub.refl _) ?_)) ?_
    repeat (first | refine Plan.move rfl rfl rfl rfl ?_ | refine Plan.assign rfl rfl rfl rfl ?_ | refine Plan.extract rfl rfl rfl rfl rfl ?_ | (refine Plan.ints rfl rfl rfl rfl rfl rfl ?_; (skip)) | refine J.seq (J.region mixed hI (by kernel_rfl) ?_) | refine J.seq (J.seq (J.region mixed hI (by kernel_rfl) ?_)) | refine J.condT rfl ?_)
    exact J.ret (Nrm.ret2 rfl (fun _ h => h) fun B hB => ⟨_, rfl, Ress.cons rfl (by exact Sub.nilOwn (fun _ h => Nat.le_trans hB h.size)) (Ress.cons rfl (by exact Sub.refl _) Ress.nil)⟩)
end Go.Proofs.YtmljgobenlpnfaaGreat
end

section
namespace Go.Free
open Go.RowKit Go.MapKept
def mkL (o : Nat) : List (Int × Value) → List MapEntry
  | [] => []
  | p :: r => ⟨.int .i64 p.1, p.2, o⟩ :: mkL (o + 1) r
def mkEs (kvs : List (Int × Value)) : Array MapEntry := (mkL 0 kvs).toArray
theorem mkL_get : ∀ {l : List (Int × Value)} {o i : Nat}, (mkL o l)[i]? = l[i]?.map fun p => ⟨.int .i64 p.1, p.2, o + i⟩
  | [], _, _ => rfl
  | p :: r, o, 0 => rfl
  | p :: r, o, i + 1 => by
    simp only [mkL, List.getElem?_cons_succ]
    rw [mkL_get (l := r)]
    congr 1
    funext q
    rw [Nat.add_right_comm, Nat.add_assoc]
theorem mkL_app : ∀ {l m : List (Int × Value)} {o : Nat}, mkL o (l ++ m) = mkL o l ++ mkL (o + l.length) m
  | [], _, _ => rfl
  | p :: r, m, o => by
    simp only [List.cons_append, mkL, List.length_cons]
    rw [mkL_app (l := r), show o + 1 + r.length = o + (r.length + 1) by omega]
theorem mkL_born {l : List (Int × Value)} {o : Nat} : (mkL o l).map (·.born) = List.range' o l.length := by
  induction l generalizing o with
  | nil => rfl
  | cons p r ih => simp only [mkL, List.map_cons, List.length_cons, List.range'_succ, ih]
def mapAt (z : Value) (kvs : List (Int × Value)) (k : Int) : Value := match kvs.find? (fun p => decide (p.1 = k)) with | some p => p.2 | none => z
def findV (kvs : List (Int × Value)) (k : Int) : Option (Nat × Value) := match kvs.findIdx? (fun p => decide (p.1 = k)) with | some i => some (i, (kvs.getD i (0, .bool false)).2) | none => none
def putV (kvs : List (Int × Value)) (k : Int) (v : Value) : List (Int × Value) := match kvs.findIdx? (fun p => decide (p.1 = k)) with | some i => kvs.set i (k, v) | none => kvs ++ [(k, v)]
theorem findNow_mk (k : Int) {kd : IntKind} : ∀ (l : List (Int × Value)) (o : Nat), Instr.findNow (.int kd) (.int .i64 k) (mkL o l) o = some (match l.findIdx? (fun p => decide (p.1 = k)) with | some i => some (o + i, (l.getD i (0, .bool false)).2) | none => none)
  | [], _ => rfl
  | p :: r, o => by
    simp only [mkL, Instr.findNow, Instr.sameNow, if_true]
    by_cases h : k = p.1
    · subst h
      simp [List.findIdx?_cons]
    · have h1 : (k == p.1) = false := by simpa using h
      have h2 : ¬ p.1 = k := fun e => h e.symm
      rw [h1]
      simp only [findNow_mk k r (o + 1), List.findIdx?_cons, h2, decide_false, Bool.false_eq_true, if_false]
      cases r.findIdx? (fun p => decide (p.1 = k)) with
      | none => rfl
      | some i => simp; omega
def mapC (μ : Nat) (kvs : List (Int × Value)) : Chunk := ⟨fun w F => w.heap[μ]? = some (.map (mkEs kvs) kvs.length) ∧ ∀ b, F b ↔ b = μ,
  fun _ _ b ⟨h, hF⟩ hb => by rw [(hF b).1 hb]; exact (Array.getElem?_eq_some_iff.1 h).1,
  fun _ _ _ ⟨h, hF⟩ hk => ⟨(hk μ ((hF μ).2 rfl)).trans h, hF⟩⟩
def iterC (r μ n : Nat) (seen : List Nat) : Chunk := ⟨fun w F => w.heap[r]? = some (.mapIter (some μ) n seen.toArray n) ∧ ∀ b, F b ↔ b = r,
  fun _ _ b ⟨h, hF⟩ hb => by rw [(hF b).1 hb]; exact (Array.getElem?_eq_some_iff.1 h).1,
  fun _ _ _ ⟨h, hF⟩ hk => ⟨(hk r ((hF r).2 rfl)).trans h, hF⟩⟩
abbrev mapV (μ : Nat) : Value := .map (some μ)
theorem run_checkIntN {P : Program} {w : World} {em : Bool} {kt : TypeId} {kd : IntKind} {v : Value} (hu : P.underlying kt = some (.int kd)) (m : Nat) : (Instr.checkKey em (m + 1) kt v).run P w = .ok () w := by
  simp [Instr.checkKey, run_underlying hu]
theorem run_checkInt {P : Program} {w : World} {em : Bool} {kt : TypeId} {kd : IntKind} {v : Value} (hu : P.underlying kt = some (.int kd)) : (Instr.checkKey em 10000 kt v).run P w = .ok () w := run_checkIntN hu 9999
theorem run_findMk {P : Program} {w : World} {kt : TypeId} {kd : IntKind} {k : Int} {kvs : List (Int × Value)} (hu : P.underlying kt = some (.int kd)) :
    (Instr.findKey kt (.int .i64 k) (mkL 0 kvs)).run P w = .ok (findV kvs k) w := by
  simp only [Instr.findKey, Sem.run_bind, run_underlying hu, Result.andThen, findNow_mk, Nat.zero_add, findV]
  split <;> rfl
section
variable {P : Program} {ops : Array Oper} {Q : Exit → Act → World → Prop} {n : Nat} {I : World → Prop} {k i : Nat} {E : Env} {o : Oper} {d : Bool} {A : Nat → Prop} {H : List Chunk} {key : Nat}
theorem Plan.makeMapC {t : TypeId} (ho : ops[i]? = some o) (hop : o.op = .makeMap t none) (hg : wantB ops E o = some true) (hd : ∀ d, o.dst = some d → d < n) (hk : look E key = some (heap A H)) (hA : Own I A)
    (h : ∀ μ, Plan P ops Q n I d k (i + 1) (setE o.dst (.ex (mapV μ)) ((key, heap A (H ++ [mapC μ []])) :: sieve E))) (hq : d = false ∨ barB ops i = true := by first | exact .inl rfl | exact .inr (by kernel_rfl)) : Plan P ops Q n I d (k + 1) i E :=
  Plan.turnRun ho hg hd hk hA (fun a w φ _ _ _ hL hLA hfr => by
    have hb : Below w.heap.size w (w.alloc (.map #[] 0)) := (Below.refl _ _).alloc (Nat.le_refl _) _
    have hL' := hL.add (c' := mapC w.heap.size []) (F := fun b => b = w.heap.size) hb ⟨heap_alloc_new w _, fun b => Iff.rfl⟩ (fun b e => Nat.le_of_eq e.symm)
    refine ⟨mapV w.heap.size, w.alloc (.map #[] 0), .ex (mapV w.heap.size), _, _, .inl ?_, .ofBelow hb, hL', fun q b hb => ?_, by simp [Fa.den], h w.heap.size⟩
    · simp [execOp, hop, Instr.makeMap, newObj, Sem.run]
    · by_cases he : q = H.length
      · simp only [if_pos he] at hb; exact hfr b (Nat.le_of_eq hb.symm)
      · simp only [if_neg he] at hb; exact hLA q b hb) hq
theorem Plan.lookupC {t kt et : TypeId} {kd : IntKind} {x y : Operand} {μ q : Nat} {kk : Int} {kvs : List (Int × Value)} {z : Value} (ho : ops[i]? = some o) (hop : o.op = .lookup t x y false) (hg : wantB ops E o = some true)
    (hx : opF E x = some (.ex (mapV μ))) (hy : opF E y = some (.ex (.int .i64 kk))) (ht : P.underlying t = some (.map kt et)) (hkt : P.underlying kt = some (.int kd)) (hz : (P.info? et).bind (·.zero) = some z)
    (hk : look E key = some (heap A H)) (hqH : H[q]? = some (mapC μ kvs)) (hkn : n ≤ key)
    (h : Plan P ops Q n I d k (i + 1) (setE o.dst (.ex (mapAt z kvs kk)) E)) : Plan P ops Q n I d (k + 1) i E :=
  Plan.step ho (Step.runK ho hg fun a w _ hs' hK => by
    have e1 := hs' x (by simp [hop, Op.operands]) _ hx
    have e2 := hs' y (by simp [hop, Op.operands]) _ hy
    simp only [Fa.den] at e1 e2
    obtain ⟨φ, hL, _⟩ := hK key hkn _ hk
    have hb := (hL.holds q _ hqH).1
    obtain ⟨inf, hi1, hi2⟩ : ∃ inf, P.info? et = some inf ∧ inf.zero = some z := by
      cases hinf : P.info? et with
      | none => rw [hinf] at hz; cases hz
      | some inf => rw [hinf] at hz; exact ⟨inf, rfl, by simpa using hz⟩
    refine ⟨mapAt z kvs kk, w, ?_, Below.refl _ _, by simp [Fa.den]⟩
    have hfd : ∀ p, kvs.findIdx? (fun p => decide (p.1 = kk)) = p → mapAt z kvs kk = match p with | some i => (kvs.getD i (0, .bool false)).2 | none => z := fun p hp => by
      unfold mapAt
      cases p with
      | none =>
        rw [List.findIdx?_eq_none_iff] at hp
        rw [List.find?_eq_none.2 fun x hx => by simpa using hp x hx]
      | some j =>
        rw [List.findIdx?_eq_some_iff_getElem] at hp
        obtain ⟨hj, h1, h2⟩ := hp
        have hf : kvs.find? (fun p => decide (p.1 = kk)) = some kvs[j] := by
          rw [List.find?_eq_some_iff_getElem]
          exact ⟨h1, j, hj, rfl, fun l hl => by simpa using h2 l hl⟩
        rw [hf]
        simp [List.getD_eq_getElem?_getD, List.getElem?_eq_getElem hj]
    have hfk := run_findMk (P := P) (w := w) (k := kk) (kvs := kvs) hkt
    have hml : (mkEs kvs).toList = mkL 0 kvs := rfl
    have hck := run_checkInt (P := P) (w := w) (em := (mkEs kvs).isEmpty) (v := .int .i64 kk) hkt
    rw [← hml] at hfk
    unfold findV at hfk
    cases hj : kvs.findIdx? (fun p => decide (p.1 = kk)) with
    | none =>
      rw [hfd _ hj]
      rw [hj] at hfk
      simp [execOp, hop, e1, e2, Instr.lookup, run_underlying ht, MapKept.run_getObj_map hb, hck, hfk, Result.andThen, zeroValue, typeInfo, hi1, hi2]
    | some j =>
      rw [hfd _ hj]
      rw [hj] at hfk
      simp [execOp, hop, e1, e2, Instr.lookup, run_underlying ht, MapKept.run_getObj_map hb, hck, hfk, Result.andThen]) h
theorem set_mk {l : List (Int × Value)} {j : Nat} {k : Int} {v : Value} (hj : j < l.length) : (mkEs l).modify j (fun e => { e with key := .int .i64 k, val := v }) = mkEs (l.set j (k, v)) := by
  apply Array.ext'
  unfold mkEs
  rw [Array.toList_modify]
  apply List.ext_getElem?
  intro m
  simp only [List.getElem?_modify]
  rw [mkL_get, mkL_get, List.getElem?_set]
  by_cases hm : j = m
  · subst hm
    rw [if_pos rfl, if_pos hj, List.getElem?_eq_getElem hj]
    simp
  · rw [if_neg hm]
    cases l[m]? <;> simp [hm]
theorem run_setMap {P : Program} {w : World} {r : Nat} {ob o' : Obj} (hb : w.heap[r]? = some ob) (hm : ∃ es c, ob = .map es c) : (setObj r o').run P w = .ok () { w with heap := w.heap.setIfInBounds r o' } := by
  obtain ⟨es, c, rfl⟩ := hm
  exact MapKept.run_setObj_map o' hb
theorem Plan.mapUpdateC {t kt et : TypeId} {kd : IntKind} {x y z : Operand} {μ q : Nat} {kk : Int} {v : Value} {kvs : List (Int × Value)} (ho : ops[i]? = some o) (hop : o.op = .mapUpdate t x y z) (hdst : o.dst = none) (hg : wantB ops E o = some true)
    (hx : opF E x = some (.ex (mapV μ))) (hy : opF E y = some (.ex (.int .i64 kk))) (hz : opF E z = some (.ex v)) (ht : P.underlying t = some (.map kt et)) (hkt : P.underlying kt = some (.int kd))
    (hk : look E key = some (heap A H)) (hA : Own I A) (hqH : H[q]? = some (mapC μ kvs))
    (h : Plan P ops Q n I d k (i + 1) ((key, heap A (H.set q (mapC μ (putV kvs kk v)))) :: sieve E)) (hq : d = false ∨ barB ops i = true := by first | exact .inl rfl | exact .inr (by kernel_rfl)) : Plan P ops Q n I d (k + 1) i E :=
  Plan.turnRun ho hg (by rw [hdst]; intro _ e; cases e) hk hA (fun a w φ _ _ hs' hL hLA hfr => by
    have e1 := hs' x (by simp [hop, Op.operands]) _ hx
    have e2 := hs' y (by simp [hop, Op.operands]) _ hy
    have e3 := hs' z (by simp [hop, Op.operands]) _ hz
    simp only [Fa.den] at e1 e2 e3
    have hc := hL.holds q _ hqH
    obtain ⟨hb, hF⟩ := hc
    have hlt : μ < w.heap.size := (Array.getElem?_eq_some_iff.1 hb).1
    obtain ⟨w', hw'⟩ : ∃ w' : World, w' = { w with heap := w.heap.setIfInBounds μ (.map (mkEs (putV kvs kk v)) (putV kvs kk v).length) } := ⟨_, rfl⟩
    have hK : Kept (φ q) w w' := by
      subst hw'
      exact ⟨rfl, rfl, rfl, by simp, fun b _ hn => by
        rw [Array.getElem?_setIfInBounds_ne (fun e => hn ((hF b).2 e.symm))]⟩
    have hc2 : (mapC μ (putV kvs kk v)).holds w' (φ q) := by
      subst hw'
      exact ⟨by simp [Array.getElem?_setIfInBounds, hlt], hF⟩
    have hqlt : q < H.length := (List.getElem?_eq_some_iff.1 hqH).1
    have hfk := run_findMk (P := P) (w := w) (k := kk) (kvs := kvs) hkt
    have hml : (mkEs kvs).toList = mkL 0 kvs := rfl
    have hck := run_checkInt (P := P) (w := w) (em := false) (v := .int .i64 kk) hkt
    rw [← hml] at hfk
    unfold findV at hfk
    have hL' := hL.upd hqlt hK hc2 (fun b hb => .inl hb)
    refine ⟨undef, w', .ex undef, H.set q (mapC μ (putV kvs kk v)), _, .inr ⟨?_, rfl⟩, hK.mono (fun b _ hb => hLA q b hb), hL', wide (H := H) hLA hfr (fun b hb => .inl hb), by simp [Fa.den], by rw [hdst]; exact h⟩
    subst hw'
    unfold putV at *
    cases hj : kvs.findIdx? (fun p => decide (p.1 = kk)) with
    | none =>
      rw [hj] at hfk
      have hpush : (mkEs kvs).push ⟨.int .i64 kk, v, kvs.length⟩ = mkEs (kvs ++ [(kk, v)]) := by
        apply Array.ext'
        unfold mkEs
        rw [mkL_app]
        simp [mkL]
      simp [execOp, hop, e1, e2, e3, Instr.mapUpdate, run_underlying ht, MapKept.run_getObj_map hb, hck, hfk, Result.andThen, hpush, run_setMap hb ⟨_, _, rfl⟩]
    | some j =>
      rw [hj] at hfk
      rw [List.findIdx?_eq_some_iff_getElem] at hj
      obtain ⟨hjl, h1, _⟩ := hj
      have hkey : kvs[j].1 = kk := by simpa using h1
      have hold : ((mkEs kvs)[j]?.map (·.key)).getD (.int .i64 kk) = .int .i64 kk := by
        have : (mkEs kvs)[j]? = (mkL 0 kvs)[j]? := by rw [← Array.getElem?_toList]; rfl
        rw [this, mkL_get, List.getElem?_eq_getElem hjl]
        simp [hkey]
      have hst : (Instr.keyThatStays (.int .i64 kk) (.int .i64 kk)).run P w = .ok (.int .i64 kk) w := by
        simp [Instr.keyThatStays, Instr.sameBits]
      simp [execOp, hop, e1, e2, e3, Instr.mapUpdate, run_underlying ht, MapKept.run_getObj_map hb, hck, hfk, Result.andThen, hold, hst, set_mk hjl, run_setMap hb ⟨_, _, rfl⟩]) hq
theorem Plan.rangeC {t kt et : TypeId} {x : Operand} {μ q : Nat} {kvs : List (Int × Value)} (ho : ops[i]? = some o) (hop : o.op = .range t x) (hg : wantB ops E o = some true) (hd : ∀ d, o.dst = some d → d < n)
    (hx : opF E x = some (.ex (mapV μ))) (ht : P.underlying t = some (.map kt et)) (hk : look E key = some (heap A H)) (hA : Own I A) (hqH : H[q]? = some (mapC μ kvs))
    (h : ∀ r, Plan P ops Q n I d k (i + 1) (setE o.dst (.ex (ptr r)) ((key, heap A (H ++ [iterC r μ kvs.length []])) :: sieve E))) (hq : d = false ∨ barB ops i = true := by first | exact .inl rfl | exact .inr (by kernel_rfl)) : Plan P ops Q n I d (k + 1) i E :=
  Plan.turnRun ho hg hd hk hA (fun a w φ _ _ hs' hL hLA hfr => by
    have e1 := hs' x (by simp [hop, Op.operands]) _ hx
    simp only [Fa.den] at e1
    have hbm := (hL.holds q _ hqH).1
    have hb : Below w.heap.size w (w.alloc (.mapIter (some μ) kvs.length #[] kvs.length)) := (Below.refl _ _).alloc (Nat.le_refl _) _
    have hL' := hL.add (c' := iterC w.heap.size μ kvs.length []) (F := fun b => b = w.heap.size) hb ⟨heap_alloc_new w _, fun b => Iff.rfl⟩ (fun b e => Nat.le_of_eq e.symm)
    refine ⟨ptr w.heap.size, w.alloc (.mapIter (some μ) kvs.length #[] kvs.length), .ex (ptr w.heap.size), _, _, .inl ?_, .ofBelow hb, hL', fun q b hb => ?_, by simp [Fa.den], h w.heap.size⟩
    · simp [execOp, hop, e1, run_range_map w t kt et μ _ _ ht hbm]
    · by_cases he : q = H.length
      · simp only [if_pos he] at hb; exact hfr b (Nat.le_of_eq hb.symm)
      · simp only [if_neg he] at hb; exact hLA q b hb) hq
theorem Plan.nextC {x : Operand} {r μ q q2 : Nat} {seen : List Nat} {kvs : List (Int × Value)} (ho : ops[i]? = some o) (hop : o.op = .next x false) (hg : wantB ops E o = some true) (hd : ∀ d, o.dst = some d → d < n)
    (hx : opF E x = some (.ex (ptr r))) (hk : look E key = some (heap A H)) (hA : Own I A) (hqH : H[q]? = some (mapC μ kvs)) (hq2 : H[q2]? = some (iterC r μ kvs.length seen))
    (h0 : (∀ j, j < kvs.length → j ∈ seen) → Plan P ops Q n I d k (i + 1) (setE o.dst (.ex (.tuple #[.bool false])) ((key, heap A H) :: sieve E)))
    (h1 : ∀ j p, kvs[j]? = some p → j ∉ seen → Plan P ops Q n I d k (i + 1) (setE o.dst (.ex (.tuple #[.bool true, .int .i64 p.1, p.2])) ((key, heap A (H.set q2 (iterC r μ kvs.length (seen ++ [j])))) :: sieve E)))
    (hq : d = false ∨ barB ops i = true := by first | exact .inl rfl | exact .inr (by kernel_rfl)) : Plan P ops Q n I d (k + 1) i E :=
  Plan.turnRun ho hg hd hk hA (fun a w φ _ _ hs' hL hLA hfr => by
    have e1 := hs' x (by simp [hop, Op.operands]) _ hx
    simp only [Fa.den] at e1
    have hbm := (hL.holds q _ hqH).1
    obtain ⟨hbr, hFr⟩ := hL.holds q2 _ hq2
    have hml : (mkEs kvs).toList = mkL 0 kvs := rfl
    have hbn : ∀ e ∈ mkL 0 kvs, ∃ j p, kvs[j]? = some p ∧ e = ⟨.int .i64 p.1, p.2, j⟩ := fun e he => by
      obtain ⟨j, hj, rfl⟩ := List.getElem_of_mem he
      have h2 := List.getElem?_eq_getElem hj
      rw [mkL_get] at h2
      cases hp : kvs[j]? with
      | none => rw [hp] at h2; cases h2
      | some p =>
        rw [hp] at h2
        simp only [Option.map_some, Option.some.injEq, Nat.zero_add] at h2
        exact ⟨j, p, hp, h2.symm⟩
    have hlt : ∀ e ∈ (mkEs kvs).toList, e.born < kvs.length := fun e he => by
      rw [hml] at he
      obtain ⟨j, p, h2, rfl⟩ := hbn e he
      exact (List.getElem?_eq_some_iff.1 h2).1
    rcases run_next_at (P := P) w o.type r μ kvs.length kvs.length seen.toArray (mkEs kvs) kvs.length hbr hbm hlt (Nat.le_refl _) with ⟨hz, hrun⟩ | ⟨e, he, w1, hw1, hrun⟩
    · have hall : ∀ j, j < kvs.length → j ∈ seen := fun j hj => by
        have hem : leftOf (mkEs kvs) seen.toArray = #[] := Array.eq_empty_of_size_eq_zero hz
        unfold leftOf at hem
        rw [Array.filter_eq_empty_iff] at hem
        have hin : (⟨.int .i64 kvs[j].1, kvs[j].2, j⟩ : MapEntry) ∈ mkEs kvs := by
          rw [← Array.mem_toList_iff, hml]
          refine List.mem_of_getElem? (i := j) ?_
          rw [mkL_get, List.getElem?_eq_getElem hj]
          simp
        have := hem _ hin
        simpa using this
      refine ⟨.tuple #[.bool false], w, .ex (.tuple #[.bool false]), H, φ, .inl ?_, Kept.refl _ _, hL, hLA, by simp [Fa.den], h0 hall⟩
      simp only [execOp, hop, e1]
      simp [hrun]
    · unfold leftOf at he
      rw [Array.toList_filter, List.mem_filter, hml] at he
      obtain ⟨j, p, hp, rfl⟩ := hbn e he.1
      have hns : j ∉ seen := by simpa using he.2
      have hw1h : w1.heap = w.heap := by rcases hw1 with rfl | rfl <;> rfl
      have hw1K : w1.os = w.os ∧ w1.tape = w.tape ∧ w1.output = w.output := by rcases hw1 with rfl | rfl <;> exact ⟨rfl, rfl, rfl⟩
      obtain ⟨w', hw'⟩ : ∃ w', w' = ChangeMaps.setBlock w1 r (.mapIter (some μ) kvs.length (seen.toArray.push j) kvs.length) := ⟨_, rfl⟩
      have hrl : r < w.heap.size := (Array.getElem?_eq_some_iff.1 hbr).1
      have hh : w'.heap = w.heap.setIfInBounds r (.mapIter (some μ) kvs.length (seen.toArray.push j) kvs.length) := by subst hw'; rw [← hw1h]; rfl
      have hK : Kept (φ q2) w w' := by
        refine ⟨?_, ?_, ?_, by rw [hh]; simp, fun b _ hn => ?_⟩
        · subst hw'; exact hw1K.1
        · subst hw'; exact hw1K.2.1
        · subst hw'; exact hw1K.2.2
        · rw [hh, Array.getElem?_setIfInBounds_ne (fun e => hn ((hFr b).2 e.symm))]
      have hc2 : (iterC r μ kvs.length (seen ++ [j])).holds w' (φ q2) := ⟨by
        rw [hh]
        simp [Array.getElem?_setIfInBounds, hrl], hFr⟩
      have hqlt : q2 < H.length := (List.getElem?_eq_some_iff.1 hq2).1
      have hL' := hL.upd hqlt hK hc2 (fun b hb => .inl hb)
      refine ⟨.tuple #[.bool true, .int .i64 p.1, p.2], w', .ex (.tuple #[.bool true, .int .i64 p.1, p.2]), _, _, .inl ?_, hK.mono (fun b _ hb => hLA q2 b hb), hL', wide (H := H) hLA hfr (fun b hb => .inl hb), by simp [Fa.den], h1 j p hp hns⟩
      simp only [execOp, hop, e1]
      simp [hrun, hw']) hq
theorem Plan.entryC {x : Operand} {r μ q q2 j : Nat} {seen : List Nat} {p : Int × Value} {kvs : List (Int × Value)} (ho : ops[i]? = some o) (hop : o.op = .entry x) (hg : wantB ops E o = some true)
    (hx : opF E x = some (.ex (ptr r))) (hk : look E key = some (heap A H)) (hqH : H[q]? = some (mapC μ kvs)) (hq2 : H[q2]? = some (iterC r μ kvs.length (seen ++ [j]))) (hp : kvs[j]? = some p) (hkn : n ≤ key)
    (h : Plan P ops Q n I d k (i + 1) (setE o.dst (.ex (.tuple #[.int .i64 p.1, p.2])) E)) : Plan P ops Q n I d (k + 1) i E :=
  Plan.step ho (Step.runK ho hg fun a w _ hs' hK => by
    have e1 := hs' x (by simp [hop, Op.operands]) _ hx
    simp only [Fa.den] at e1
    obtain ⟨φ, hL, _⟩ := hK key hkn _ hk
    have hbm := (hL.holds q _ hqH).1
    have hbr := (hL.holds q2 _ hq2).1
    have hml : (mkEs kvs).toList = mkL 0 kvs := rfl
    have hin : (⟨.int .i64 p.1, p.2, j⟩ : MapEntry) ∈ (mkEs kvs).toList := by
      rw [hml]
      refine List.mem_of_getElem? (i := j) ?_
      rw [mkL_get, hp]
      simp
    have hnd : ((mkEs kvs).toList.map (·.born)).Nodup := by rw [hml, mkL_born]; exact List.nodup_range'
    have hbr' : w.heap[r]? = some (.mapIter (some μ) kvs.length (seen.toArray.push j) kvs.length) := by rw [hbr]; simp
    have hrun := run_entry_at (P := P) w r μ kvs.length seen.toArray (mkEs kvs) kvs.length ⟨.int .i64 p.1, p.2, j⟩ hbr' hbm hin hnd
    refine ⟨.tuple #[.int .i64 p.1, p.2], w, ?_, Below.refl _ _, by simp [Fa.den]⟩
    simp only [execOp, hop, e1]
    simp [hrun]) h
end
end Go.Free
end

section
namespace Go.Free
open Go.RowKit
theorem dens_caps {w : World} {caps : List Value} : ∀ {fs : List Fa} {vs : List Value}, Fa.dens fs w vs → Fa.dens (fs ++ caps.map .ex) w (vs ++ caps)
  | [], vs, h => by
    simp only [Fa.dens] at h
    subst h
    simp only [List.nil_append]
    induction caps with
    | nil => simp [Fa.dens]
    | cons u r ih => exact ⟨_, _, rfl, by simp [Fa.den], ih⟩
  | f :: fs, vs, h => by
    simp only [Fa.dens] at h
    obtain ⟨v, r, rfl, h1, h2⟩ := h
    exact ⟨v, _, rfl, h1, dens_caps h2⟩
section
variable {P : Program} {ops : Array Oper} {Q : Exit → Act → World → Prop} {n : Nat} {I : World → Prop} {k i : Nat} {E : Env} {o : Oper} {d : Bool} {A : Nat → Prop} {H : List Chunk} {key : Nat}
theorem Plan.callFG {f : FuncId} {xf : Operand} {xs : List Operand} {ts : Array TypeId} {caps : List Value} {fs : List Fa} {c : Chunk} (D : Chunk) {X : Type} {ok : X → Prop} {R : X → Fa} {c' : X → Chunk} {fn : Func} (H' : X → List Chunk) (ho : ops[i]? = some o)
    (hop : o.op = .call { callee := .value xf, args := xs.toArray, argTypes := ts }) (hg : wantB ops E o = some true) (hxf : opF E xf = some (.ex (.func (.func f) #[] caps.toArray))) (hc : SpcC P f (fs ++ caps.map .ex) c ok R c')
    (hf : P.funcs[f]? = some fn) (hbody : fn.body.isNone = false) (hname : (fn.name == "runtime.NumGoroutine") = false) (hd : ∀ d, o.dst = some d → d < n)
    (hx : Opnds I E xs fs) (hk : look E key = some (heap A H)) (hA : Own I A) (hsp : Ent (allC H) (Free.sepC c D)) (hjn : ∀ x, Ent (Free.sepC (c' x) D) (allC (H' x)))
    (h : ∀ x, ok x → Plan P ops Q n I d k (i + 1) (setE o.dst (R x) ((key, heap A (H' x)) :: sieve E))) (hq : d = false ∨ barB ops i = true := by first | exact .inl rfl | exact .inr (by kernel_rfl)) : Plan P ops Q n I d (k + 1) i E :=
  Plan.turn ho hg hd hk hA (fun a w φ hI hs hs' hL hLA hfr hsh => by
    unfold wpOp
    simp only [ho, wantB_spec ho hsh (fun t _ f hf => hs t f hf) hg, if_true]
    refine .inl ?_
    unfold Oper.wp
    have e1 := hs' xf (by simp [hop, Op.operands, Call.operands]) _ hxf
    simp only [Fa.den] at e1
    have hrun : (execOp a.eval o).run P w = .ok (.enter f ((xs.map a.eval).toArray ++ caps.toArray)) w := by
      have hn : ¬ fn.name = "runtime.NumGoroutine" := by simpa using hname
      have hb : ¬ fn.body = none := by intro e; rw [e] at hbody; cases hbody
      simp [execOp, hop, resolve, invoke, callFunc, Deferred.ofValue, e1, hf, hb, hn]
    rw [hrun]
    simp only [Oper.upon]
    have hden := Opnds.dens (a := a) hI hx (fun x hxm f hf => hs' x (by simp [hop, Op.operands, Call.operands, hxm]) f hf)
    obtain ⟨G0, hG0, hG0s⟩ := hsp w _ hL.all
    obtain ⟨Gc, Gd, hG, hdis, hcH, hdH⟩ := hG0
    have hcc := hc w _ Gc (dens_caps hden) hcH
    rw [show (xs.map a.eval ++ caps).toArray = (xs.map a.eval).toArray ++ caps.toArray by simp] at hcc
    refine hcc.mono ?_
    rintro e w' ⟨v, x, rfl, hok, hK, hR, F', hF', hFb⟩
    have hdH' : D.holds w' Gd := D.keep hdH hK (fun b hb hc => hdis b hc hb)
    obtain ⟨G2, hG2, hG2s⟩ := hjn x w' (fun b => F' b ∨ Gd b) ⟨F', Gd, fun b => Iff.rfl, fun b hb hb2 => by
      rcases hFb b hb with h1 | h1
      · exact hdis b h1 hb2
      · have := D.lt w Gd b hdH hb2; omega, hF', hdH'⟩
    obtain ⟨φ', hL', hφ'⟩ := Lies.ofAll hG2
    have hin : ∀ b, Gc b ∨ Gd b → A b := fun b hb => by
      obtain ⟨q, hq⟩ := hG0s b ((hG b).2 hb)
      exact hLA q b hq
    refine ⟨v, R x, H' x, φ', rfl, hK.mono (fun b _ hb => hin b (.inl hb)), hL', fun q b hb => ?_, hR, h x hok⟩
    rcases hG2s b (hφ' q b hb) with h1 | h1
    · rcases hFb b h1 with h2 | h2
      · exact hin b (.inl h2)
      · exact hfr b h2
    · exact hin b (.inr h1)) hq
theorem J.tellC {c : Code} {ch : Chunk} {q : Nat} {p : Prop} (hk : look E key = some (heap A H)) (hqH : H[q]? = some ch) (hp : ∀ w F, ch.holds w F → p) (h : p → J P n I c Q E) : J P n I c Q E := fun a w h1 h2 h3 => by
  obtain ⟨φ, hL, _⟩ := h3 key _ hk
  exact h (hp w _ (hL.holds q _ hqH)) a w h1 h2 h3
end
theorem Nrm.retRow {P : Program} {n : Nat} {E : Env} {H : List Chunk} {key : Nat} {fn : Func} {w0 : World} {t q e sz m cap : Nat} {B : Option Addr} {cs : List Value} (hr : fn.results = #[.tmp t]) (hl : look E t = some (.ex (.slice B m cap)))
    (hk : look E key = some (heap (fun b => w0.heap.size ≤ b) H)) (hq : H[q]? = some (rowC e sz B m cap cs)) :
    Nrm n (fun w => Below w0.heap.size w0 w) (FnPost P fn (fun B => Free.own B e sz cs) w0 .ret) E := fun a w hi h2 h3 => by
  obtain ⟨φ, hL, hA⟩ := h3 key _ hk
  have hv := h3 t _ hl
  simp only [Fa.den] at hv
  refine ⟨h2.defers, _, results_tmp hr _ _ _, hi, fun B0 hB => ?_⟩
  show ownH B0 e sz cs w (a.slot t)
  rw [hv]
  obtain ⟨hh, hF⟩ := hL.holds q _ hq
  have hi2 : Below w0.heap.size w0 w := hi
  refine ⟨Nat.le_trans hB hi2.size, m, hh.1, ?_⟩
  rcases hh.2 with h0 | ⟨g, cp, cur, hv, hb, r⟩
  · exact .inl h0
  · refine .inr ⟨g, cp, cur, hv, ?_, r⟩
    have := hA q g ((hF g).2 (by rw [hv]; rfl))
    omega
theorem row_at {e sz m cap : Nat} {B : Option Addr} {xs : List Value} (h : 0 < xs.length) : ∀ w F, (rowC e sz B m cap xs).holds w F → ∃ g, B = some ⟨g, 0, none⟩ := fun w F hh => by
  obtain ⟨h1, _, _, h4, h5⟩ := row_room hh
  cases B with
  | none => rw [(h4 rfl).1] at h1; omega
  | some ad => exact ⟨ad.block, by rw [← h5 ad rfl]⟩
theorem Ent.takeOut {L : List Chunk} {j : Nat} {c : Chunk} (h : L[j]? = some c) : Ent (allC L) (sepC c (allC (L.eraseIdx j))) := by
  induction L generalizing j with
  | nil => cases h
  | cons x r ih =>
    cases j with
    | zero => simp only [List.getElem?_cons_zero, Option.some.injEq] at h; subst h; exact Ent.refl _
    | succ j =>
      simp only [List.getElem?_cons_succ] at h
      exact (Ent.sep (Ent.refl x) (ih h)).trans Ent.swap
theorem Ent.layBack {L : List Chunk} {j : Nat} {c : Chunk} (h : j < L.length) : Ent (sepC c (allC (L.eraseIdx j))) (allC (L.set j c)) := by
  induction L generalizing j with
  | nil => simp at h
  | cons x r ih =>
    cases j with
    | zero => exact Ent.refl _
    | succ j =>
      simp only [List.length_cons, Nat.add_lt_add_iff_right] at h
      exact Ent.swap.trans (Ent.sep (Ent.refl x) (ih h))
end Go.Free
end

section
namespace Go.Proofs.YtmljgobenlpnfaaGreat
open Go.Free Go.RowKit Go.Proofs
set_option maxHeartbeats 2000000
theorem later_cmp (b a : EvV) : decide (firstN [cmp3 b.time a.time, cmp3 b.r a.r, cmp3 b.n a.n] > 0) = later b a := by
  unfold later
  apply decide_eq_decide.2
  simp only [firstN, cmp3]
  repeat' split
  all_goals omega
theorem later_fn (b a : EvV) : Spc Tryz.prog 99 [.ex (aggE b), .ex (aggE a)] fun _ => .ex (.bool (later b a)) := by
  refine Spc.intro Tryz.func99 rfl (Nat.le_of_ble_eq_true rfl) fun w0 => ?_
  have hI := hIb w0
  have hA := Own.below w0
  refine J.heap0 1000 (newB w0) ?_
  repeat (refine J.seq (J.region mixed hI (by kernel_rfl) ?_))
  refine Plan.boxC (key := 1000) rfl rfl rfl (by intro _ e; cases e; decide) rfl rfl hA fun β => ?_
  refine Plan.boxC (key := 1000) rfl rfl rfl (by intro _ e; cases e; decide) rfl rfl hA fun γ => ?_
  repeat (first | refine Plan.assign rfl rfl rfl rfl ?_ | refine Plan.fieldC rfl rfl rfl rfl (by first | exact Tryz.underlying58 | exact Tryz.underlying40) rfl (by kernel_rfl) (by exact (rfl : _ = 2)) ?_ | refine Plan.loadC (key := 1000) (q := 0) rfl rfl rfl rfl rfl rfl (obj_reads1 rfl) (by exact Tryz.underlying3) (by rfl) (by decide) ?_ | refine Plan.loadC (key := 1000) (q := 1) rfl rfl rfl rfl rfl rfl (obj_reads1 rfl) (by exact Tryz.underlying3) (by rfl) (by decide) ?_ | refine J.seq (J.region mixed hI (by kernel_rfl) ?_))
  refine Plan.call (B := w0.heap.size) rfl rfl rfl (compare_fn b.time a.time) Tryz.func83 rfl rfl (hBb w0) (by repeat (first | exact Opnds.nil | refine Opnds.cons rfl (by exact Sub.refl _) ?_)) ?_
  repeat (first | refine Plan.fieldC rfl rfl rfl rfl (by first | exact Tryz.underlying58 | exact Tryz.underlying40 | exact Tryz.underlying34) rfl (by kernel_rfl) (by exact (rfl : _ = 0)) ?_ | refine Plan.loadC (key := 1000) (q := 0) rfl rfl rfl rfl rfl rfl (obj_reads1 rfl) (by exact Tryz.underlying3) (by rfl) (by decide) ?_ | refine Plan.loadC (key := 1000) (q := 1) rfl rfl rfl rfl rfl rfl (obj_reads1 rfl) (by exact Tryz.underlying3) (by rfl) (by decide) ?_)
  refine Plan.call (B := w0.heap.size) rfl rfl rfl (compare_fn b.r a.r) Tryz.func83 rfl rfl (hBb w0) (by repeat (first | exact Opnds.nil | refine Opnds.cons rfl (by exact Sub.refl _) ?_)) ?_
  repeat (first | refine Plan.fieldC rfl rfl rfl rfl (by first | exact Tryz.underlying58 | exact Tryz.underlying40 | exact Tryz.underlying34) rfl (by kernel_rfl) (by first | exact (rfl : _ = 0) | exact (rfl : _ = 1)) ?_ | refine Plan.loadC (key := 1000) (q := 0) rfl rfl rfl rfl rfl rfl (obj_reads1 rfl) (by exact Tryz.underlying3) (by rfl) (by decide) ?_ | refine Plan.loadC (key := 1000) (q := 1) rfl rfl rfl rfl rfl rfl (obj_reads1 rfl) (by exact Tryz.underlying3) (by rfl) (by decide) ?_)
  refine Plan.call (B := w0.heap.size) rfl rfl rfl (compare_fn b.n a.n) Tryz.func83 rfl rfl (hBb w0) (by repeat (first | exact Opnds.nil | refine Opnds.cons rfl (by exact Sub.refl _) ?_)) ?_
  refine Plan.lit (B := w0.heap.size) rfl rfl rfl eltI rfl (hBb w0) rfl (by simp [Value.cells]) (by decide) ?_
  refine Plan.call (B := w0.heap.size) rfl rfl rfl (or_fn [cmp3 b.time a.time, cmp3 b.r a.r, cmp3 b.n a.n] (by simp)) Tryz.func82 rfl rfl (hBb w0) (by repeat (first | exact Opnds.nil | refine Opnds.cons rfl (by exact Sub.own) ?_)) ?_
  repeat (first | refine Plan.assign rfl rfl rfl rfl ?_ | (refine Plan.ints rfl rfl rfl rfl rfl rfl ?_; (skip)))
  rw [later_cmp]
  exact J.ret (Nrm.ret1 rfl (fun _ h => h) rfl fun B _ => Sub.refl _)
end Go.Proofs.YtmljgobenlpnfaaGreat
end
