/-
  Frames in which bits within 16 side by side are turned: the plain law.
-/
import Derived.Test.YtdfdhhepbkejpaaFrameCut
import Derived.Test.YtdfdhhepbkejpaaCrcBurst
namespace Go.Proofs.Ytdfdhhepbkejpaa
open Go.Free Go.RowKit Go.Proofs

/-- Bits turned from a place on, up to i of them, those that are chosen. -/
def burst (l : List UInt8) (p : Nat) (sel : Nat → Bool) : Nat → List UInt8
  | 0 => l
  | i + 1 => if sel i then flipAt (burst l p sel i) (p + i) else burst l p sel i
theorem burst_length (l : List UInt8) (p : Nat) (sel : Nat → Bool) : ∀ i, (burst l p sel i).length = l.length
  | 0 => rfl
  | i + 1 => by
    unfold burst
    split
    · rw [flip_length, burst_length l p sel i]
    · exact burst_length l p sel i
theorem flip_far {l : List UInt8} {p : Nat} (h : 8 * l.length ≤ p) : flipAt l p = l := by
  unfold flipAt
  rw [List.set_eq_of_length_le (by omega)]
theorem burst_far {l : List UInt8} {p : Nat} (sel : Nat → Bool) (h : 8 * l.length ≤ p) : ∀ i, burst l p sel i = l
  | 0 => rfl
  | i + 1 => by
    unfold burst
    rw [burst_far sel h i]
    split
    · exact flip_far (by omega)
    · rfl
theorem flip_take (l : List UInt8) (p n : Nat) : (flipAt l p).take n = flipAt (l.take n) p := by
  unfold flipAt
  rw [List.take_set]
  by_cases h : p / 8 < n
  · congr 2
    simp only [List.getD_eq_getElem?_getD, List.getElem?_take, if_pos h]
  · rw [List.set_eq_of_length_le (by rw [List.length_take]; omega), List.set_eq_of_length_le (by rw [List.length_take]; omega)]
theorem burst_take (l : List UInt8) (p : Nat) (sel : Nat → Bool) (n : Nat) : ∀ i, (burst l p sel i).take n = burst (l.take n) p sel i
  | 0 => rfl
  | i + 1 => by
    unfold burst
    split
    · rw [flip_take, burst_take l p sel n i]
    · exact burst_take l p sel n i
theorem flip_drop (l : List UInt8) {p n : Nat} (h : 8 * n ≤ p) : (flipAt l p).drop n = flipAt (l.drop n) (p - 8 * n) := by
  unfold flipAt
  have e1 : (p - 8 * n) / 8 = p / 8 - n := by omega
  have e2 : bitAt (p - 8 * n) = bitAt p := by unfold bitAt; rw [show (p - 8 * n) % 8 = p % 8 by omega]
  rw [List.drop_set, if_neg (by omega), e1, e2]
  congr 2
  simp only [List.getD_eq_getElem?_getD, List.getElem?_drop]
  rw [show n + (p / 8 - n) = p / 8 by omega]
theorem burst_drop (l : List UInt8) {p n : Nat} (sel : Nat → Bool) (h : 8 * n ≤ p) : ∀ i, (burst l p sel i).drop n = burst (l.drop n) (p - 8 * n) sel i
  | 0 => rfl
  | i + 1 => by
    unfold burst
    split
    · rw [flip_drop _ (by omega), burst_drop l sel h i, show p + i - 8 * n = p - 8 * n + i by omega]
    · exact burst_drop l sel h i
/-- What lies ahead of the first bit that is chosen is left out. -/
theorem burst_skip (l : List UInt8) (p j : Nat) (sel : Nat → Bool) (h : ∀ i, i < j → sel i = false) : ∀ i, burst l p sel (j + i) = burst l (p + j) (fun q => sel (j + q)) i
  | 0 => by
    have : ∀ k, k ≤ j → burst l p sel k = l := by
      intro k
      induction k with
      | zero => intro _; rfl
      | succ k ih => intro hk; unfold burst; rw [h k (by omega), if_neg (by simp)]; exact ih (by omega)
    exact this j (Nat.le_refl _)
  | i + 1 => by
    rw [show j + (i + 1) = (j + i) + 1 by omega]
    unfold burst
    rw [burst_skip l p j sel h i, show p + (j + i) = p + j + i by omega]
/-- What they do to the check: as far as they lie in the bytes. -/
def topS (sel : Nat → Bool) : Nat → BitVec 16
  | 0 => 0#16
  | i + 1 => if sel i then topS sel i ^^^ crcSteps (15 - i) 1#16 else topS sel i
theorem topS_high (sel : Nat → Bool) (h : sel 0 = true) : ∀ i, i < 16 → (topS sel (i + 1)).getLsbD 15 = true
  | 0, _ => by
    simp only [topS, h, if_true, BitVec.zero_xor]
    rw [steps_one _ (by omega), BitVec.getLsbD_twoPow]; rfl
  | i + 1, hi => by
    have ih := topS_high sel h i (by omega)
    rw [topS]
    split
    · rw [BitVec.getLsbD_xor, ih, steps_one _ (by omega), BitVec.getLsbD_twoPow]
      have : (decide (15 - (i + 1) < 16) && decide (15 - (i + 1) = 15)) = false := by
        have : ¬ (15 - (i + 1) = 15) := by omega
        rw [decide_eq_false this, Bool.and_false]
      rw [this]; rfl
    · exact ih
theorem crc_burst (l : List UInt8) (p : Nat) (sel : Nat → Bool) (hp : p < 8 * l.length) : ∀ i, i ≤ 16 → crcOf (burst l p sel i) = crcOf l ^^^ crcSteps (8 * l.length - p) (topS (fun j => sel j && decide (p + j < 8 * l.length)) i)
  | 0, _ => by simp only [burst, topS, steps_of_zero, BitVec.xor_zero]
  | i + 1, hi => by
    have ih := crc_burst l p sel hp i (by omega)
    unfold burst topS
    by_cases hs : sel i = true
    · by_cases hr : p + i < 8 * l.length
      · rw [if_pos hs, if_pos (by simp [hs, hr])]
        unfold crcOf at ih ⊢
        rw [from_flip _ _ _ (by rw [burst_length]; exact hr), ih, burst_length, steps_xor, ← steps_add, BitVec.xor_assoc]
        congr 3
        omega
      · rw [if_pos hs, if_neg (by simp [hr]), flip_far (by rw [burst_length]; omega)]
        exact ih
    · rw [if_neg hs, if_neg (by simp [hs])]
      exact ih
theorem burst_fits (x : List UInt8) (p : Nat) (sel : Nat → Bool) (hs : sel 0 = true) (i : Nat) (hi : i < 16) (hp : p < 8 * (crcSeal x).length) : fits (burst (crcSeal x) p sel (i + 1)) = false := by
  have hl : (crcSeal x).length = x.length + 2 := seal_length x
  have h0 : crcOf (crcSeal x) = 0#16 := (fits_zero _ (by omega)).1 (by rw [fits_seal]; rfl)
  have hc := crc_burst (crcSeal x) p sel hp (i + 1) (by omega)
  rw [h0, BitVec.zero_xor] at hc
  cases hf : fits (burst (crcSeal x) p sel (i + 1)) with
  | false => rfl
  | true =>
    have hz := (fits_zero _ (by rw [burst_length]; omega)).1 hf
    rw [hc] at hz
    have h1 := steps_zero _ hz
    have h2 := topS_high (fun j => sel j && decide (p + j < 8 * (crcSeal x).length)) (by simp [hs, hp]) i hi
    rw [h1] at h2
    simp at h2
/-- A frame with such bits turned is none. -/
theorem fTake0_turned (x r : List UInt8) (h : x.length ≤ 65529) (p : Nat) (sel : Nat → Bool) (hs : sel 0 = true) (i : Nat) (hi : i < 16) (hp : p < 8 * (fPut x).length) : (fTake0 (burst (fPut x ++ r) p sel (i + 1))).2.2 ≠ 0 := by
  rw [fPut_length] at hp
  have hll : (burst (fPut x ++ r) p sel (i + 1)).length = x.length + 6 + r.length := by rw [burst_length, List.length_append, fPut_length]
  have hh : (crcSeal (hdr x.length)).length = 4 := by rw [seal_length]; rfl
  have e4 : (fPut x ++ r).take 4 = crcSeal (hdr x.length) := by
    rw [List.take_append_of_le_length (by rw [fPut_length]; omega)]
    unfold fPut; rw [List.take_left' hh]
  have hb4 : (burst (fPut x ++ r) p sel (i + 1)).take 4 = burst (crcSeal (hdr x.length)) p sel (i + 1) := by rw [burst_take, e4]
  unfold fTake0
  rw [hll, if_neg (by omega), hb4]
  by_cases h32 : p < 32
  · rw [if_pos (burst_fits _ p sel hs i hi (by rw [hh]; omega))]; decide
  · rw [burst_far sel (by rw [hh]; omega)]
    unfold opened fits
    rw [fits_seal]
    simp only [Option.getD_some, Option.isSome_some]
    rw [hlen_hdr h, if_neg (by decide), if_neg (by omega), if_neg (by omega)]
    have eb : ((burst (fPut x ++ r) p sel (i + 1)).take (x.length + 6)).drop 4 = burst (crcSeal x) (p - 32) sel (i + 1) := by
      rw [burst_take, burst_drop _ sel (by omega)]
      congr 1
      rw [List.take_append_of_le_length (by rw [fPut_length]; omega), List.take_of_length_le (by rw [fPut_length]; omega)]
      unfold fPut; rw [List.drop_left' hh]
    rw [eb]
    have := burst_fits x (p - 32) sel hs i hi (by rw [seal_length]; omega)
    unfold fits at this
    rw [if_pos this]; decide
theorem scan_turned (ls : List (List UInt8)) (h : ∀ x ∈ ls, x.length ≤ 65529) (p : Nat) (sel : Nat → Bool) (hs : sel 0 = true) (i : Nat) (hi : i < 16) (hp : p < 8 * (frames ls).length) :
    ∃ m, m < ls.length ∧ (frames (ls.take m)).length ≤ p / 8 ∧ p / 8 < (frames (ls.take m)).length + ((ls.getD m []).length + 6) ∧ scanL (burst (frames ls) p sel (i + 1)) 0 = (ls.take m, (frames (ls.take m)).length) := by
  obtain ⟨m, j, h1, h2, h3, _⟩ := cut_at ls (p / 8) (by omega)
  rw [fPut_length] at h2
  refine ⟨m, h1, by omega, by omega, ?_⟩
  have hx : (ls.getD m []).length ≤ 65529 := by
    rw [List.getD_eq_getElem?_getD, List.getElem?_eq_getElem h1]; exact h _ (List.getElem_mem h1)
  have hsp : frames ls = frames (ls.take m) ++ (fPut (ls.getD m []) ++ frames (ls.drop (m + 1))) := by
    conv => lhs; rw [← List.take_append_drop m ls, List.drop_eq_getElem_cons h1]
    rw [frames_append, frames_cons, List.getD_eq_getElem?_getD, List.getElem?_eq_getElem h1]; rfl
  obtain ⟨n, hn⟩ : ∃ n, n = (frames (ls.take m)).length := ⟨_, rfl⟩
  have ht : (burst (frames ls) p sel (i + 1)).take n = frames (ls.take m) := by
    rw [burst_take, burst_far sel (by rw [List.length_take]; omega), hsp, hn, List.take_left]
  have hd : (burst (frames ls) p sel (i + 1)).drop n = burst (fPut (ls.getD m []) ++ frames (ls.drop (m + 1))) (p - 8 * n) sel (i + 1) := by
    rw [burst_drop _ sel (by omega), hsp, hn, List.drop_left]
  have hr := fTake0_turned (ls.getD m []) (frames (ls.drop (m + 1))) hx (p - 8 * n) sel hs i hi (by rw [fPut_length]; omega)
  rw [← hd] at hr
  have hsc := scan_frames _ hr (ls.take m) [] fun x hx => h x (List.mem_of_mem_take hx)
  rw [← List.take_append_drop n (burst (frames ls) p sel (i + 1)), ht]
  simpa using hsc
end Go.Proofs.Ytdfdhhepbkejpaa
