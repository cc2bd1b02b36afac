/-
  Numbers as bytes, the highest bits first: the plain functions and their laws, without program and memory.
-/
import Derived.Test.YthjneijkapopoaaFreeSeat
set_option linter.unusedSimpArgs false
set_option linter.unusedVariables false
set_option maxRecDepth 20000
namespace Go.Proofs.Ythjneijkapopoaa
open Go.Free Go.RowKit Go.Proofs

def digit (m : Nat) : UInt8 := UInt8.ofNat (128 + m % 128)
def lastD (m : Nat) : UInt8 := UInt8.ofNat (m % 128)
theorem digit_nat (m : Nat) : (digit m).toNat = 128 + m % 128 := by simp [digit]; omega
theorem lastD_nat (m : Nat) : (lastD m).toNat = m % 128 := by simp [lastD]; omega
def numHi (m : Nat) : List UInt8 := if _h : m = 0 then [] else numHi (m / 128) ++ [digit m]
decreasing_by omega
theorem numHi_zero : numHi 0 = [] := by unfold numHi; rfl
theorem numHi_pos {m : Nat} (h : m ≠ 0) : numHi m = numHi (m / 128) ++ [digit m] := by rw [numHi]; simp [h]
def num (u : Nat) : List UInt8 := numHi (u / 128) ++ [lastD u]

/-- How many bits. -/
def bl (n : Nat) : Nat := if n = 0 then 0 else Nat.log2 n + 1
theorem bl_lt (n : Nat) : n < 2 ^ bl n := by
  unfold bl
  by_cases h : n = 0
  · simp [h]
  · simp only [if_neg h]; exact Nat.lt_log2_self
theorem bl_le {n : Nat} (h : n ≠ 0) : 2 ^ (bl n - 1) ≤ n := by
  unfold bl; simp only [if_neg h, Nat.add_sub_cancel]; exact Nat.log2_self_le h
theorem bl_of {n b : Nat} (h1 : n < 2 ^ (b + 1)) (h2 : 2 ^ b ≤ n) : bl n = b + 1 := by
  have h0 : n ≠ 0 := by have := Nat.pow_pos (n := b) (show 0 < 2 by decide); omega
  have e1 := bl_lt n
  have e2 := bl_le h0
  have : bl n - 1 < b + 1 := (Nat.pow_lt_pow_iff_right (by decide)).1 (Nat.lt_of_le_of_lt e2 h1)
  have : b < bl n := (Nat.pow_lt_pow_iff_right (by decide)).1 (Nat.lt_of_le_of_lt h2 e1)
  omega
theorem bl_shift {n k : Nat} (h : 2 ^ k ≤ n) : bl n = bl (n / 2 ^ k) + k := by
  have hpos : 0 < n / 2 ^ k := Nat.div_pos h (Nat.pow_pos (by decide))
  have e1 := bl_lt (n / 2 ^ k)
  have e2 := bl_le (Nat.pos_iff_ne_zero.1 hpos)
  have hb : 1 ≤ bl (n / 2 ^ k) := by unfold bl; rw [if_neg (Nat.pos_iff_ne_zero.1 hpos)]; omega
  obtain ⟨b, hbb⟩ : ∃ b, bl (n / 2 ^ k) = b + 1 := ⟨bl (n / 2 ^ k) - 1, by omega⟩
  rw [hbb] at e1 e2 ⊢
  rw [show b + 1 + k = (b + k) + 1 by omega]
  refine bl_of ?_ ?_
  · have := (Nat.div_lt_iff_lt_mul (Nat.pow_pos (n := k) (show 0 < 2 by decide))).1 e1
    rw [show b + k + 1 = (b + 1) + k by omega, Nat.pow_add]; exact this
  · have := (Nat.le_div_iff_mul_le (Nat.pow_pos (n := k) (show 0 < 2 by decide))).1 e2
    rw [Nat.add_sub_cancel, ← Nat.pow_add] at this; exact this
/-- How many digits stand ahead of the last one. -/
def ahead (u : Nat) : Nat := (max (bl u) 1 - 1) / 7
theorem ahead_lt (u : Nat) : u < 128 ^ (ahead u + 1) := by
  have h := bl_lt u
  have : bl u ≤ 7 * (ahead u + 1) := by unfold ahead; omega
  have h2 : 2 ^ bl u ≤ 2 ^ (7 * (ahead u + 1)) := Nat.pow_le_pow_right (by decide) this
  rw [Nat.pow_mul] at h2
  exact Nat.lt_of_lt_of_le h h2
theorem ahead_le {u : Nat} (h : ahead u ≠ 0) : 128 ^ ahead u ≤ u := by
  have hu : u ≠ 0 := by rintro rfl; simp [ahead, bl] at h
  have h1 := bl_le hu
  have : 7 * ahead u ≤ bl u - 1 := by unfold ahead; omega
  have h2 : 2 ^ (7 * ahead u) ≤ 2 ^ (bl u - 1) := Nat.pow_le_pow_right (by decide) this
  rw [Nat.pow_mul] at h2
  exact Nat.le_trans h2 h1
theorem ahead_of {u k : Nat} (h1 : u < 128 ^ (k + 1)) (h2 : k ≠ 0 → 128 ^ k ≤ u) : ahead u = k := by
  have a1 := ahead_lt u
  rcases Nat.lt_trichotomy (ahead u) k with h | h | h
  · have := h2 (by omega)
    have h3 : 128 ^ (ahead u + 1) ≤ 128 ^ k := Nat.pow_le_pow_right (by decide) (by omega)
    omega
  · exact h
  · have := ahead_le (u := u) (by omega)
    have h3 : 128 ^ (k + 1) ≤ 128 ^ ahead u := Nat.pow_le_pow_right (by decide) (by omega)
    omega
theorem ahead_bd {u : Nat} (h : u < 2 ^ 64) : ahead u ≤ 9 := by
  have : bl u ≤ 64 := by
    by_cases hu : u = 0
    · simp [hu, bl]
    · have h1 := bl_le hu
      have : bl u - 1 < 64 := (Nat.pow_lt_pow_iff_right (by decide)).1 (Nat.lt_of_le_of_lt h1 h)
      omega
  unfold ahead; omega

/-- The digits of the places K down to K - q + 1. -/
def emit (u K q : Nat) : List UInt8 := (List.range q).map fun i => digit (u / 128 ^ (K - i))
theorem emit_succ (u K q : Nat) : emit u K (q + 1) = emit u K q ++ [digit (u / 128 ^ (K - q))] := by simp [emit, List.range_succ]
theorem numHi_emit : ∀ (K m : Nat), m < 128 ^ K → (K ≠ 0 → 128 ^ (K - 1) ≤ m) → numHi m = (List.range K).map fun i => digit (m / 128 ^ (K - 1 - i))
  | 0, m, h, _ => by
    obtain rfl : m = 0 := by simpa using h
    rw [numHi_zero]; rfl
  | K + 1, m, h, h2 => by
    have h2' := h2 (by omega)
    simp only [Nat.add_sub_cancel] at h2'
    have hm : m ≠ 0 := by have := Nat.pow_pos (n := K) (show 0 < 128 by decide); omega
    rw [numHi_pos hm]
    have ih := numHi_emit K (m / 128) (by rw [Nat.div_lt_iff_lt_mul (by decide), ← Nat.pow_succ]; exact h) (fun hK => by
      rw [Nat.le_div_iff_mul_le (by decide), ← Nat.pow_succ]; show 128 ^ (K - 1 + 1) ≤ m; rw [show K - 1 + 1 = K by omega]; exact h2')
    rw [ih, List.range_succ, List.map_append]
    congr 1
    · refine List.map_congr_left fun i hi => ?_
      have hi' : i < K := List.mem_range.1 hi
      rw [Nat.div_div_eq_div_mul, ← Nat.pow_succ']
      congr 3; omega
    · simp
theorem num_emit (u : Nat) : num u = emit u (ahead u) (ahead u) ++ [lastD u] := by
  unfold num
  congr 1
  have h1 := ahead_lt u
  rw [numHi_emit (ahead u) (u / 128) (by rw [Nat.div_lt_iff_lt_mul (by decide), ← Nat.pow_succ]; exact h1) (fun h => by
    rw [Nat.le_div_iff_mul_le (by decide), ← Nat.pow_succ]; show 128 ^ (ahead u - 1 + 1) ≤ u; rw [show ahead u - 1 + 1 = ahead u by omega]; exact ahead_le h)]
  unfold emit
  refine List.map_congr_left fun i hi => ?_
  have hi' : i < ahead u := List.mem_range.1 hi
  rw [Nat.div_div_eq_div_mul, ← Nat.pow_succ']
  congr 3; omega
theorem num_length (u : Nat) : (num u).length = ahead u + 1 := by rw [num_emit]; simp [emit]
theorem num_le {u : Nat} (h : u < 2 ^ 64) : (num u).length ≤ 10 := by rw [num_length]; have := ahead_bd h; omega
theorem num_pos (u : Nat) : 0 < (num u).length := by rw [num_length]; omega

/-! ### Taking -/
def takeL : Nat → Nat → List UInt8 → Nat × Nat × Nat
  | _, _, [] => (0, 0, 2)
  | n, i, c :: r =>
    if i = 0 ∧ c = 128 then (0, 0, 3)
    else if 144115188075855872 ≤ n then (0, 0, 4)
    else if c.toNat < 128 then (n * 128 + c.toNat % 128, i + 1, 0) else takeL (n * 128 + c.toNat % 128) (i + 1) r
/-- What is taken at a place: the number, the place behind it, the error. -/
def vTake (l : List UInt8) (at_ : Int) : Nat × Nat × Nat :=
  if at_ < 0 ∨ (l.length : Int) < at_ then (0, 0, 1)
  else if (takeL 0 0 (l.drop at_.toNat)).2.2 = 0 then ((takeL 0 0 (l.drop at_.toNat)).1, at_.toNat + (takeL 0 0 (l.drop at_.toNat)).2.1, 0) else (0, 0, (takeL 0 0 (l.drop at_.toNat)).2.2)

theorem takeL_bd : ∀ (l : List UInt8) (n i : Nat), n < 2 ^ 64 → (takeL n i l).1 < 2 ^ 64 ∧ (takeL n i l).2.1 ≤ i + l.length ∧ ((takeL n i l).2.2 = 0 → i < (takeL n i l).2.1) ∧ (takeL n i l).2.2 ≤ 4 ∧ ((takeL n i l).2.2 ≠ 0 → (takeL n i l).1 = 0 ∧ (takeL n i l).2.1 = 0)
  | [], n, i, _ => by simp [takeL]
  | c :: r, n, i, h => by
    unfold takeL
    by_cases h1 : i = 0 ∧ c = 128
    · simp [h1]
    · rw [if_neg h1]
      by_cases h2 : 144115188075855872 ≤ n
      · rw [if_pos h2]; simp
      · rw [if_neg h2]
        have hlt : n * 128 + c.toNat % 128 < 2 ^ 64 := by omega
        by_cases h3 : c.toNat < 128
        · rw [if_pos h3]; simp only [List.length_cons]
          refine ⟨hlt, by omega, fun _ => by omega, by omega, fun hh => absurd rfl hh⟩
        · rw [if_neg h3]
          obtain ⟨e1, e2, e3, e4, e5⟩ := takeL_bd r (n * 128 + c.toNat % 128) (i + 1) hlt
          simp only [List.length_cons]
          exact ⟨e1, by omega, fun h => by have := e3 h; omega, e4, e5⟩
theorem vTake_bd (l : List UInt8) (at_ : Int) : (vTake l at_).1 < 2 ^ 64 ∧ (vTake l at_).2.1 ≤ l.length ∧ (vTake l at_).2.2 ≤ 4 ∧ ((vTake l at_).2.2 = 0 → 0 ≤ at_ ∧ at_ < (vTake l at_).2.1) ∧ ((vTake l at_).2.2 ≠ 0 → (vTake l at_).1 = 0 ∧ (vTake l at_).2.1 = 0) := by
  unfold vTake
  split
  · simp
  · rename_i h
    obtain ⟨e1, e2, e3, e4, e5⟩ := takeL_bd (l.drop at_.toNat) 0 0 (by decide)
    rw [List.length_drop] at e2
    split
    · rename_i h0
      have := e3 h0
      refine ⟨e1, by show at_.toNat + _ ≤ _; omega, by simp, fun _ => ?_, fun hh => absurd rfl hh⟩
      show 0 ≤ at_ ∧ at_ < ((at_.toNat + _ : Nat) : Int)
      omega
    · rename_i h0
      exact ⟨by simp, by simp, e4, fun hh => absurd hh h0, fun _ => ⟨rfl, rfl⟩⟩

/-- A number's digits are taken as that number. -/
theorem takeL_hi : ∀ (m : Nat) (r : List UInt8), m < 2 ^ 57 → takeL 0 0 (numHi m ++ r) = takeL m (numHi m).length r := by
  intro m
  induction m using Nat.strongRecOn with
  | _ m ih =>
    intro r hm
    by_cases h0 : m = 0
    · subst h0; rw [numHi_zero]; rfl
    · rw [numHi_pos h0, List.append_assoc, ih (m / 128) (by omega) _ (by omega)]
      simp only [List.singleton_append, List.length_append, List.length_singleton]
      have hd := digit_nat m
      conv => lhs; unfold takeL
      rw [if_neg, if_neg (by omega), if_neg (by omega)]
      · rw [hd]; congr 1; omega
      · rintro ⟨hl, hc⟩
        have hm0 : m / 128 = 0 := by
          by_cases hz : m / 128 = 0
          · exact hz
          · rw [numHi_pos hz] at hl; simp at hl
        have : (digit m).toNat = 128 := by rw [hc]; rfl
        omega
theorem takeL_num (u : Nat) (hu : u < 2 ^ 64) (r : List UInt8) : takeL 0 0 (num u ++ r) = (u, (num u).length, 0) := by
  have hl := lastD_nat u
  unfold num
  rw [List.append_assoc, takeL_hi (u / 128) _ (by omega)]
  simp only [List.singleton_append, List.length_append, List.length_singleton]
  unfold takeL
  rw [if_neg, if_neg (by omega), if_pos (by omega)]
  · rw [hl]; congr 1; omega
  · rintro ⟨_, hc⟩
    have : (lastD u).toNat = 128 := by rw [hc]; rfl
    omega
/-- Cut off it ends too early. -/
theorem takeL_cut (u : Nat) (hu : u < 2 ^ 64) (k : Nat) (hk : k < (num u).length) : takeL 0 0 ((num u).take k) = (0, 0, 2) := by
  have gen : ∀ (l r : List UInt8) (n i : Nat), (takeL n i (l ++ r)).2.2 = 0 → i + l.length < (takeL n i (l ++ r)).2.1 → takeL n i l = (0, 0, 2) := by
    intro l
    induction l with
    | nil => intro r n i _ _; rfl
    | cons c l ih =>
      intro r n i h1 h2
      simp only [List.cons_append, List.length_cons] at h1 h2
      unfold takeL at h1 h2 ⊢
      split at h1
      · simp at h1
      · rename_i g1
        rw [if_neg g1] at h2 ⊢
        split at h1
        · simp at h1
        · rename_i g2
          rw [if_neg g2] at h2 ⊢
          split at h1
          · rename_i g3
            rw [if_pos g3] at h2
            simp at h2
          · rename_i g3
            rw [if_neg g3] at h2 ⊢
            exact ih r _ _ h1 (by omega)
  have h := takeL_num u hu []
  rw [List.append_nil] at h
  have hs : (num u).take k ++ (num u).drop k = num u := List.take_append_drop _ _
  refine gen ((num u).take k) ((num u).drop k) 0 0 ?_ ?_
  · rw [hs, h]
  · rw [hs, h]; show 0 + ((num u).take k).length < (num u).length; rw [List.length_take]; omega
/-- Bytes that are taken as a number are just that number's bytes. -/
theorem takeL_one : ∀ (r : List UInt8) (m i : Nat), i = (numHi m).length → m < 2 ^ 64 → (takeL m i r).2.2 = 0 → numHi m ++ r.take ((takeL m i r).2.1 - i) = num (takeL m i r).1
  | [], m, i, _, _, h => by simp [takeL] at h
  | c :: r, m, i, hi, hm, h => by
    unfold takeL at h ⊢
    split at h
    · simp at h
    · rename_i g1
      rw [if_neg g1]
      split at h
      · simp at h
      · rename_i g2
        rw [if_neg g2]
        have hnz : m * 128 + c.toNat % 128 ≠ 0 ∨ c.toNat < 128 := by
          by_cases hc : c.toNat < 128
          · exact .inr hc
          · left
            intro e
            have hm0 : m = 0 := by omega
            subst hm0
            rw [numHi_zero] at hi
            apply g1
            refine ⟨by simpa using hi, ?_⟩
            apply UInt8.toNat_inj.1
            have := c.toNat_lt
            show c.toNat = 128
            omega
        split at h
        · rename_i g3
          rw [if_pos g3]
          show numHi m ++ (c :: r).take (i + 1 - i) = num (m * 128 + c.toNat % 128)
          rw [show i + 1 - i = 1 by omega]
          simp only [List.take_succ_cons, List.take_zero]
          unfold num
          rw [show (m * 128 + c.toNat % 128) / 128 = m by omega]
          congr 2
          apply UInt8.toNat_inj.1
          rw [lastD_nat]; omega
        · rename_i g3
          rw [if_neg g3]
          have hstep : numHi (m * 128 + c.toNat % 128) = numHi m ++ [c] := by
            rw [numHi_pos (hnz.resolve_right g3), show (m * 128 + c.toNat % 128) / 128 = m by omega]
            congr 2
            apply UInt8.toNat_inj.1
            have := c.toNat_lt
            rw [digit_nat]; omega
          have ih := takeL_one r (m * 128 + c.toNat % 128) (i + 1) (by rw [hstep]; simp [hi]) (by omega) h
          rw [hstep] at ih
          have hlt := (takeL_bd r (m * 128 + c.toNat % 128) (i + 1) (by omega)).2.2.1 h
          rw [← ih, show (takeL (m * 128 + c.toNat % 128) (i + 1) r).2.1 - i = ((takeL (m * 128 + c.toNat % 128) (i + 1) r).2.1 - (i + 1)) + 1 by omega]
          simp
end Go.Proofs.Ythjneijkapopoaa
