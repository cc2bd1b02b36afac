/-
  Events: what bytes tell, as plain functions; and its laws.
-/
import Derived.Test.YthjneijkapopoaaEvEnc
import Derived.Test.YthjneijkapopoaaVlqText
set_option linter.unusedSimpArgs false
set_option linter.unusedVariables false
set_option maxRecDepth 20000
namespace Go.Proofs.Ythjneijkapopoaa
open Go.Free Go.RowKit Go.Proofs
set_option maxHeartbeats 4000000

abbrev RS := Nat × Nat
def rNum (l : List UInt8) (s : RS) : Int × RS :=
  if s.2 ≠ 0 then (0, s)
  else if (vTake l s.1).2.2 ≠ 0 then (0, (s.1, (vTake l s.1).2.2))
  else if 4611686018427387904 < (vTake l s.1).1 then (0, (s.1, 3))
  else ((vTake l s.1).1, ((vTake l s.1).2.1, 0))
def rText (l : List UInt8) (s : RS) : List UInt8 × RS := if s.2 ≠ 0 then ([], s) else ((vText l s.1 64).1, ((vText l s.1 64).2.1, (vText l s.1 64).2.2))
def rSig (l : List UInt8) (s : RS) : Int × RS := if s.2 ≠ 0 then (0, s) else (zag (vTake l s.1).1, ((vTake l s.1).2.1, (vTake l s.1).2.2))
def nS (l : List UInt8) : Nat → RS
  | 0 => (0, 0)
  | k + 1 => (rNum l (nS l k)).2
def nV (l : List UInt8) (k : Nat) : Int := (rNum l (nS l k)).1
def kindS (k : Int) (s : RS) : RS := if s.2 = 0 ∧ ¬ kindP k then (s.1, 3) else s
def oK (l : List UInt8) (s : RS) : Int := (rNum l s).1
def oS1 (l : List UInt8) (s : RS) : RS := kindS (oK l s) (rNum l s).2
def oKey (l : List UInt8) (s : RS) : List UInt8 × RS := rText l (oS1 l s)
def oField (l : List UInt8) (s : RS) : List UInt8 × RS := if fieldP (oK l s) then rText l (oKey l s).2 else ([], (oKey l s).2)
def oValue (l : List UInt8) (s : RS) : List UInt8 × RS := if valueP (oK l s) then rText l (oField l s).2 else ([], (oField l s).2)
def oNum (l : List UInt8) (s : RS) : Int × RS := if numP (oK l s) then rSig l (oValue l s).2 else (0, (oValue l s).2)
def oRR (l : List UInt8) (s : RS) : Int × RS := if refP (oK l s) then rNum l (oNum l s).2 else (0, (oNum l s).2)
def oRN (l : List UInt8) (s : RS) : Int × RS := if refP (oK l s) then rNum l (oRR l s).2 else (0, (oRR l s).2)
def decW (l : List UInt8) (s : RS) : EvV := ⟨nV l 0, nV l 1, nV l 2, fun i => nV l (3 + i), oK l s, (oKey l s).1, (oField l s).1, (oValue l s).1, (oNum l s).1, (oRR l s).1, (oRN l s).1⟩
def decV (l : List UInt8) : EvV := decW l (nS l 19)
def decS (l : List UInt8) : RS := (oRN l (nS l 19)).2
def decE (l : List UInt8) : Nat := if (decS l).2 ≠ 0 then (decS l).2 else if (decS l).1 ≠ l.length ∨ ¬ rightP (decV l) then 3 else 0
def decR (l : List UInt8) : EvV := if decE l ≠ 0 then ev0 else decV l

/-! ### Bounds -/
def okS (l : List UInt8) (s : RS) : Prop := s.1 ≤ l.length ∧ s.2 ≤ 4
theorem rNum_ok {l : List UInt8} {s : RS} (h : okS l s) : okS l (rNum l s).2 ∧ 0 ≤ (rNum l s).1 ∧ (rNum l s).1 ≤ 4611686018427387904 := by
  obtain ⟨h1, h2⟩ := h
  have hb := vTake_bd l s.1
  unfold rNum
  split
  · exact ⟨⟨h1, h2⟩, by simp, by simp⟩
  · split
    · exact ⟨⟨h1, hb.2.2.1⟩, by simp, by simp⟩
    · split
      · exact ⟨⟨h1, by simp⟩, by simp, by simp⟩
      · refine ⟨⟨hb.2.1, by simp⟩, ?_, ?_⟩ <;> simp only <;> omega
theorem vText_bd (l : List UInt8) (p : Int) : (vText l p 64).1.length ≤ 64 ∧ (vText l p 64).2.1 ≤ l.length ∧ (vText l p 64).2.2 ≤ 4 := by
  have hb := vTake_bd l p
  unfold vText
  rw [if_neg (by decide)]
  split
  · exact ⟨by simp, by simp, hb.2.2.1⟩
  · split
    · simp
    · split
      · simp
      · refine ⟨?_, ?_, by simp⟩
        · simp only [List.length_take, List.length_drop]; omega
        · simp only; omega
theorem rText_ok {l : List UInt8} {s : RS} (h : okS l s) : okS l (rText l s).2 ∧ (rText l s).1.length ≤ 64 := by
  have hb := vText_bd l s.1
  unfold rText
  split
  · exact ⟨h, by simp⟩
  · exact ⟨⟨hb.2.1, hb.2.2⟩, hb.1⟩
theorem zag_in {u : Nat} (h : u < 2 ^ 64) : in64 (zag u) := by unfold zag in64; split <;> omega
theorem rSig_ok {l : List UInt8} {s : RS} (h : okS l s) : okS l (rSig l s).2 ∧ in64 (rSig l s).1 := by
  have hb := vTake_bd l s.1
  unfold rSig
  split
  · exact ⟨h, by simp [in64]⟩
  · exact ⟨⟨hb.2.1, hb.2.2.1⟩, zag_in hb.1⟩
theorem nS_ok (l : List UInt8) : ∀ k, okS l (nS l k)
  | 0 => by simp [nS, okS]
  | k + 1 => (rNum_ok (nS_ok l k)).1
theorem kindS_ok {l : List UInt8} {s : RS} (k : Int) (h : okS l s) : okS l (kindS k s) := by
  unfold kindS; split
  · exact ⟨h.1, by simp⟩
  · exact h
section
variable {l : List UInt8} {s : RS} (h : okS l s)
include h
theorem oS1_ok : okS l (oS1 l s) := kindS_ok _ (rNum_ok h).1
theorem oKey_ok : okS l (oKey l s).2 ∧ (oKey l s).1.length ≤ 64 := rText_ok (oS1_ok h)
theorem oField_ok : okS l (oField l s).2 ∧ (oField l s).1.length ≤ 64 := by
  unfold oField; split
  · exact rText_ok (oKey_ok h).1
  · exact ⟨(oKey_ok h).1, by simp⟩
theorem oValue_ok : okS l (oValue l s).2 ∧ (oValue l s).1.length ≤ 64 := by
  unfold oValue; split
  · exact rText_ok (oField_ok h).1
  · exact ⟨(oField_ok h).1, by simp⟩
theorem oNum_ok : okS l (oNum l s).2 ∧ in64 (oNum l s).1 := by
  unfold oNum; split
  · exact rSig_ok (oValue_ok h).1
  · exact ⟨(oValue_ok h).1, by simp [in64]⟩
theorem oRR_ok : okS l (oRR l s).2 ∧ in64 (oRR l s).1 := by
  unfold oRR; split
  · have k := rNum_ok (oNum_ok h).1
    exact ⟨k.1, by unfold in64; omega⟩
  · exact ⟨(oNum_ok h).1, by simp [in64]⟩
theorem oRN_ok : okS l (oRN l s).2 ∧ in64 (oRN l s).1 := by
  unfold oRN; split
  · have k := rNum_ok (oRR_ok h).1
    exact ⟨k.1, by unfold in64; omega⟩
  · exact ⟨(oRR_ok h).1, by simp [in64]⟩
end
theorem nV_in (l : List UInt8) (k : Nat) : in64 (nV l k) := by
  have h := (rNum_ok (nS_ok l k)).2
  show in64 (rNum l (nS l k)).1
  unfold in64; omega
theorem decW_ok {l : List UInt8} {s : RS} (h : okS l s) : (decW l s).okV := by
  have hk := (rNum_ok h).2
  have h1 := (oKey_ok h).2
  have h2 := (oField_ok h).2
  have h3 := (oValue_ok h).2
  exact ⟨nV_in l 0, nV_in l 1, nV_in l 2, fun i _ => nV_in l (3 + i), show in64 (rNum l s).1 by unfold in64; omega, show (oKey l s).1.length ≤ 9223372036854775807 by omega, show (oField l s).1.length ≤ 9223372036854775807 by omega, show (oValue l s).1.length ≤ 9223372036854775807 by omega, (oNum_ok h).2, (oRR_ok h).2, (oRN_ok h).2⟩
theorem decV_ok (l : List UInt8) : (decV l).okV := decW_ok (nS_ok l 19)
theorem ev0_ok : ev0.okV := by refine ⟨?_, ?_, ?_, fun i _ => ?_, ?_, ?_, ?_, ?_, ?_, ?_, ?_⟩ <;> simp [ev0, in64]
theorem decR_ok (l : List UInt8) : (decR l).okV := by unfold decR; split; exact ev0_ok; exact decV_ok l

/-! ### What is read is what stands there -/
theorem vTake_mid (a r : List UInt8) {u : Nat} (hu : u < 2 ^ 64) : vTake (a ++ num u ++ r) (a.length : Nat) = (u, a.length + (num u).length, 0) := by
  unfold vTake
  rw [if_neg (by simp; omega), Int.toNat_natCast, List.append_assoc, List.drop_left, takeL_num _ hu]
  rfl
theorem vTake_one (b : List UInt8) (p : Int) (h : (vTake b p).2.2 = 0) : num (vTake b p).1 = (b.take (vTake b p).2.1).drop p.toNat := by
  unfold vTake at h ⊢
  split at h
  · simp at h
  · rename_i g
    rw [if_neg g]
    split at h
    · rename_i g2
      rw [if_pos g2]
      have h1 := takeL_one (b.drop p.toNat) 0 0 (by rw [numHi_zero]; rfl) (by decide) g2
      rw [numHi_zero, List.nil_append, Nat.sub_zero] at h1
      show num (takeL 0 0 (b.drop p.toNat)).1 = _
      rw [← h1, List.drop_take, Nat.add_sub_cancel_left]
    · rename_i g2
      exact absurd h g2
/-- Ahead of what is read stands a, and it is well. -/
def At (l a : List UInt8) (s : RS) : Prop := s = (a.length, 0) ∧ ∃ r, l = a ++ r
theorem rNum_mid {l a r : List UInt8} {x : Int} (h0 : 0 ≤ x) (h1 : x ≤ 4611686018427387904) (h : l = a ++ numI x ++ r) : rNum l (a.length, 0) = (x, ((a ++ numI x).length, 0)) := by
  have k := vTake_mid a r (u := x.toNat) (by omega)
  unfold numI at h ⊢
  unfold rNum
  rw [h, k]
  simp only [ne_eq, not_true, if_false]
  rw [if_neg (by omega), List.length_append, Int.toNat_of_nonneg h0]
theorem rText_mid {l a r t : List UInt8} (ht : t.length ≤ 64) (h : l = a ++ txt t ++ r) : rText l (a.length, 0) = (t, ((a ++ txt t).length, 0)) := by
  have k := vTake_mid a (t ++ r) (u := t.length) (by omega)
  rw [List.append_assoc, ← List.append_assoc (num t.length), ← List.append_assoc] at k
  have kv : vText l a.length 64 = (t, (a ++ txt t).length, 0) := by
    unfold vText
    rw [h]
    show (if (64 : Int) < 0 then _ else _) = _
    unfold txt
    rw [if_neg (by decide), k]
    simp only [ne_eq, not_true, if_false, List.length_append]
    rw [if_neg (by omega), if_neg (by omega)]
    congr 1
    · rw [← List.append_assoc, List.append_assoc (a ++ num t.length), ← List.length_append, List.drop_left, List.take_left]
    · rw [Nat.add_assoc]
  unfold rText
  simp only [ne_eq, not_true, if_false, kv]
theorem rSig_mid {l a r : List UInt8} {x : Int} (hx : in64 x) (h : l = a ++ num (zig x) ++ r) : rSig l (a.length, 0) = (x, ((a ++ num (zig x)).length, 0)) := by
  have k := vTake_mid a r (u := zig x) (zig_lt hx)
  unfold rSig
  rw [h, k]
  simp only [ne_eq, not_true, if_false, zag_zig, List.length_append]

theorem nums_mid {l : List UInt8} {ns : List Int} (hs : ∀ x ∈ ns, 0 ≤ x ∧ x ≤ 4611686018427387904) {r : List UInt8} (h : l = nums ns ++ r) : ∀ k, k ≤ ns.length → nS l k = ((nums (ns.take k)).length, 0)
  | 0, _ => by simp [nS, nums]
  | k + 1, hk => by
    have ih := nums_mid hs h k (by omega)
    have hm := hs _ (List.getElem_mem (show k < ns.length by omega))
    have e : nums ns = nums (ns.take k) ++ numI ns[k] ++ nums (ns.drop (k + 1)) := by
      have := nums_snoc (l := ns) (i := k) (by omega)
      rw [List.getD_eq_getElem?_getD, List.getElem?_eq_getElem (by omega), Option.getD_some] at this
      rw [← this]
      simp only [nums]
      rw [← List.flatMap_append, List.take_append_drop]
    show (rNum l (nS l k)).2 = _
    rw [ih, rNum_mid hm.1 hm.2 (r := nums (ns.drop (k + 1)) ++ r) (by rw [h, e]; simp)]
    have := nums_snoc (l := ns) (i := k) (by omega)
    rw [List.getD_eq_getElem?_getD, List.getElem?_eq_getElem (by omega), Option.getD_some] at this
    rw [this]
theorem nums_val {l : List UInt8} {ns : List Int} (hs : ∀ x ∈ ns, 0 ≤ x ∧ x ≤ 4611686018427387904) {r : List UInt8} (h : l = nums ns ++ r) {k : Nat} (hk : k < ns.length) : nV l k = ns.getD k 0 := by
  have ih := nums_mid hs h k (by omega)
  have hm := hs _ (List.getElem_mem hk)
  have sn := nums_snoc (l := ns) (i := k) hk
  have e : nums ns = nums (ns.take k) ++ numI (ns.getD k 0) ++ nums (ns.drop (k + 1)) := by
    rw [← sn]
    simp only [nums]
    rw [← List.flatMap_append, List.take_append_drop]
  rw [List.getD_eq_getElem?_getD, List.getElem?_eq_getElem hk, Option.getD_some] at e ⊢
  show (rNum l (nS l k)).1 = _
  rw [ih, rNum_mid hm.1 hm.2 (r := nums (ns.drop (k + 1)) ++ r) (by rw [h, e]; simp)]
end Go.Proofs.Ythjneijkapopoaa
