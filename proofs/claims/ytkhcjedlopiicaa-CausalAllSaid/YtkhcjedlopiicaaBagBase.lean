/-
  Bags: things by their dots: plain.
-/
import Derived.Test.YtkhcjedlopiicaaEvFns
import Derived.Test.YtkhcjedlopiicaaFreeSlices
import Derived.Test.YtkhcjedlopiicaaFreeTight
set_option linter.unusedSimpArgs false
set_option linter.unusedVariables false
set_option maxRecDepth 20000
namespace Go.Proofs.Ytkhcjedlopiicaa
open Go.Free Go.RowKit Go.Proofs

abbrev Dt := Int × Int
def dlt (a b : Dt) : Prop := a.1 < b.1 ∨ (a.1 = b.1 ∧ a.2 < b.2)
instance (a b : Dt) : Decidable (dlt a b) := by unfold dlt; infer_instance
theorem dlt_trans {a b c : Dt} (h1 : dlt a b) (h2 : dlt b c) : dlt a c := by unfold dlt at *; omega
theorem dlt_irr (a : Dt) : ¬ dlt a a := by unfold dlt; omega
theorem dlt_tri (a b : Dt) : dlt a b ∨ a = b ∨ dlt b a := by
  obtain ⟨a1, a2⟩ := a
  obtain ⟨b1, b2⟩ := b
  simp only [dlt, Prod.mk.injEq]; omega
def cmpD (a b : Dt) : Int := firstN [cmp3 a.1 b.1, cmp3 a.2 b.2]
theorem cmpD_lt (a b : Dt) : cmpD a b < 0 ↔ dlt a b := by
  unfold cmpD dlt; simp only [firstN, cmp3]
  repeat' split
  all_goals omega
theorem cmpD_eq (a b : Dt) : cmpD a b = 0 ↔ a = b := by
  obtain ⟨a1, a2⟩ := a
  obtain ⟨b1, b2⟩ := b
  unfold cmpD; simp only [firstN, cmp3, Prod.mk.injEq]
  repeat' split
  all_goals omega
def itC {α : Type} (enc : α → List Value) (x : Dt × α) : List Value := vi x.1.1 :: vi x.1.2 :: enc x.2
abbrev encTI (x : Int) : List Value := [vi x]
abbrev encTS (x : List UInt8) : List Value := [str x]
def sortedD {α : Type} (l : List (Dt × α)) : Prop := l.Pairwise fun x y => dlt x.1 y.1
/-- How many stand ahead of a dot. -/
def posD {α : Type} (l : List (Dt × α)) (d : Dt) : Nat := (l.takeWhile fun x => decide (dlt x.1 d)).length
theorem posD_le {α : Type} (l : List (Dt × α)) (d : Dt) : posD l d ≤ l.length := (List.takeWhile_prefix _).length_le
theorem posD_of {α : Type} {d : Dt} : ∀ {l : List (Dt × α)} {i : Nat}, i ≤ l.length → (∀ j x, l[j]? = some x → j < i → dlt x.1 d) → (∀ j x, l[j]? = some x → i ≤ j → ¬ dlt x.1 d) → posD l d = i
  | [], i, hi, _, _ => by simp at hi; subst hi; rfl
  | y :: l, 0, _, _, h2 => by
    have := h2 0 y rfl (Nat.le_refl _)
    simp [posD, List.takeWhile_cons, this]
  | y :: l, i + 1, hi, h1, h2 => by
    have h0 := h1 0 y rfl (by omega)
    have ih := posD_of (l := l) (i := i) (by simpa using hi) (fun j x hx hj => h1 (j + 1) x (by simpa using hx) (by omega)) (fun j x hx hj => h2 (j + 1) x (by simpa using hx) (by omega))
    unfold posD at ih ⊢
    simp [List.takeWhile_cons, h0, ih]
theorem sorted_at {α : Type} {l : List (Dt × α)} (h : sortedD l) {i j : Nat} {x y : Dt × α} (hx : l[i]? = some x) (hy : l[j]? = some y) (hij : i < j) : dlt x.1 y.1 := by
  have hi := (List.getElem?_eq_some_iff.1 hx)
  have hj := (List.getElem?_eq_some_iff.1 hy)
  obtain ⟨hi1, rfl⟩ := hi
  obtain ⟨hj1, rfl⟩ := hj
  exact List.pairwise_iff_getElem.1 h i j hi1 hj1 hij
theorem posD_lt {α : Type} {l : List (Dt × α)} {d : Dt} (h : sortedD l) {j : Nat} {x : Dt × α} (hx : l[j]? = some x) : j < posD l d ↔ dlt x.1 d := by
  induction l generalizing j with
  | nil => simp at hx
  | cons y l ih =>
    have hs := List.pairwise_cons.1 h
    by_cases hy : dlt y.1 d
    · have e : posD (y :: l) d = posD l d + 1 := by simp [posD, List.takeWhile_cons, hy]
      rw [e]
      cases j with
      | zero => simp only [List.getElem?_cons_zero, Option.some.injEq] at hx; subst hx; exact ⟨fun _ => hy, fun _ => by omega⟩
      | succ j => simp only [List.getElem?_cons_succ] at hx; rw [← ih hs.2 hx]; omega
    · have e : posD (y :: l) d = 0 := by simp [posD, List.takeWhile_cons, hy]
      rw [e]
      refine ⟨fun h => by omega, fun hd => absurd ?_ hy⟩
      cases j with
      | zero => simp only [List.getElem?_cons_zero, Option.some.injEq] at hx; subst hx; exact hd
      | succ j =>
        simp only [List.getElem?_cons_succ] at hx
        exact dlt_trans (hs.1 x (List.mem_of_getElem? hx)) hd
/-- Whether something lies under a dot. -/
def hereD {α : Type} (l : List (Dt × α)) (d : Dt) : Bool := ((l[posD l d]?).map fun x => decide (x.1 = d)).getD false
theorem hereD_iff {α : Type} {l : List (Dt × α)} {d : Dt} (h : sortedD l) : hereD l d = true ↔ ∃ x ∈ l, x.1 = d := by
  unfold hereD
  constructor
  · intro hh
    cases hx : l[posD l d]? with
    | none => rw [hx] at hh; cases hh
    | some x => rw [hx] at hh; exact ⟨x, List.mem_of_getElem? hx, of_decide_eq_true (by simpa using hh)⟩
  · rintro ⟨x, hx, rfl⟩
    obtain ⟨j, hj, rfl⟩ := List.getElem_of_mem hx
    have hg : l[j]? = some l[j] := List.getElem?_eq_getElem hj
    have h1 : ¬ j < posD l l[j].1 := fun hlt => dlt_irr _ ((posD_lt h hg).1 hlt)
    have h2 : posD l l[j].1 = j := by
      rcases Nat.lt_or_ge (posD l l[j].1) j with hlt | hge
      · have hp : l[posD l l[j].1]? = some l[posD l l[j].1] := List.getElem?_eq_getElem (by omega)
        have := (posD_lt (d := l[j].1) h hp).2 (sorted_at h hp hg hlt)
        omega
      · omega
    rw [h2, hg]; simp
/-! ### Splices -/
def insD {α : Type} (l : List α) (i : Nat) (y : α) : List α := l.take i ++ y :: l.drop i
theorem splice {P R Y : List Value} {p : Nat} (hp : P.length = p) : (P ++ R).take p ++ Y ++ (P ++ R).drop (p + Y.length) = P ++ (Y ++ R.drop Y.length) := by
  subst hp
  rw [List.take_left, List.append_assoc, ← List.drop_drop, List.drop_left]
theorem flat_len {α : Type} {enc : α → List Value} {sz : Nat} (h : ∀ x, (enc x).length = sz) (l : List α) : (l.flatMap enc).length = l.length * sz := by
  rw [flatMap_length _ sz h]
theorem flat_take {α : Type} {enc : α → List Value} {sz : Nat} (h : ∀ x, (enc x).length = sz) (l : List α) (i : Nat) (hi : i ≤ l.length) (R : List Value) : (l.flatMap enc ++ R).take (i * sz) = (l.take i).flatMap enc := by
  have e : l.flatMap enc = (l.take i).flatMap enc ++ (l.drop i).flatMap enc := by rw [← List.flatMap_append, List.take_append_drop]
  rw [e, List.append_assoc, List.take_left' (by rw [flat_len h, List.length_take, Nat.min_eq_left hi])]
theorem flat_split {α : Type} {enc : α → List Value} (l : List α) (i : Nat) : l.flatMap enc = (l.take i).flatMap enc ++ (l.drop i).flatMap enc := by rw [← List.flatMap_append, List.take_append_drop]
theorem ins_flat {α : Type} {enc : α → List Value} (l : List α) (i : Nat) (y : α) : (insD l i y).flatMap enc = (l.take i).flatMap enc ++ (enc y ++ (l.drop i).flatMap enc) := by simp [insD]
theorem flat_mid {α : Type} {enc : α → List Value} {sz : Nat} (h : ∀ x, (enc x).length = sz) (l : List α) (i : Nat) (hi : i ≤ l.length) (R : List Value) : ((l.flatMap enc ++ R).drop (i * sz)).take ((l.drop i).flatMap enc).length = (l.drop i).flatMap enc := by
  rw [flat_split l i, List.append_assoc, List.drop_left' (by rw [flat_len h, List.length_take, Nat.min_eq_left hi]), List.take_left]
theorem insD_length {α : Type} (l : List α) (i : Nat) (y : α) : (insD l i y).length = l.length + 1 := by simp [insD]; omega
/-! ### What bags do -/
def putD {α : Type} (l : List (Dt × α)) (d : Dt) (x : α) : List (Dt × α) := if hereD l d then l.set (posD l d) (d, x) else insD l (posD l d) (d, x)
def remD {α : Type} (l : List (Dt × α)) (d : Dt) : List (Dt × α) := if hereD l d then l.eraseIdx (posD l d) else l
def valD {α : Type} (l : List (Dt × α)) (d : Dt) (z : α) : α := if hereD l d then ((l[posD l d]?).map (·.2)).getD z else z
theorem here_at {α : Type} {l : List (Dt × α)} {d : Dt} (h : hereD l d = true) : ∃ x, l[posD l d]? = some x ∧ x.1 = d := by
  unfold hereD at h
  cases hx : l[posD l d]? with
  | none => rw [hx] at h; cases h
  | some x => rw [hx] at h; exact ⟨x, rfl, of_decide_eq_true (by simpa using h)⟩
theorem set_flat {α : Type} {enc : α → List Value} {sz : Nat} (h : ∀ x : Dt × α, (itC enc x).length = sz) (l : List (Dt × α)) (i : Nat) (x : Dt × α) (y : α) (hx : l[i]? = some x) (off : Nat) (ho : off = i * sz + 2) :
    (l.flatMap (itC enc)).take off ++ enc y ++ (l.flatMap (itC enc)).drop (off + (enc y).length) = (l.set i (x.1, y)).flatMap (itC enc) := by
  subst ho
  obtain ⟨hi, rfl⟩ := List.getElem?_eq_some_iff.1 hx
  have e0 : l.flatMap (itC enc) = (l.take i).flatMap (itC enc) ++ ([vi l[i].1.1, vi l[i].1.2] ++ enc l[i].2) ++ (l.drop (i + 1)).flatMap (itC enc) := by
    rw [show [vi l[i].1.1, vi l[i].1.2] ++ enc l[i].2 = itC enc l[i] from rfl]
    have : l.flatMap (itC enc) = (l.take i ++ l[i] :: l.drop (i + 1)).flatMap (itC enc) := by rw [List.getElem_cons_drop, List.take_append_drop]
    rw [this, List.flatMap_append, List.flatMap_cons, ← List.append_assoc]
  have hpl : ((l.take i).flatMap (itC enc)).length = i * sz := by rw [flat_len h, List.length_take, Nat.min_eq_left (by omega)]
  have hle : ∀ z : α, (enc z).length + 2 = sz := fun z => by have := h ((0, 0), z); simpa [itC] using this
  have e2 := hle l[i].2
  have e3 := hle y
  have e1 : (l.set i (l[i].1, y)).flatMap (itC enc) = (l.take i).flatMap (itC enc) ++ ([vi l[i].1.1, vi l[i].1.2] ++ enc y) ++ (l.drop (i + 1)).flatMap (itC enc) := by
    rw [List.set_eq_take_append_cons_drop, if_pos hi]
    simp [itC]
  rw [e1, e0]
  have hA : ((l.take i).flatMap (itC enc) ++ ([vi l[i].1.1, vi l[i].1.2] ++ enc l[i].2) ++ (l.drop (i + 1)).flatMap (itC enc)).take (i * sz + 2) = (l.take i).flatMap (itC enc) ++ [vi l[i].1.1, vi l[i].1.2] := by
    rw [← List.append_assoc, List.append_assoc _ (enc _) _, List.take_left' (by rw [List.length_append, hpl]; rfl)]
  have hB : ((l.take i).flatMap (itC enc) ++ ([vi l[i].1.1, vi l[i].1.2] ++ enc l[i].2) ++ (l.drop (i + 1)).flatMap (itC enc)).drop (i * sz + 2 + (enc y).length) = (l.drop (i + 1)).flatMap (itC enc) := by
    rw [List.drop_left' (by rw [List.length_append, hpl, List.length_append]; simp only [List.length_cons, List.length_nil]; omega)]
  rw [hA, hB]; simp only [List.append_assoc]
end Go.Proofs.Ytkhcjedlopiicaa
