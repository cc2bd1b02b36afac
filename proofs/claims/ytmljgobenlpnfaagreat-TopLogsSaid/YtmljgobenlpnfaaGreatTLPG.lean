/-
  Laid together: RgaPlain, BagBase, SortMerge, SortMergeB, SortMergeC, SortBlk, SortStable, RgaFns, SortXFns, SortXMerge.
-/
import Derived.Test.YtmljgobenlpnfaaGreatTLPF
set_option linter.unusedSimpArgs false
set_option linter.unusedVariables false
set_option maxRecDepth 20000

section
namespace Go.Proofs.YtmljgobenlpnfaaGreat
open Go.Free Go.RowKit Go.Proofs Go.Free.Sorts
def nodesM (key : List UInt8) (L : List EvV) : List EvV := L.filter fun e => decide (e.kind = 9 ∧ e.key = key)
def hangs (e o : EvV) : Bool := decide (o.r = e.rr ∧ o.n = e.rn) && later e o
def parM (n : List EvV) (e : EvV) : Option Nat := if e.rr = 0 ∧ e.rn = 0 then none else n.findIdx? (hangs e)
def kidsM (n : List EvV) (p : Option Nat) : List Nat := (List.range n.length).filter fun i => decide (parM n (n.getD i ev0) = p)
def ltE (a b : EvV) : Prop := a.time < b.time ∨ (a.time = b.time ∧ (a.r < b.r ∨ (a.r = b.r ∧ a.n < b.n)))
theorem later_iff {a b : EvV} : later b a = true ↔ ltE a b := by unfold later ltE; exact decide_eq_true_iff
theorem ltE_trans {a b c : EvV} (h1 : ltE a b) (h2 : ltE b c) : ltE a c := by unfold ltE at *; omega
theorem ltE_irr (a : EvV) : ¬ ltE a a := by unfold ltE; omega
def aheadR (n : List EvV) (i j : Nat) : Prop := ltE (n.getD j ev0) (n.getD i ev0) ∨ (¬ ltE (n.getD i ev0) (n.getD j ev0) ∧ i < j)
theorem ahead_ord (n : List EvV) : Ord (aheadR n) := by
  refine ⟨fun {x y z} h1 h2 => ?_, fun x h => ?_, fun {x y} h => ?_⟩
  · unfold aheadR ltE at *; omega
  · unfold aheadR ltE at *; omega
  · unfold aheadR ltE; omega
instance ltE_dec (a b : EvV) : Decidable (ltE a b) := by unfold ltE; infer_instance
instance ahead_dec (n : List EvV) (i j : Nat) : Decidable (aheadR n i j) := by unfold aheadR; infer_instance
theorem order_one {R : Nat → Nat → Prop} (o : Ord R) : ∀ {l m : List Nat}, l.Pairwise R → m.Pairwise R → (∀ v, v ∈ l ↔ v ∈ m) → l = m
  | [], [], _, _, _ => rfl
  | [], y :: m, _, _, h => absurd ((h y).2 List.mem_cons_self) (by simp)
  | x :: l, [], _, _, h => absurd ((h x).1 List.mem_cons_self) (by simp)
  | x :: l, y :: m, hl, hm, h => by
    obtain ⟨h1, h2⟩ := List.pairwise_cons.1 hl
    obtain ⟨h3, h4⟩ := List.pairwise_cons.1 hm
    have hxy : x = y := by
      rcases List.mem_cons.1 ((h x).1 List.mem_cons_self) with e | hx
      · exact e
      · rcases List.mem_cons.1 ((h y).2 List.mem_cons_self) with e | hy
        · exact e.symm
        · exact absurd (o.trans (h1 y hy) (h3 x hx)) (o.irr x)
    subst hxy
    have hx1 : x ∉ l := fun hx => o.irr x (h1 x hx)
    have hx2 : x ∉ m := fun hx => o.irr x (h3 x hx)
    congr 1
    refine order_one o h2 h4 fun v => ?_
    have hv := h v
    rw [List.mem_cons, List.mem_cons] at hv
    constructor
    · intro hvl
      rcases hv.1 (.inr hvl) with e | hvm
      · exact absurd (e ▸ hvl) hx1
      · exact hvm
    · intro hvm
      rcases hv.2 (.inr hvm) with e | hvl
      · exact absurd (e ▸ hvm) hx2
      · exact hvl
def sortK (n : List EvV) (xs : List Nat) : List Nat := xs.mergeSort fun i j => decide (¬ aheadR n j i)
theorem sortK_mem (n : List EvV) (xs : List Nat) (v : Nat) : v ∈ sortK n xs ↔ v ∈ xs := (List.mergeSort_perm xs _).mem_iff
theorem sortK_sorted (n : List EvV) (xs : List Nat) (h : xs.Nodup) : (sortK n xs).Pairwise (aheadR n) := by
  have o := ahead_ord n
  have h1 : (sortK n xs).Pairwise fun i j => decide (¬ aheadR n j i) = true := List.pairwise_mergeSort (le := fun i j => decide (¬ aheadR n j i))
    (fun a b c h1 h2 => by
      simp only [decide_eq_true_eq] at h1 h2 ⊢
      intro h3
      by_cases hab : a = b
      · subst hab; exact h2 h3
      · exact h2 (o.trans h3 (o.not (Ne.symm hab) h1)))
    (fun a b => by
      simp only [Bool.or_eq_true, decide_eq_true_eq]
      by_cases h : aheadR n b a
      · exact .inr fun h2 => o.irr _ (o.trans h h2)
      · exact .inl h) xs
  have h2 : (sortK n xs).Nodup := (List.mergeSort_perm xs _).nodup_iff.2 h
  refine (h1.and h2).imp fun {a b} ⟨p, q⟩ => ?_
  simp only [decide_eq_true_eq] at p
  exact o.not (Ne.symm q) p
theorem sortK_one {n : List EvV} {xs ys : List Nat} (hx : xs.Nodup) (hs : ys.Pairwise (aheadR n)) (hm : ∀ v, v ∈ ys ↔ v ∈ xs) : ys = sortK n xs :=
  order_one (ahead_ord n) hs (sortK_sorted n xs hx) fun v => (hm v).trans (sortK_mem n xs v).symm
def undM (n : List EvV) : Nat → Option Nat → List Nat
  | 0, _ => []
  | k + 1, p => (sortK n (kidsM n p)).flatMap fun i => i :: undM n k (some i)
def above (n : List EvV) (p : Option Nat) (j : Nat) : Bool := match p with
  | none => true
  | some i => decide (ltE (n.getD i ev0) (n.getD j ev0))
def mu (n : List EvV) (p : Option Nat) : Nat := ((List.range n.length).filter (above n p)).length
theorem filter_less {α : Type} {p q : α → Bool} : ∀ {l : List α} {x : α}, (∀ y ∈ l, p y = true → q y = true) → x ∈ l → p x = false → q x = true → (l.filter p).length < (l.filter q).length
  | y :: l, x, hpq, hx, hp, hq => by
    have hle : ∀ {l : List α}, (∀ y ∈ l, p y = true → q y = true) → (l.filter p).length ≤ (l.filter q).length := fun {l} h => by
      induction l with
      | nil => simp
      | cons z l ih =>
        have h1 := ih fun y hy => h y (List.mem_cons_of_mem _ hy)
        have h2 := h z List.mem_cons_self
        simp only [List.filter_cons]
        cases hz : p z with
        | true => rw [h2 hz]; simpa using h1
        | false =>
          simp only [Bool.false_eq_true, if_false]
          split
          · simp; omega
          · exact h1
    have h1 : ∀ y ∈ l, p y = true → q y = true := fun z hz => hpq z (List.mem_cons_of_mem _ hz)
    simp only [List.filter_cons]
    rcases List.mem_cons.1 hx with rfl | hx
    · rw [hp, hq]
      have := hle h1
      simp; omega
    · have ih := filter_less h1 hx hp hq
      have h2 := hpq y List.mem_cons_self
      cases hy : p y with
      | true => rw [h2 hy]; simpa using ih
      | false =>
        simp only [Bool.false_eq_true, if_false]
        split
        · simp; omega
        · exact ih
theorem kids_mem {n : List EvV} {p : Option Nat} {i : Nat} : i ∈ kidsM n p ↔ i < n.length ∧ parM n (n.getD i ev0) = p := by
  unfold kidsM; rw [List.mem_filter, List.mem_range, decide_eq_true_eq]
theorem par_later {n : List EvV} {e : EvV} {k : Nat} (h : parM n e = some k) : k < n.length ∧ ltE (n.getD k ev0) e := by
  unfold parM at h
  split at h
  · cases h
  · rw [List.findIdx?_eq_some_iff_getElem] at h
    obtain ⟨hk, h1, _⟩ := h
    refine ⟨hk, ?_⟩
    unfold hangs at h1
    rw [Bool.and_eq_true] at h1
    have h2 := later_iff.1 h1.2
    rw [List.getD_eq_getElem?_getD, List.getElem?_eq_getElem hk]
    exact h2
theorem mu_kid {n : List EvV} {p : Option Nat} {i : Nat} (h : i ∈ kidsM n p) : mu n (some i) < mu n p := by
  obtain ⟨hi, hp⟩ := kids_mem.1 h
  refine filter_less (x := i) (fun y _ hy => ?_) (List.mem_range.2 hi) (decide_eq_false (ltE_irr _)) ?_
  · cases p with
    | none => rfl
    | some k =>
      simp only [above, decide_eq_true_eq] at hy ⊢
      exact ltE_trans (par_later hp).2 hy
  · cases p with
    | none => rfl
    | some k => exact decide_eq_true (par_later hp).2
theorem und_enough {n : List EvV} : ∀ (k k' : Nat) (p : Option Nat), mu n p < k → mu n p < k' → undM n k p = undM n k' p
  | 0, _, _, h, _ => by omega
  | _, 0, _, _, h => by omega
  | k + 1, k' + 1, p, h1, h2 => by
    have : ∀ i ∈ sortK n (kidsM n p), (fun i => i :: undM n k (some i)) i = (fun i => i :: undM n k' (some i)) i := fun i hi => by
      have hm := mu_kid ((sortK_mem n _ i).1 hi)
      show i :: _ = i :: _
      rw [und_enough k k' (some i) (by omega) (by omega)]
    show List.flatMap _ _ = List.flatMap _ _
    unfold List.flatMap
    rw [List.map_congr_left this]
theorem mu_le (n : List EvV) (p : Option Nat) : mu n p ≤ n.length := by
  unfold mu
  have := List.length_filter_le (above n p) (List.range n.length)
  rw [List.length_range] at this; exact this
def orderM (key : List UInt8) (L : List EvV) : List EvV :=
  (undM (nodesM key L) ((nodesM key L).length + 1) none).map fun i => (nodesM key L).getD i ev0
end Go.Proofs.YtmljgobenlpnfaaGreat
end

section
namespace Go.Proofs.YtmljgobenlpnfaaGreat
open Go.Free Go.RowKit Go.Proofs
abbrev Dt := Int × Int
def dlt (a b : Dt) : Prop := a.1 < b.1 ∨ (a.1 = b.1 ∧ a.2 < b.2)
instance (a b : Dt) : Decidable (dlt a b) := by unfold dlt; infer_instance
theorem dlt_trans {a b c : Dt} (h1 : dlt a b) (h2 : dlt b c) : dlt a c := by unfold dlt at *; omega
theorem dlt_irr (a : Dt) : ¬ dlt a a := by unfold dlt; omega
theorem dlt_tri (a b : Dt) : dlt a b ∨ a = b ∨ dlt b a := by
  obtain ⟨a1, a2⟩ := a
  obtain ⟨b1, b2⟩ := b
  simp only [dlt, Prod.mk.injEq]; omega
def cmpD (a b : Dt) : Int := firstN [cmp3 a.1 b.1, cmp3 a.2 b.2]
theorem cmpD_lt (a b : Dt) : cmpD a b < 0 ↔ dlt a b := by
  unfold cmpD dlt; simp only [firstN, cmp3]
  repeat' split
  all_goals omega
theorem cmpD_eq (a b : Dt) : cmpD a b = 0 ↔ a = b := by
  obtain ⟨a1, a2⟩ := a
  obtain ⟨b1, b2⟩ := b
  unfold cmpD; simp only [firstN, cmp3, Prod.mk.injEq]
  repeat' split
  all_goals omega
def itC {α : Type} (enc : α → List Value) (x : Dt × α) : List Value := vi x.1.1 :: vi x.1.2 :: enc x.2
abbrev encTI (x : Int) : List Value := [vi x]
abbrev encTS (x : List UInt8) : List Value := [str x]
def sortedD {α : Type} (l : List (Dt × α)) : Prop := l.Pairwise fun x y => dlt x.1 y.1
def posD {α : Type} (l : List (Dt × α)) (d : Dt) : Nat := (l.takeWhile fun x => decide (dlt x.1 d)).length
theorem posD_le {α : Type} (l : List (Dt × α)) (d : Dt) : posD l d ≤ l.length := (List.takeWhile_prefix _).length_le
theorem posD_of {α : Type} {d : Dt} : ∀ {l : List (Dt × α)} {i : Nat}, i ≤ l.length → (∀ j x, l[j]? = some x → j < i → dlt x.1 d) → (∀ j x, l[j]? = some x → i ≤ j → ¬ dlt x.1 d) → posD l d = i
  | [], i, hi, _, _ => by simp at hi; subst hi; rfl
  | y :: l, 0, _, _, h2 => by
    have := h2 0 y rfl (Nat.le_refl _)
    simp [posD, List.takeWhile_cons, this]
  | y :: l, i + 1, hi, h1, h2 => by
    have h0 := h1 0 y rfl (by omega)
    have ih := posD_of (l := l) (i := i) (by simpa using hi) (fun j x hx hj => h1 (j + 1) x (by simpa using hx) (by omega)) (fun j x hx hj => h2 (j + 1) x (by simpa using hx) (by omega))
    unfold posD at ih ⊢
    simp [List.takeWhile_cons, h0, ih]
theorem sorted_at {α : Type} {l : List (Dt × α)} (h : sortedD l) {i j : Nat} {x y : Dt × α} (hx : l[i]? = some x) (hy : l[j]? = some y) (hij : i < j) : dlt x.1 y.1 := by
  have hi := (List.getElem?_eq_some_iff.1 hx)
  have hj := (List.getElem?_eq_some_iff.1 hy)
  obtain ⟨hi1, rfl⟩ := hi
  obtain ⟨hj1, rfl⟩ := hj
  exact List.pairwise_iff_getElem.1 h i j hi1 hj1 hij
theorem posD_lt {α : Type} {l : List (Dt × α)} {d : Dt} (h : sortedD l) {j : Nat} {x : Dt × α} (hx : l[j]? = some x) : j < posD l d ↔ dlt x.1 d := by
  induction l generalizing j with
  | nil => simp at hx
  | cons y l ih =>
    have hs := List.pairwise_cons.1 h
    by_cases hy : dlt y.1 d
    · have e : posD (y :: l) d = posD l d + 1 := by simp [posD, List.takeWhile_cons, hy]
      rw [e]
      cases j with
      | zero => simp only [List.getElem?_cons_zero, Option.some.injEq] at hx; subst hx; exact ⟨fun _ => hy, fun _ => by omega⟩
      | succ j => simp only [List.getElem?_cons_succ] at hx; rw [← ih hs.2 hx]; omega
    · have e : posD (y :: l) d = 0 := by simp [posD, List.takeWhile_cons, hy]
      rw [e]
      refine ⟨fun h => by omega, fun hd => absurd ?_ hy⟩
      cases j with
      | zero => simp only [List.getElem?_cons_zero, Option.some.injEq] at hx; subst hx; exact hd
      | succ j =>
        simp only [List.getElem?_cons_succ] at hx
        exact dlt_trans (hs.1 x (List.mem_of_getElem? hx)) hd
def hereD {α : Type} (l : List (Dt × α)) (d : Dt) : Bool := ((l[posD l d]?).map fun x => decide (x.1 = d)).getD false
theorem hereD_iff {α : Type} {l : List (Dt × α)} {d : Dt} (h : sortedD l) : hereD l d = true ↔ ∃ x ∈ l, x.1 = d := by
  unfold hereD
  constructor
  · intro hh
    cases hx : l[posD l d]? with
    | none => rw [hx] at hh; cases hh
    | some x => rw [hx] at hh; exact ⟨x, List.mem_of_getElem? hx, of_decide_eq_true (by simpa using hh)⟩
  · rintro ⟨x, hx, rfl⟩
    obtain ⟨j, hj, rfl⟩ := List.getElem_of_mem hx
    have hg : l[j]? = some l[j] := List.getElem?_eq_getElem hj
    have h1 : ¬ j < posD l l[j].1 := fun hlt => dlt_irr _ ((posD_lt h hg).1 hlt)
    have h2 : posD l l[j].1 = j := by
      rcases Nat.lt_or_ge (posD l l[j].1) j with hlt | hge
      · have hp : l[posD l l[j].1]? = some l[posD l l[j].1] := List.getElem?_eq_getElem (by omega)
        have := (posD_lt (d := l[j].1) h hp).2 (sorted_at h hp hg hlt)
        omega
      · omega
    rw [h2, hg]; simp
/-! ### Splices -/
def insD {α : Type} (l : List α) (i : Nat) (y : α) : List α := l.take i ++ y :: l.drop i
theorem splice {P R Y : List Value} {p : Nat} (hp : P.length = p) : (P ++ R).take p ++ Y ++ (P ++ R).drop (p + Y.length) = P ++ (Y ++ R.drop Y.length) := by
  subst hp
  rw [List.take_left, List.append_assoc, ← List.drop_drop, List.drop_left]
theorem flat_len {α : Type} {enc : α → List Value} {sz : Nat} (h : ∀ x, (enc x).length = sz) (l : List α) : (l.flatMap enc).length = l.length * sz := by
  rw [flatMap_length _ sz h]
theorem flat_take {α : Type} {enc : α → List Value} {sz : Nat} (h : ∀ x, (enc x).length = sz) (l : List α) (i : Nat) (hi : i ≤ l.length) (R : List Value) : (l.flatMap enc ++ R).take (i * sz) = (l.take i).flatMap enc := by
  have e : l.flatMap enc = (l.take i).flatMap enc ++ (l.drop i).flatMap enc := by rw [← List.flatMap_append, List.take_append_drop]
  rw [e, List.append_assoc, List.take_left' (by rw [flat_len h, List.length_take, Nat.min_eq_left hi])]
theorem flat_split {α : Type} {enc : α → List Value} (l : List α) (i : Nat) : l.flatMap enc = (l.take i).flatMap enc ++ (l.drop i).flatMap enc := by rw [← List.flatMap_append, List.take_append_drop]
theorem flat_mid {α : Type} {enc : α → List Value} {sz : Nat} (h : ∀ x, (enc x).length = sz) (l : List α) (i : Nat) (hi : i ≤ l.length) (R : List Value) : ((l.flatMap enc ++ R).drop (i * sz)).take ((l.drop i).flatMap enc).length = (l.drop i).flatMap enc := by
  rw [flat_split l i, List.append_assoc, List.drop_left' (by rw [flat_len h, List.length_take, Nat.min_eq_left hi]), List.take_left]
theorem insD_length {α : Type} (l : List α) (i : Nat) (y : α) : (insD l i y).length = l.length + 1 := by simp [insD]; omega
/-! ### What bags do -/
def putD {α : Type} (l : List (Dt × α)) (d : Dt) (x : α) : List (Dt × α) := if hereD l d then l.set (posD l d) (d, x) else insD l (posD l d) (d, x)
def remD {α : Type} (l : List (Dt × α)) (d : Dt) : List (Dt × α) := if hereD l d then l.eraseIdx (posD l d) else l
def valD {α : Type} (l : List (Dt × α)) (d : Dt) (z : α) : α := if hereD l d then ((l[posD l d]?).map (·.2)).getD z else z
theorem here_at {α : Type} {l : List (Dt × α)} {d : Dt} (h : hereD l d = true) : ∃ x, l[posD l d]? = some x ∧ x.1 = d := by
  unfold hereD at h
  cases hx : l[posD l d]? with
  | none => rw [hx] at h; cases h
  | some x => rw [hx] at h; exact ⟨x, rfl, of_decide_eq_true (by simpa using h)⟩
theorem set_flat {α : Type} {enc : α → List Value} {sz : Nat} (h : ∀ x : Dt × α, (itC enc x).length = sz) (l : List (Dt × α)) (i : Nat) (x : Dt × α) (y : α) (hx : l[i]? = some x) (off : Nat) (ho : off = i * sz + 2) :
    (l.flatMap (itC enc)).take off ++ enc y ++ (l.flatMap (itC enc)).drop (off + (enc y).length) = (l.set i (x.1, y)).flatMap (itC enc) := by
  subst ho
  obtain ⟨hi, rfl⟩ := List.getElem?_eq_some_iff.1 hx
  have e0 : l.flatMap (itC enc) = (l.take i).flatMap (itC enc) ++ ([vi l[i].1.1, vi l[i].1.2] ++ enc l[i].2) ++ (l.drop (i + 1)).flatMap (itC enc) := by
    rw [show [vi l[i].1.1, vi l[i].1.2] ++ enc l[i].2 = itC enc l[i] from rfl]
    have : l.flatMap (itC enc) = (l.take i ++ l[i] :: l.drop (i + 1)).flatMap (itC enc) := by rw [List.getElem_cons_drop, List.take_append_drop]
    rw [this, List.flatMap_append, List.flatMap_cons, ← List.append_assoc]
  have hpl : ((l.take i).flatMap (itC enc)).length = i * sz := by rw [flat_len h, List.length_take, Nat.min_eq_left (by omega)]
  have hle : ∀ z : α, (enc z).length + 2 = sz := fun z => by have := h ((0, 0), z); simpa [itC] using this
  have e2 := hle l[i].2
  have e3 := hle y
  have e1 : (l.set i (l[i].1, y)).flatMap (itC enc) = (l.take i).flatMap (itC enc) ++ ([vi l[i].1.1, vi l[i].1.2] ++ enc y) ++ (l.drop (i + 1)).flatMap (itC enc) := by
    rw [List.set_eq_take_append_cons_drop, if_pos hi]
    simp [itC]
  rw [e1, e0]
  have hA : ((l.take i).flatMap (itC enc) ++ ([vi l[i].1.1, vi l[i].1.2] ++ enc l[i].2) ++ (l.drop (i + 1)).flatMap (itC enc)).take (i * sz + 2) = (l.take i).flatMap (itC enc) ++ [vi l[i].1.1, vi l[i].1.2] := by
    rw [← List.append_assoc, List.append_assoc _ (enc _) _, List.take_left' (by rw [List.length_append, hpl]; rfl)]
  have hB : ((l.take i).flatMap (itC enc) ++ ([vi l[i].1.1, vi l[i].1.2] ++ enc l[i].2) ++ (l.drop (i + 1)).flatMap (itC enc)).drop (i * sz + 2 + (enc y).length) = (l.drop (i + 1)).flatMap (itC enc) := by
    rw [List.drop_left' (by rw [List.length_append, hpl, List.length_append]; simp only [List.length_cons, List.length_nil]; omega)]
  rw [hA, hB]; simp only [List.append_assoc]
end Go.Proofs.YtmljgobenlpnfaaGreat
end

section
namespace Go.Proofs.YtmljgobenlpnfaaGreat
open Go.Free Go.RowKit Go.Proofs Go.Free.Sorts
set_option maxHeartbeats 8000000
abbrev MergeSpc (fid : FuncId) (caps : List Value) (cN : Chunk) (R : Nat → Nat → Prop) (g n cap a m b : Nat) (f : Nat → Nat) : Prop :=
  SpcC Tryz.prog 120 [.ex (slI g n cap), .ex (vi a), .ex (vi m), .ex (vi b), .ex (fnV fid caps)] (allC [rowI g n cap f, cN]) (fun h : Nat → Nat => Mix a b f h ∧ SortedF R a b h) (fun _ => Fa.any)
    (fun h => allC [rowI g n cap h, cN])
def saSE (F : Nat → Prop) (w0 : World) (g n cap a b : Nat) (cmp : Value) (cN : Chunk) (f : Nat → Nat) (s : Nat × Nat) : Env :=
  [(0, .ex (slI g n cap)), (1, .ex (vi a)), (3, .ex (vi b)), (4, .ex cmp), (10, .ex (vi s.1)), (11, .ex (vi s.2)), (1000, heap (fun b => F b ∨ w0.heap.size ≤ b) [rowI g n cap f, cN])]
def sbE (F : Nat → Prop) (w0 : World) (g n cap a : Nat) (cN : Chunk) (f : Nat → Nat) (i k : Nat) : Env :=
  [(0, .ex (slI g n cap)), (10, .ex (vi i)), (13, .ex (vi k)), (1000, heap (fun b => F b ∨ w0.heap.size ≤ b) [rowI g n cap (shiftF f a k), cN])]
section
variable {fid : FuncId} {caps : List Value} {cN : Chunk} {N : Nat} {R : Nat → Nat → Prop}
theorem mergeA (o : Ord R) (K : CmpK fid caps cN N R) (g n cap a b : Nat) (f : Nat → Nat) (h2 : a + 1 < b) (h3 : b ≤ n) (hn : n ≤ 1000000) (hN : ∀ i, i < n → f i < N) (hs2 : SortedF R (a + 1) b f) (hap : Apart2 a (a + 1) b f) :
    MergeSpc fid caps cN R g n cap a (a + 1) b f := by
  obtain ⟨fn, hfn, hfb, hfm⟩ := K.fn
  have hlt : ∀ k, a + 1 ≤ k → k < b → f a < f k := fun k p q => hap a k (Nat.le_refl _) (Nat.lt_succ_self a) p q
  refine SpcC.intro Tryz.func120 rfl (Nat.le_of_ble_eq_true rfl) fun w0 F => ?_
  have hI := kept_below F w0
  have hA := Own.kept F w0
  refine J.open1 (key := 1000) rfl ?_
  refine J.seq (J.seq (J.region mixed hI (by kernel_rfl) ?_))
  repeat (first | refine Plan.move rfl rfl rfl rfl ?_ | (refine Plan.ints rfl rfl rfl rfl rfl rfl ?_; (first | refine Plan.int (i64r (by omega)) ?_ | skip)))
  refine Plan.boolv (y := true) (by simp; omega) ?_
  refine J.condT rfl ?_
  repeat (first | refine Plan.move rfl rfl rfl rfl ?_ | refine Plan.assign rfl rfl rfl rfl ?_ | refine J.seq (J.region mixed hI (by kernel_rfl) ?_))
  refine J.seq (J.block (J.loop (saSE F w0 g n cap a b (fnV fid caps) cN f) (fun s => a + 1 ≤ s.1 ∧ s.1 ≤ s.2 ∧ s.2 ≤ b ∧ (∀ k, a + 1 ≤ k → k < s.1 → R (f k) (f a)) ∧ ∀ k, s.2 ≤ k → k < b → ¬ R (f k) (f a)) (fun s => s.2 - s.1) (a + 1, b) ⟨Nat.le_refl _, by dsimp only; omega, Nat.le_refl _, fun k p q => by dsimp only at q; omega, fun k p q => by dsimp only at p; omega⟩ ?_ ?_))
  · repeat (first | exact Weak.nil | refine Weak.cons rfl (Sub.refl _) ?_)
  rintro ⟨i, j⟩ ⟨hi, hij, hj, hlo, hhi⟩
  simp only at hi hij hj hlo hhi
  change J _ _ _ _ _ (saSE F w0 g n cap a b (fnV fid caps) cN f (i, j))
  repeat (first | refine Plan.move rfl rfl rfl rfl ?_ | (refine Plan.ints rfl rfl rfl rfl rfl rfl ?_; (skip)) | refine J.seq (J.seq (J.region mixed hI (by kernel_rfl) ?_)))
  refine J.condD rfl (fun hc => ?_) (fun hc => ?_)
  · have hc' : i < j := by
      dsimp only at hc; omega
    obtain ⟨h, hh⟩ : ∃ h, h = (i + j) / 2 := ⟨_, rfl⟩
    obtain ⟨c, hcall, hcR⟩ := K.call (f h) (f a) (hN h (by omega)) (hN a (by omega))
    have hcR := hcR (hlt h (by omega) (by omega))
    refine J.skip ?_
    refine J.block ?_
    repeat (first | refine Plan.move rfl rfl rfl rfl ?_ | (refine Plan.ints rfl rfl rfl rfl rfl rfl ?_; (refine Plan.int (i64r (by omega)) ?_)) | (refine Plan.convInt rfl rfl rfl rfl (by exact Tryz.underlying3) (by first | exact Tryz.underlying3 | exact Tryz.underlying148) ?_; (refine Plan.int (u64r (by omega)) ?_)) | refine J.seq (J.region mixed hI (by kernel_rfl) ?_))
    refine Plan.int (y := ((i + j : Nat) : Int)) (by omega) ?_
    refine Plan.shrN (q := 1) rfl rfl rfl rfl rfl (by decide) ?_
    rw [show (i + j) / 2 ^ 1 = h by rw [hh]]
    repeat (first | refine Plan.move rfl rfl rfl rfl ?_ | refine Plan.assign rfl rfl rfl rfl ?_ | (refine Plan.convInt rfl rfl rfl rfl (by first | exact Tryz.underlying3 | exact Tryz.underlying148) (by exact Tryz.underlying3) ?_; (refine Plan.int (i64r (by omega)) ?_)) | refine J.seq (J.region mixed hI (by kernel_rfl) ?_))
    refine Plan.indexCI h (by omega) rfl rfl rfl rfl rfl eltI (by omega) ?_
    refine Plan.loadC (key := 1000) (q := 0) rfl rfl rfl rfl rfl rfl (row_reads1 (ints_get (by omega))) Tryz.underlying3 (by rfl) (by decide) ?_
    repeat (refine Plan.move rfl rfl rfl rfl ?_)
    refine Plan.indexCI a (by omega) rfl rfl rfl rfl rfl eltI (by omega) ?_
    refine Plan.loadC (key := 1000) (q := 0) rfl rfl rfl rfl rfl rfl (row_reads1 (ints_get (by omega))) Tryz.underlying3 (by rfl) (by decide) ?_
    repeat (fail)
    refine Plan.callFR (key := 1000) (B := 0) (fs := [.ex (vi (f h)), .ex (vi (f a))]) (caps := caps) rfl rfl rfl rfl hcall hfn hfb hfm (fun _ _ => Nat.zero_le _) (Opnds.cons rfl (Sub.refl _) (Opnds.cons rfl (Sub.refl _) Opnds.nil)) rfl (Ent.right.trans Ent.left) (by decide) ?_
    repeat ((refine Plan.ints rfl rfl rfl rfl rfl rfl ?_; (skip)))
    refine J.condD rfl (fun hd => ?_) (fun hd => ?_)
    · repeat (first | refine Plan.move rfl rfl rfl rfl ?_ | refine Plan.assign rfl rfl rfl rfl ?_ | (refine Plan.ints rfl rfl rfl rfl rfl rfl ?_; (refine Plan.int (i64r (by omega)) ?_)) | refine J.region mixed hI (by kernel_rfl) ?_)
      refine Plan.int (y := ((h + 1 : Nat) : Int)) (by omega) ?_
      exact Nrm.next (h + 1, j) ⟨by dsimp only; omega, by dsimp only; omega, hj, fun k p q => sorted_le o hs2 p (by dsimp only at q; omega) (by omega) (hcR.1 hd), hhi⟩ (by dsimp only; omega) (by repeat (first | exact Weak.nil | refine Weak.cons rfl (Sub.refl _) ?_))
    · repeat (first | refine Plan.move rfl rfl rfl rfl ?_ | refine Plan.assign rfl rfl rfl rfl ?_ | refine J.region mixed hI (by kernel_rfl) ?_)
      exact Nrm.next (i, h) ⟨hi, by dsimp only; omega, by dsimp only; omega, hlo, fun k p q e => hd (hcR.2 (sorted_le o hs2 (by omega) p q e))⟩ (by dsimp only; omega) (by repeat (first | exact Weak.nil | refine Weak.cons rfl (Sub.refl _) ?_))
  · have hije : i = j := by
      dsimp only at hc; omega
    subst hije
    refine J.exit ?_
    refine J.seq (J.seq (J.region mixed hI (by kernel_rfl) ?_))
    repeat (first | refine Plan.move rfl rfl rfl rfl ?_ | refine Plan.assign rfl rfl rfl rfl ?_)
    refine J.block (J.loop (sbE F w0 g n cap a cN f i) (fun k => a ≤ k ∧ k + 1 ≤ i) (fun k => i - k) a ⟨Nat.le_refl _, hi⟩ ?_ ?_)
    · rw [sbE, shift_zero]
      repeat (first | exact Weak.nil | refine Weak.cons rfl (Sub.refl _) ?_)
    rintro k ⟨hk1, hk2⟩
    refine J.seq (J.seq (J.region mixed hI (by kernel_rfl) ?_))
    repeat (first | refine Plan.move rfl rfl rfl rfl ?_ | (refine Plan.ints rfl rfl rfl rfl rfl rfl ?_; (first | refine Plan.int (i64r (by omega)) ?_ | skip)))
    refine J.condD rfl (fun hd => ?_) (fun hd => ?_)
    · have hki : k + 1 < i := by
        (try simp only [IntKind.wrap_i64] at hd); omega
      refine J.skip ?_
      refine J.seq (J.block ?_)
      refine J.loose2 [(2, slI g n cap), (3, vi k), (4, vi ((k + 1 : Nat) : Int))] [(0, .ex (slI g n cap)), (13, .ex (vi k))] mixed hI rfl rfl rfl (by kernel_rfl) (by kernel_rfl) (by kernel_rfl) rfl rfl (fun ⟨_, _, h⟩ => h) (fun _ _ _ _ h => h) (by repeat (first | exact Weak.nil | refine Weak.cons rfl (Sub.refl _) ?_)) ?_ ?_
      · refine Gives.cons [(0, .ex (slI g n cap)), (13, .ex (vi k))] (by kernel_rfl) rfl (by kernel_rfl) (Plan.move rfl rfl rfl rfl (Plan.gives rfl)) ?_
        refine Gives.cons [(0, .ex (slI g n cap)), (13, .ex (vi k))] (by kernel_rfl) rfl (by kernel_rfl) (Plan.move rfl rfl rfl rfl (Plan.gives rfl)) ?_
        exact Gives.cons [(64, .ex (vi k)), (0, .ex (slI g n cap)), (13, .ex (vi k))] (by kernel_rfl) rfl (by kernel_rfl) (Plan.ints rfl rfl rfl rfl rfl rfl (Plan.int (y := ((k + 1 : Nat) : Int)) (by rw [i64r (by omega)]; omega) (Plan.gives rfl))) Gives.nil
      repeat (first | refine Plan.move rfl rfl rfl rfl ?_ | refine Plan.assign rfl rfl rfl rfl ?_ | (refine Plan.ints rfl rfl rfl rfl rfl rfl ?_; (refine Plan.int (i64r (by omega)) ?_)))
      refine Plan.indexCI (k + 1) (by omega) rfl rfl rfl rfl rfl eltI (by omega) ?_
      refine Plan.loadC (key := 1000) (q := 0) rfl rfl rfl rfl rfl rfl (row_reads1 (ints_get (by omega))) Tryz.underlying3 (by rfl) (by decide) ?_
      repeat (refine Plan.move rfl rfl rfl rfl ?_)
      refine Plan.indexCI k (by omega) rfl rfl rfl rfl rfl eltI (by omega) ?_
      refine Plan.loadC (key := 1000) (q := 0) rfl rfl rfl rfl rfl rfl (row_reads1 (ints_get (by omega))) Tryz.underlying3 (by rfl) (by decide) ?_
      refine Plan.indexCI k (by omega) rfl rfl rfl rfl rfl eltI (by omega) ?_
      refine Plan.storeC (key := 1000) (q := 0) rfl rfl rfl rfl rfl rfl (by simp [Value.cells, Value.oneCell']) (by kernel_rfl) rfl hA rfl (row_pat1 (by rw [ints_len]; omega)) ?_
      refine Plan.indexCI (k + 1) (by omega) rfl rfl rfl rfl rfl eltI (by omega) ?_
      refine Plan.storeC (key := 1000) (q := 0) rfl rfl rfl rfl rfl rfl (by simp [Value.cells, Value.oneCell']) (by kernel_rfl) rfl hA rfl (row_pat1 (by rw [List.length_set, ints_len]; omega)) ?_
      rw [ints_swap (by omega) (by omega) (by omega), shift_succ f hk1]
      repeat (first | refine Plan.move rfl rfl rfl rfl ?_ | refine Plan.assign rfl rfl rfl rfl ?_ | (refine Plan.ints rfl rfl rfl rfl rfl rfl ?_; (refine Plan.int (i64r (by omega)) ?_)) | refine J.region mixed hI (by kernel_rfl) ?_)
      refine Plan.int (y := ((k + 1 : Nat) : Int)) (by omega) ?_
      exact Nrm.next (k + 1) ⟨by omega, by omega⟩ (by omega) (by repeat (first | exact Weak.nil | refine Weak.cons rfl (Sub.refl _) ?_))
    · have hki : k = i - 1 := by
        (try simp only [IntKind.wrap_i64] at hd); omega
      refine J.exit ?_
      have hfin : Mix a b f (shiftF f a k) ∧ SortedF R a b (shiftF f a k) :=
        ⟨shift_mix hk1 (by omega), shift_sorted hs2 (by omega) (fun x p q => hlo x (by omega) (by omega)) (fun x p q => o.not (by have := hlt x (by omega) q; omega) (hhi x (by omega) q)) hk1⟩
      exact J.ret (Nrm.retC0 (key := 1000) (shiftF f a k) rfl rfl rfl hfin (Ent.refl _) (.inr rfl))
end
end Go.Proofs.YtmljgobenlpnfaaGreat
end

section
namespace Go.Proofs.YtmljgobenlpnfaaGreat
open Go.Free Go.RowKit Go.Proofs Go.Free.Sorts
set_option maxHeartbeats 8000000
def scSE (F : Nat → Prop) (w0 : World) (g n cap m : Nat) (cmp : Value) (cN : Chunk) (f : Nat → Nat) (s : Nat × Nat) : Env :=
  [(0, .ex (slI g n cap)), (2, .ex (vi m)), (4, .ex cmp), (14, .ex (vi s.1)), (15, .ex (vi s.2)), (1000, heap (fun b => F b ∨ w0.heap.size ≤ b) [rowI g n cap f, cN])]
def sdE (F : Nat → Prop) (w0 : World) (g n cap m : Nat) (cN : Chunk) (f : Nat → Nat) (i k : Nat) : Env :=
  [(0, .ex (slI g n cap)), (14, .ex (vi i)), (17, .ex (vi k)), (1000, heap (fun b => F b ∨ w0.heap.size ≤ b) [rowI g n cap (unshF f k m), cN])]
theorem mergeB {fid : FuncId} {caps : List Value} {cN : Chunk} {N : Nat} {R : Nat → Nat → Prop} (o : Ord R) (K : CmpK fid caps cN N R) (g n cap a m : Nat) (f : Nat → Nat) (h1 : a < m) (h2 : a + 1 ≠ m) (h3 : m + 1 ≤ n) (hn : n ≤ 1000000) (hN : ∀ i, i < n → f i < N) (hs1 : SortedF R a m f) (hap : Apart2 a m (m + 1) f) :
    MergeSpc fid caps cN R g n cap a m (m + 1) f := by
  obtain ⟨fn, hfn, hfb, hfm⟩ := K.fn
  have hlt : ∀ k, a ≤ k → k < m → f k < f m := fun k p q => hap k m p q (Nat.le_refl _) (Nat.lt_succ_self m)
  refine SpcC.intro Tryz.func120 rfl (Nat.le_of_ble_eq_true rfl) fun w0 F => ?_
  have hI := kept_below F w0
  have hA := Own.kept F w0
  refine J.open1 (key := 1000) rfl ?_
  refine J.seq (J.seq (J.region mixed hI (by kernel_rfl) ?_))
  repeat (first | refine Plan.move rfl rfl rfl rfl ?_ | (refine Plan.ints rfl rfl rfl rfl rfl rfl ?_; (first | refine Plan.int (i64r (by omega)) ?_ | skip)))
  refine Plan.boolv (y := false) (by simp; omega) ?_
  refine J.condF rfl ?_
  refine J.skip ?_
  refine J.seq (J.seq (J.region mixed hI (by kernel_rfl) ?_))
  repeat (first | refine Plan.move rfl rfl rfl rfl ?_ | (refine Plan.ints rfl rfl rfl rfl rfl rfl ?_; (first | refine Plan.int (i64r (by omega)) ?_ | skip)))
  refine Plan.boolv (y := true) (by simp; omega) ?_
  refine J.condT rfl ?_
  repeat (first | refine Plan.move rfl rfl rfl rfl ?_ | refine Plan.assign rfl rfl rfl rfl ?_ | refine J.seq (J.region mixed hI (by kernel_rfl) ?_))
  refine J.seq (J.block (J.loop (scSE F w0 g n cap m (fnV fid caps) cN f) (fun s => a ≤ s.1 ∧ s.1 ≤ s.2 ∧ s.2 ≤ m ∧ (∀ k, a ≤ k → k < s.1 → R (f k) (f m)) ∧ ∀ k, s.2 ≤ k → k < m → R (f m) (f k)) (fun s => s.2 - s.1) (a, m) ⟨Nat.le_refl _, by dsimp only; omega, Nat.le_refl _, fun k p q => by dsimp only at q; omega, fun k p q => by dsimp only at p; omega⟩ ?_ ?_))
  · repeat (first | exact Weak.nil | refine Weak.cons rfl (Sub.refl _) ?_)
  rintro ⟨i, j⟩ ⟨hi, hij, hj, hlo, hhi⟩
  simp only at hi hij hj hlo hhi
  change J _ _ _ _ _ (scSE F w0 g n cap m (fnV fid caps) cN f (i, j))
  repeat (first | refine Plan.move rfl rfl rfl rfl ?_ | (refine Plan.ints rfl rfl rfl rfl rfl rfl ?_; (skip)) | refine J.seq (J.seq (J.region mixed hI (by kernel_rfl) ?_)))
  refine J.condD rfl (fun hc => ?_) (fun hc => ?_)
  · have hc' : i < j := by
      dsimp only at hc; omega
    obtain ⟨h, hh⟩ : ∃ h, h = (i + j) / 2 := ⟨_, rfl⟩
    obtain ⟨c, hcall, hcR⟩ := K.call (f m) (f h) (hN m (by omega)) (hN h (by omega))
    have hcR := hcR (hlt h (by omega) (by omega))
    refine J.skip ?_
    refine J.block ?_
    repeat (first | refine Plan.move rfl rfl rfl rfl ?_ | (refine Plan.ints rfl rfl rfl rfl rfl rfl ?_; (refine Plan.int (i64r (by omega)) ?_)) | (refine Plan.convInt rfl rfl rfl rfl (by exact Tryz.underlying3) (by first | exact Tryz.underlying3 | exact Tryz.underlying148) ?_; (refine Plan.int (u64r (by omega)) ?_)) | refine J.seq (J.region mixed hI (by kernel_rfl) ?_))
    refine Plan.int (y := ((i + j : Nat) : Int)) (by omega) ?_
    refine Plan.shrN (q := 1) rfl rfl rfl rfl rfl (by decide) ?_
    rw [show (i + j) / 2 ^ 1 = h by rw [hh]]
    repeat (first | refine Plan.move rfl rfl rfl rfl ?_ | refine Plan.assign rfl rfl rfl rfl ?_ | (refine Plan.convInt rfl rfl rfl rfl (by first | exact Tryz.underlying3 | exact Tryz.underlying148) (by exact Tryz.underlying3) ?_; (refine Plan.int (i64r (by omega)) ?_)) | refine J.seq (J.region mixed hI (by kernel_rfl) ?_))
    refine Plan.indexCI m (by omega) rfl rfl rfl rfl rfl eltI (by omega) ?_
    refine Plan.loadC (key := 1000) (q := 0) rfl rfl rfl rfl rfl rfl (row_reads1 (ints_get (by omega))) Tryz.underlying3 (by rfl) (by decide) ?_
    repeat (refine Plan.move rfl rfl rfl rfl ?_)
    refine Plan.indexCI h (by omega) rfl rfl rfl rfl rfl eltI (by omega) ?_
    refine Plan.loadC (key := 1000) (q := 0) rfl rfl rfl rfl rfl rfl (row_reads1 (ints_get (by omega))) Tryz.underlying3 (by rfl) (by decide) ?_
    repeat (fail)
    refine Plan.callFR (key := 1000) (B := 0) (fs := [.ex (vi (f m)), .ex (vi (f h))]) (caps := caps) rfl rfl rfl rfl hcall hfn hfb hfm (fun _ _ => Nat.zero_le _) (Opnds.cons rfl (Sub.refl _) (Opnds.cons rfl (Sub.refl _) Opnds.nil)) rfl (Ent.right.trans Ent.left) (by decide) ?_
    repeat (first | (refine Plan.ints rfl rfl rfl rfl rfl rfl ?_; (skip)) | refine Plan.un rfl rfl rfl rfl rfl ?_)
    refine J.condND rfl (fun hd => ?_) (fun hd => ?_)
    · have hR : R (f h) (f m) := o.not (by have := hlt h (by omega) (by omega); omega) (fun e => hd (hcR.2 e))
      repeat (first | refine Plan.move rfl rfl rfl rfl ?_ | refine Plan.assign rfl rfl rfl rfl ?_ | (refine Plan.ints rfl rfl rfl rfl rfl rfl ?_; (refine Plan.int (i64r (by omega)) ?_)) | refine J.region mixed hI (by kernel_rfl) ?_)
      refine Plan.int (y := ((h + 1 : Nat) : Int)) (by omega) ?_
      exact Nrm.next (h + 1, j) ⟨by dsimp only; omega, by dsimp only; omega, hj, fun k p q => sorted_le o hs1 p (by dsimp only at q; omega) (by omega) hR, hhi⟩ (by dsimp only; omega) (by repeat (first | exact Weak.nil | refine Weak.cons rfl (Sub.refl _) ?_))
    · repeat (first | refine Plan.move rfl rfl rfl rfl ?_ | refine Plan.assign rfl rfl rfl rfl ?_ | refine J.region mixed hI (by kernel_rfl) ?_)
      exact Nrm.next (i, h) ⟨hi, by dsimp only; omega, by dsimp only; omega, hlo, fun k p q => sorted_ge o hs1 (by omega) p q (hcR.1 hd)⟩ (by dsimp only; omega) (by repeat (first | exact Weak.nil | refine Weak.cons rfl (Sub.refl _) ?_))
  · have hije : i = j := by
      dsimp only at hc; omega
    subst hije
    refine J.exit ?_
    refine J.seq (J.seq (J.region mixed hI (by kernel_rfl) ?_))
    repeat (first | refine Plan.move rfl rfl rfl rfl ?_ | refine Plan.assign rfl rfl rfl rfl ?_)
    refine J.block (J.loop (sdE F w0 g n cap m cN f i) (fun k => i ≤ k ∧ k ≤ m) (fun k => k) m ⟨hj, Nat.le_refl _⟩ ?_ ?_)
    · rw [sdE, unsh_zero]
      repeat (first | exact Weak.nil | refine Weak.cons rfl (Sub.refl _) ?_)
    rintro k ⟨hk1, hk2⟩
    refine J.seq (J.seq (J.region mixed hI (by kernel_rfl) ?_))
    repeat (first | refine Plan.move rfl rfl rfl rfl ?_ | (refine Plan.ints rfl rfl rfl rfl rfl rfl ?_; (skip)))
    refine J.condD rfl (fun hd => ?_) (fun hd => ?_)
    · have hki : i < k := by omega
      obtain ⟨k', rfl⟩ : ∃ k', k = k' + 1 := ⟨k - 1, by omega⟩
      refine J.skip ?_
      refine J.seq (J.block ?_)
      refine J.loose2 [(2, slI g n cap), (3, vi ((k' + 1 : Nat) : Int)), (4, vi k')] [(0, .ex (slI g n cap)), (17, .ex (vi ((k' + 1 : Nat) : Int)))] mixed hI rfl rfl rfl (by kernel_rfl) (by kernel_rfl) (by kernel_rfl) rfl rfl (fun ⟨_, _, h⟩ => h) (fun _ _ _ _ h => h) (by repeat (first | exact Weak.nil | refine Weak.cons rfl (Sub.refl _) ?_)) ?_ ?_
      · refine Gives.cons [(0, .ex (slI g n cap)), (17, .ex (vi ((k' + 1 : Nat) : Int)))] (by kernel_rfl) rfl (by kernel_rfl) (Plan.move rfl rfl rfl rfl (Plan.gives rfl)) ?_
        refine Gives.cons [(0, .ex (slI g n cap)), (17, .ex (vi ((k' + 1 : Nat) : Int)))] (by kernel_rfl) rfl (by kernel_rfl) (Plan.move rfl rfl rfl rfl (Plan.gives rfl)) ?_
        exact Gives.cons [(116, .ex (vi ((k' + 1 : Nat) : Int))), (0, .ex (slI g n cap)), (17, .ex (vi ((k' + 1 : Nat) : Int)))] (by kernel_rfl) rfl (by kernel_rfl) (Plan.ints rfl rfl rfl rfl rfl rfl (Plan.int (y := (k' : Int)) (by rw [i64r (by omega)]; omega) (Plan.gives rfl))) Gives.nil
      repeat (first | refine Plan.move rfl rfl rfl rfl ?_ | refine Plan.assign rfl rfl rfl rfl ?_ | (refine Plan.ints rfl rfl rfl rfl rfl rfl ?_; (refine Plan.int (i64r (by omega)) ?_)))
      refine Plan.indexCI k' (by omega) rfl rfl rfl rfl rfl eltI (by omega) ?_
      refine Plan.loadC (key := 1000) (q := 0) rfl rfl rfl rfl rfl rfl (row_reads1 (ints_get (by omega))) Tryz.underlying3 (by rfl) (by decide) ?_
      repeat (refine Plan.move rfl rfl rfl rfl ?_)
      refine Plan.indexCI (k' + 1) (by omega) rfl rfl rfl rfl rfl eltI (by omega) ?_
      refine Plan.loadC (key := 1000) (q := 0) rfl rfl rfl rfl rfl rfl (row_reads1 (ints_get (by omega))) Tryz.underlying3 (by rfl) (by decide) ?_
      refine Plan.indexCI (k' + 1) (by omega) rfl rfl rfl rfl rfl eltI (by omega) ?_
      refine Plan.storeC (key := 1000) (q := 0) rfl rfl rfl rfl rfl rfl (by simp [Value.cells, Value.oneCell']) (by kernel_rfl) rfl hA rfl (row_pat1 (by rw [ints_len]; omega)) ?_
      refine Plan.indexCI k' (by omega) rfl rfl rfl rfl rfl eltI (by omega) ?_
      refine Plan.storeC (key := 1000) (q := 0) rfl rfl rfl rfl rfl rfl (by simp [Value.cells, Value.oneCell']) (by kernel_rfl) rfl hA rfl (row_pat1 (by rw [List.length_set, ints_len]; omega)) ?_
      rw [ints_swap (by omega) (by omega) (by omega), unsh_succ f (by omega)]
      repeat (first | refine Plan.move rfl rfl rfl rfl ?_ | refine Plan.assign rfl rfl rfl rfl ?_ | (refine Plan.ints rfl rfl rfl rfl rfl rfl ?_; (refine Plan.int (i64r (by omega)) ?_)) | refine J.region mixed hI (by kernel_rfl) ?_)
      refine Plan.int (y := (k' : Int)) (by omega) ?_
      exact Nrm.next k' ⟨by omega, by omega⟩ (by omega) (by repeat (first | exact Weak.nil | refine Weak.cons rfl (Sub.refl _) ?_))
    · have hki : k = i := by omega
      subst hki
      refine J.exit ?_
      have hfin : Mix a (m + 1) f (unshF f k m) ∧ SortedF R a (m + 1) (unshF f k m) :=
        ⟨unsh_mix hi hk2 (by omega), unsh_sorted hs1 hk2 hlo hhi hi⟩
      exact J.ret (Nrm.retC0 (key := 1000) (unshF f k m) rfl rfl rfl hfin (Ent.refl _) (.inr rfl))
end Go.Proofs.YtmljgobenlpnfaaGreat
end

section
namespace Go.Proofs.YtmljgobenlpnfaaGreat
open Go.Free Go.RowKit Go.Proofs Go.Free.Sorts
set_option maxHeartbeats 8000000
theorem mix_bound {a b n N : Nat} {f g : Nat → Nat} (hm : Mix a b f g) (hb : b ≤ n) (h : ∀ i, i < n → f i < N) : ∀ i, i < n → g i < N := fun i hi => by
  by_cases hc : a ≤ i ∧ i < b
  · obtain ⟨k, k1, k2, e⟩ := hm.fro i hc.1 hc.2
    rw [e]; exact h k (by omega)
  · rw [hm.out i (by omega)]; exact h i hi
theorem rot_none {f : Nat → Nat} {s m e : Nat} (h : s = m ∨ m = e) (h1 : s ≤ m) (h2 : m ≤ e) : rotF f s m e = f := by
  funext k; unfold rotF
  (repeat' split) <;> first | rfl | (exfalso; omega) | (congr 1; omega)
def meE (F : Nat → Prop) (w0 : World) (g n cap a m b mid : Nat) (cmp : Value) (cN : Chunk) (f : Nat → Nat) (s : Nat × Nat) : Env :=
  [(0, .ex (slI g n cap)), (1, .ex (vi a)), (2, .ex (vi m)), (3, .ex (vi b)), (4, .ex cmp), (18, .ex (vi mid)), (19, .ex (vi ((mid + m : Nat) : Int))), (20, .ex (vi s.1)), (21, .ex (vi s.2)), (1000, heap (fun b => F b ∨ w0.heap.size ≤ b) [rowI g n cap f, cN])]
def mfE (F : Nat → Prop) (w0 : World) (g n cap a m b mid p : Nat) (cmp : Value) (cN : Chunk) (f : Nat → Nat) (s : Nat × Nat) : Env :=
  [(0, .ex (slI g n cap)), (1, .ex (vi a)), (2, .ex (vi m)), (3, .ex (vi b)), (4, .ex cmp), (18, .ex (vi mid)), (19, .ex (vi ((mid + m : Nat) : Int))), (20, .ex (vi s.1)), (21, .ex (vi s.2)), (22, .ex (vi p)), (1000, heap (fun b => F b ∨ w0.heap.size ≤ b) [rowI g n cap f, cN])]
def mgE (F : Nat → Prop) (w0 : World) (g n cap a b mid s e : Nat) (cmp : Value) (cN : Chunk) (h : Nat → Nat) : Env :=
  [(0, .ex (slI g n cap)), (1, .ex (vi a)), (3, .ex (vi b)), (4, .ex cmp), (18, .ex (vi mid)), (20, .ex (vi s)), (24, .ex (vi e)), (1000, heap (fun b => F b ∨ w0.heap.size ≤ b) [rowI g n cap h, cN])]
theorem mergeC {fid : FuncId} {caps : List Value} {cN : Chunk} {N : Nat} {R : Nat → Nat → Prop} (o : Ord R) (K : CmpK fid caps cN N R) (g n cap a m b : Nat) (f : Nat → Nat) (h1 : a < m) (h2 : m < b) (hA1 : a + 1 ≠ m) (hB1 : m + 1 ≠ b) (h3 : b ≤ n) (hn : n ≤ 1000000) (hN : ∀ i, i < n → f i < N) (hs1 : SortedF R a m f) (hs2 : SortedF R m b f) (hap : Apart2 a m b f)
    (ih : ∀ (a' m' b' : Nat) (f' : Nat → Nat), b' - a' < b - a → a' < m' → m' < b' → b' ≤ n → (∀ i, i < n → f' i < N) → SortedF R a' m' f' → SortedF R m' b' f' → Apart2 a' m' b' f' → MergeSpc fid caps cN R g n cap a' m' b' f') :
    MergeSpc fid caps cN R g n cap a m b f := by
  obtain ⟨fn, hfn, hfb, hfm⟩ := K.fn
  refine SpcC.intro Tryz.func120 rfl (Nat.le_of_ble_eq_true rfl) fun w0 F => ?_
  have hI := kept_below F w0
  have hA := Own.kept F w0
  refine J.open1 (key := 1000) rfl ?_
  refine J.seq (J.seq (J.region mixed hI (by kernel_rfl) ?_))
  repeat (first | refine Plan.move rfl rfl rfl rfl ?_ | (refine Plan.ints rfl rfl rfl rfl rfl rfl ?_; (first | refine Plan.int (i64r (by omega)) ?_ | skip)))
  refine Plan.boolv (y := false) (by simp; omega) ?_
  refine J.condF rfl ?_
  refine J.skip ?_
  refine J.seq (J.seq (J.region mixed hI (by kernel_rfl) ?_))
  repeat (first | refine Plan.move rfl rfl rfl rfl ?_ | (refine Plan.ints rfl rfl rfl rfl rfl rfl ?_; (first | refine Plan.int (i64r (by omega)) ?_ | skip)))
  refine Plan.boolv (y := false) (by simp; omega) ?_
  refine J.condF rfl ?_
  refine J.skip ?_
  obtain ⟨mid, hmd⟩ : ∃ mid, mid = (a + b) / 2 := ⟨_, rfl⟩
  refine J.seq (J.region mixed hI (by kernel_rfl) ?_)
  repeat (first | refine Plan.move rfl rfl rfl rfl ?_ | (refine Plan.ints rfl rfl rfl rfl rfl rfl ?_; (refine Plan.int (i64r (by omega)) ?_)) | (refine Plan.convInt rfl rfl rfl rfl (by exact Tryz.underlying3) (by first | exact Tryz.underlying3 | exact Tryz.underlying23) ?_; (refine Plan.int (u64r (by omega)) ?_)))
  refine Plan.int (y := ((a + b : Nat) : Int)) (by omega) ?_
  repeat (fail)
  refine Plan.shrN (q := 1) rfl rfl rfl rfl rfl (by decide) ?_
  rw [show (a + b) / 2 ^ 1 = mid by rw [hmd]]
  repeat (first | refine Plan.assign rfl rfl rfl rfl ?_ | (refine Plan.convInt rfl rfl rfl rfl (by first | exact Tryz.underlying3 | exact Tryz.underlying23) (by exact Tryz.underlying3) ?_; (refine Plan.int (i64r (by omega)) ?_)))
  refine J.seq (J.region mixed hI (by kernel_rfl) ?_)
  repeat (first | refine Plan.move rfl rfl rfl rfl ?_ | refine Plan.assign rfl rfl rfl rfl ?_ | (refine Plan.ints rfl rfl rfl rfl rfl rfl ?_; (refine Plan.int (i64r (by omega)) ?_)))
  refine Plan.int (y := ((mid + m : Nat) : Int)) (by omega) ?_
  repeat (fail)
  refine J.seq (J.region mixed hI (by kernel_rfl) ?_)
  repeat (refine Plan.assign rfl rfl rfl rfl ?_)
  refine J.seqMid (meE F w0 g n cap a m b mid (fnV fid caps) cN f) (fun s => (mid < m ∧ s.1 + b = mid + m ∧ s.2 = mid) ∨ (m ≤ mid ∧ s.1 = a ∧ s.2 = m)) ?_ ?_
  · refine J.seq (J.region mixed hI (by kernel_rfl) ?_)
    repeat (first | refine Plan.move rfl rfl rfl rfl ?_ | (refine Plan.ints rfl rfl rfl rfl rfl rfl ?_; (skip)))
    refine J.condD rfl (fun hc => ?_) (fun hc => ?_)
    · have hc' : mid < m := by omega
      refine J.seq (J.region mixed hI (by kernel_rfl) ?_)
      repeat (first | refine Plan.move rfl rfl rfl rfl ?_ | refine Plan.assign rfl rfl rfl rfl ?_ | (refine Plan.ints rfl rfl rfl rfl rfl rfl ?_; (refine Plan.int (i64r (by omega)) ?_)))
      refine Plan.int (y := ((mid + m - b : Nat) : Int)) (by omega) ?_
      repeat (fail)
      refine J.region mixed hI (by kernel_rfl) ?_
      repeat (first | refine Plan.move rfl rfl rfl rfl ?_ | refine Plan.assign rfl rfl rfl rfl ?_)
      exact Nrm.mid (mid + m - b, mid) (.inl ⟨hc', by dsimp only; omega, rfl⟩) (by repeat (first | exact Weak.nil | refine Weak.cons rfl (Sub.refl _) ?_))
    · have hc' : m ≤ mid := by omega
      refine J.seq (J.region mixed hI (by kernel_rfl) ?_)
      repeat (first | refine Plan.move rfl rfl rfl rfl ?_ | refine Plan.assign rfl rfl rfl rfl ?_)
      refine J.region mixed hI (by kernel_rfl) ?_
      repeat (first | refine Plan.move rfl rfl rfl rfl ?_ | refine Plan.assign rfl rfl rfl rfl ?_)
      exact Nrm.mid (a, m) (.inr ⟨hc', rfl, rfl⟩) (by repeat (first | exact Weak.nil | refine Weak.cons rfl (Sub.refl _) ?_))
  rintro ⟨lo, hi⟩ hlo
  simp only at hlo
  change J _ _ _ _ _ (meE F w0 g n cap a m b mid (fnV fid caps) cN f (lo, hi))
  have hla : a ≤ lo := by omega
  have hlh : lo ≤ hi := by omega
  have hhm : hi ≤ m := by omega
  obtain ⟨p, hp⟩ : ∃ p, p = mid + m - 1 := ⟨_, rfl⟩
  have hpc : ∀ c, lo ≤ c → c < hi → a ≤ c ∧ c < m ∧ m ≤ p - c ∧ p - c < b ∧ c ≤ p := fun c q r => by omega
  refine J.seq (J.region mixed hI (by kernel_rfl) ?_)
  repeat (first | refine Plan.move rfl rfl rfl rfl ?_ | refine Plan.assign rfl rfl rfl rfl ?_ | (refine Plan.ints rfl rfl rfl rfl rfl rfl ?_; (refine Plan.int (i64r (by omega)) ?_)))
  refine Plan.int (y := (p : Int)) (by omega) ?_
  repeat (fail)
  refine J.seq (J.block (J.loop (mfE F w0 g n cap a m b mid p (fnV fid caps) cN f) (fun s => lo ≤ s.1 ∧ s.1 ≤ s.2 ∧ s.2 ≤ hi ∧ (∀ c, lo ≤ c → c < s.1 → ¬ R (f (p - c)) (f c)) ∧ ∀ c, s.2 ≤ c → c < hi → R (f (p - c)) (f c)) (fun s => s.2 - s.1) (lo, hi) ⟨Nat.le_refl _, hlh, Nat.le_refl _, fun k q r => by dsimp only at r; omega, fun k q r => by dsimp only at q; omega⟩ ?_ ?_))
  · repeat (first | exact Weak.nil | refine Weak.cons rfl (Sub.refl _) ?_)
  rintro ⟨s, r⟩ ⟨hls, hsr, hrh, hno, hye⟩
  simp only at hls hsr hrh hno hye
  change J _ _ _ _ _ (mfE F w0 g n cap a m b mid p (fnV fid caps) cN f (s, r))
  refine J.seq (J.seq (J.region mixed hI (by kernel_rfl) ?_))
  repeat (first | refine Plan.move rfl rfl rfl rfl ?_ | (refine Plan.ints rfl rfl rfl rfl rfl rfl ?_; (skip)))
  refine J.condD rfl (fun hc => ?_) (fun hc => ?_)
  · have hc' : s < r := by
      first | omega | (dsimp only at hc; omega)
    obtain ⟨c, hh⟩ : ∃ c, c = (s + r) / 2 := ⟨_, rfl⟩
    obtain ⟨c1, c2, c3, c4, c5⟩ := hpc c (by omega) (by omega)
    obtain ⟨v, hcall, hcR⟩ := K.call (f (p - c)) (f c) (hN _ (by omega)) (hN c (by omega))
    have hcR := hcR (hap c (p - c) c1 c2 c3 c4)
    refine J.skip ?_
    refine J.block ?_
    refine J.seq (J.region mixed hI (by kernel_rfl) ?_)
    repeat (first | refine Plan.move rfl rfl rfl rfl ?_ | (refine Plan.ints rfl rfl rfl rfl rfl rfl ?_; (refine Plan.int (i64r (by omega)) ?_)) | (refine Plan.convInt rfl rfl rfl rfl (by exact Tryz.underlying3) (by first | exact Tryz.underlying3 | exact Tryz.underlying23) ?_; (refine Plan.int (u64r (by omega)) ?_)))
    refine Plan.int (y := ((s + r : Nat) : Int)) (by omega) ?_
    repeat (fail)
    refine Plan.shrN (q := 1) rfl rfl rfl rfl rfl (by decide) ?_
    rw [show (s + r) / 2 ^ 1 = c by rw [hh]]
    repeat (first | refine Plan.assign rfl rfl rfl rfl ?_ | (refine Plan.convInt rfl rfl rfl rfl (by first | exact Tryz.underlying3 | exact Tryz.underlying23) (by exact Tryz.underlying3) ?_; (refine Plan.int (i64r (by omega)) ?_)))
    refine J.seq (J.region mixed hI (by kernel_rfl) ?_)
    repeat (first | refine Plan.move rfl rfl rfl rfl ?_ | (refine Plan.ints rfl rfl rfl rfl rfl rfl ?_; (refine Plan.int (i64r (by omega)) ?_)))
    refine Plan.indexCI (p - c) (by omega) rfl rfl rfl rfl rfl eltI (by omega) ?_
    refine Plan.loadC (key := 1000) (q := 0) rfl rfl rfl rfl rfl rfl (row_reads1 (ints_get (by omega))) Tryz.underlying3 (by rfl) (by decide) ?_
    repeat (refine Plan.move rfl rfl rfl rfl ?_)
    refine Plan.indexCI c (by omega) rfl rfl rfl rfl rfl eltI (by omega) ?_
    refine Plan.loadC (key := 1000) (q := 0) rfl rfl rfl rfl rfl rfl (row_reads1 (ints_get (by omega))) Tryz.underlying3 (by rfl) (by decide) ?_
    repeat (fail)
    refine Plan.callFR (key := 1000) (B := 0) (fs := [.ex (vi (f (p - c))), .ex (vi (f c))]) (caps := caps) rfl rfl rfl rfl hcall hfn hfb hfm (fun _ _ => Nat.zero_le _) (Opnds.cons rfl (Sub.refl _) (Opnds.cons rfl (Sub.refl _) Opnds.nil)) rfl (Ent.right.trans Ent.left) (by decide) ?_
    repeat (first | (refine Plan.ints rfl rfl rfl rfl rfl rfl ?_; (skip)) | refine Plan.un rfl rfl rfl rfl rfl ?_)
    refine J.condND rfl (fun hd => ?_) (fun hd => ?_)
    · have hR : ¬ R (f (p - c)) (f c) := fun e => hd (hcR.2 e)
      refine J.region mixed hI (by kernel_rfl) ?_
      repeat (first | refine Plan.move rfl rfl rfl rfl ?_ | refine Plan.assign rfl rfl rfl rfl ?_ | (refine Plan.ints rfl rfl rfl rfl rfl rfl ?_; (refine Plan.int (i64r (by omega)) ?_)))
      refine Plan.int (y := ((c + 1 : Nat) : Int)) (by omega) ?_
      repeat (fail)
      refine Nrm.next (c + 1, r) ⟨by dsimp only; omega, by dsimp only; omega, hrh, fun k q1 q2 e => hR ?_, hye⟩ (by dsimp only; omega) (by repeat (first | exact Weak.nil | refine Weak.cons rfl (Sub.refl _) ?_))
      dsimp only at q2
      obtain ⟨d1, d2, d3, d4, d5⟩ := hpc k q1 (by omega)
      exact sorted_ge o hs1 d1 (by omega) c2 (sorted_le o hs2 c3 (by omega) d4 e)
    · have hR := hcR.1 hd
      refine J.region mixed hI (by kernel_rfl) ?_
      repeat (first | refine Plan.move rfl rfl rfl rfl ?_ | refine Plan.assign rfl rfl rfl rfl ?_)
      refine Nrm.next (s, c) ⟨hls, by dsimp only; omega, by dsimp only; omega, hno, fun k q1 q2 => ?_⟩ (by dsimp only; omega) (by repeat (first | exact Weak.nil | refine Weak.cons rfl (Sub.refl _) ?_))
      dsimp only at q1
      obtain ⟨d1, d2, d3, d4, d5⟩ := hpc k (by omega) q2
      exact sorted_le o hs2 d3 (by omega) c4 (sorted_ge o hs1 c1 q1 d2 hR)
  · have hsr' : s = r := by
      first | omega | (dsimp only at hc; omega)
    subst hsr'
    refine J.exit ?_
    obtain ⟨e, he⟩ : ∃ e, e = mid + m - s := ⟨_, rfl⟩
    have hme : m ≤ e := by omega
    have heb : e ≤ b := by omega
    have has : a ≤ s := by omega
    have hsm : s ≤ mid := by omega
    have hsm2 : s ≤ m := by omega
    have hmie : mid ≤ e := by omega
    have hmid1 : a < mid := by omega
    have hmid2 : mid < b := by omega
    have hsp := merge_split o hs1 hs2 hap h1 h2 (show 2 * mid ≤ a + b ∧ a + b ≤ 2 * mid + 1 by omega) hlo hla hls hrh (show e + s = mid + m by omega) (fun c q1 q2 => by rw [← hp]; exact hno c q1 q2) (fun c q1 q2 => by rw [← hp]; exact hye c q1 q2)
    have hmx : Mix a b f (rotF f s m e) := (rot_mix hsm2 hme).wide has heb
    refine J.seq (J.region mixed hI (by kernel_rfl) ?_)
    repeat (first | refine Plan.move rfl rfl rfl rfl ?_ | refine Plan.assign rfl rfl rfl rfl ?_ | (refine Plan.ints rfl rfl rfl rfl rfl rfl ?_; (refine Plan.int (i64r (by omega)) ?_)))
    refine Plan.int (y := (e : Int)) (by omega) ?_
    repeat (fail)
    refine J.seqMid (σ := Unit) (fun _ => mgE F w0 g n cap a b mid s e (fnV fid caps) cN (rotF f s m e)) (fun _ => True) ?_ ?_
    · refine J.seq (J.region mixed hI (by kernel_rfl) ?_)
      repeat (first | refine Plan.move rfl rfl rfl rfl ?_ | (refine Plan.ints rfl rfl rfl rfl rfl rfl ?_; (skip)))
      by_cases hb1 : s < m
      · refine Plan.boolv (y := true) (decide_eq_true (by omega)) ?_
        repeat (first | refine Plan.move rfl rfl rfl rfl ?_ | refine Plan.pick rfl rfl rfl rfl rfl ?_ | (refine Plan.ints rfl rfl rfl rfl rfl rfl ?_; (skip)))
        by_cases hb2 : m < e
        · refine Plan.boolv (y := true) (decide_eq_true (by omega)) ?_
          repeat (fail)
          refine J.condT rfl ?_
          refine J.region mixed hI (by kernel_rfl) ?_
          repeat (refine Plan.move rfl rfl rfl rfl ?_)
          refine Plan.callC (key := 1000) (q := 0) rfl rfl rfl (rotate_fn g n cap s m e f (fnV fid caps) hb1 hb2 (by omega) hn) Tryz.func122 rfl rfl (by intro _ e; cases e; decide) (by repeat (first | exact Opnds.nil | refine Opnds.cons rfl (by exact Sub.refl _) ?_)) rfl hA rfl ?_
          intro _ _
          exact Nrm.mid () trivial (by repeat (first | exact Weak.nil | refine Weak.cons rfl (Sub.refl _) ?_))
        · refine Plan.boolv (y := false) (decide_eq_false (by omega)) ?_
          repeat (fail)
          refine J.condF rfl ?_
          refine J.skip ?_
          rw [rot_none (.inr (by omega)) hsm2 hme]
          exact Nrm.mid () trivial (by repeat (first | exact Weak.nil | refine Weak.cons rfl (Sub.refl _) ?_))
      · refine Plan.boolv (y := false) (decide_eq_false (by omega)) ?_
        repeat (first | refine Plan.skip rfl rfl ?_ | refine Plan.pick rfl rfl rfl rfl rfl ?_)
        refine J.condF rfl ?_
        refine J.skip ?_
        rw [rot_none (.inl (by omega)) hsm2 hme]
        exact Nrm.mid () trivial (by repeat (first | exact Weak.nil | refine Weak.cons rfl (Sub.refl _) ?_))
    intro _ _
    generalize rotF f s m e = g0 at *
    refine J.seqMid (mgE F w0 g n cap a b mid s e (fnV fid caps) cN) (fun h => Mix a mid g0 h ∧ SortedF R a mid h) ?_ ?_
    · refine J.seq (J.region mixed hI (by kernel_rfl) ?_)
      repeat (first | refine Plan.move rfl rfl rfl rfl ?_ | (refine Plan.ints rfl rfl rfl rfl rfl rfl ?_; (skip)))
      by_cases hb1 : a < s
      · refine Plan.boolv (y := true) (decide_eq_true (by omega)) ?_
        repeat (first | refine Plan.move rfl rfl rfl rfl ?_ | refine Plan.pick rfl rfl rfl rfl rfl ?_ | (refine Plan.ints rfl rfl rfl rfl rfl rfl ?_; (skip)))
        by_cases hb2 : s < mid
        · refine Plan.boolv (y := true) (decide_eq_true (by omega)) ?_
          repeat (fail)
          refine J.condT rfl ?_
          refine J.region mixed hI (by kernel_rfl) ?_
          repeat (refine Plan.move rfl rfl rfl rfl ?_)
          have hrec := ih a s mid g0 (by omega) hb1 hb2 (by omega) (mix_bound hmx h3 hN) hsp.s1 hsp.s2 hsp.a1
          refine Plan.callL (key := 1000) [0, 1] [] rfl rfl rfl (hrec) Tryz.func120 rfl rfl (by intro _ e; cases e; decide) (by repeat (first | exact Opnds.nil | refine Opnds.cons rfl (by exact Sub.refl _) ?_)) rfl hA rfl rfl rfl ?_
          rintro h ⟨hx1, hx2⟩
          exact Nrm.mid h ⟨hx1, hx2⟩ (by repeat (first | exact Weak.nil | refine Weak.cons rfl (Sub.refl _) ?_))
        · refine Plan.boolv (y := false) (decide_eq_false (by omega)) ?_
          repeat (fail)
          refine J.condF rfl ?_
          refine J.skip ?_
          have hsm' : s = mid := by omega
          exact Nrm.mid g0 ⟨Mix.refl _ _ _, hsm' ▸ hsp.s1⟩ (by repeat (first | exact Weak.nil | refine Weak.cons rfl (Sub.refl _) ?_))
      · refine Plan.boolv (y := false) (decide_eq_false (by omega)) ?_
        repeat (first | refine Plan.skip rfl rfl ?_ | refine Plan.pick rfl rfl rfl rfl rfl ?_)
        refine J.condF rfl ?_
        refine J.skip ?_
        have hsa : s = a := by omega
        exact Nrm.mid g0 ⟨Mix.refl _ _ _, hsa ▸ hsp.s2⟩ (by repeat (first | exact Weak.nil | refine Weak.cons rfl (Sub.refl _) ?_))
    rintro k ⟨hk1, hk2⟩
    have hcr := cross_left hk1 hsp.cross
    have hs3 := sorted_out hk1 hsp.s3 (.inr (Nat.le_refl _))
    have hs4 := sorted_out hk1 hsp.s4 (.inr hmie)
    have ha2 := apart_out hk1 hsp.a2 (.inr (Nat.le_refl _))
    have hmk : Mix a b f k := hmx.trans (hk1.wide (Nat.le_refl _) (by omega))
    have hfin : ∀ h, Mix mid b k h → SortedF R mid b h → Mix a b f h ∧ SortedF R a b h := fun h x1 x2 =>
      ⟨hmk.trans (x1.wide (by omega) (Nat.le_refl _)), merge_join (sorted_out x1 hk2 (.inl (Nat.le_refl _))) x2 (cross_right x1 hcr)⟩
    refine J.seq (J.region mixed hI (by kernel_rfl) ?_)
    repeat (first | refine Plan.move rfl rfl rfl rfl ?_ | (refine Plan.ints rfl rfl rfl rfl rfl rfl ?_; (skip)))
    by_cases hb1 : mid < e
    · refine Plan.boolv (y := true) (decide_eq_true (by omega)) ?_
      repeat (first | refine Plan.move rfl rfl rfl rfl ?_ | refine Plan.pick rfl rfl rfl rfl rfl ?_ | (refine Plan.ints rfl rfl rfl rfl rfl rfl ?_; (skip)))
      by_cases hb2 : e < b
      · refine Plan.boolv (y := true) (decide_eq_true (by omega)) ?_
        repeat (fail)
        refine J.condT rfl ?_
        refine J.region mixed hI (by kernel_rfl) ?_
        repeat (refine Plan.move rfl rfl rfl rfl ?_)
        have hrec := ih mid e b k (by omega) hb1 hb2 h3 (mix_bound hmk h3 hN) hs3 hs4 ha2
        refine Plan.callL (key := 1000) [0, 1] [] rfl rfl rfl (hrec) Tryz.func120 rfl rfl (by intro _ e; cases e; decide) (by repeat (first | exact Opnds.nil | refine Opnds.cons rfl (by exact Sub.refl _) ?_)) rfl hA rfl rfl rfl ?_
        rintro h ⟨hx1, hx2⟩
        exact Nrm.retC0 (key := 1000) h rfl rfl rfl (hfin h hx1 hx2) (by exact Ent.refl _) (.inl rfl)
      · refine Plan.boolv (y := false) (decide_eq_false (by omega)) ?_
        repeat (fail)
        refine J.condF rfl ?_
        refine J.skip ?_
        have heb' : e = b := by omega
        exact Nrm.retC0 (key := 1000) k rfl rfl rfl (hfin k (Mix.refl _ _ _) (heb' ▸ hs3)) (by exact Ent.refl _) (.inl rfl)
    · refine Plan.boolv (y := false) (decide_eq_false (by omega)) ?_
      repeat (first | refine Plan.skip rfl rfl ?_ | refine Plan.pick rfl rfl rfl rfl rfl ?_)
      refine J.condF rfl ?_
      refine J.skip ?_
      have hem : e = mid := by omega
      exact Nrm.retC0 (key := 1000) k rfl rfl rfl (hfin k (Mix.refl _ _ _) (hem ▸ hs4)) (by exact Ent.refl _) (.inl rfl)
theorem merge_fn {fid : FuncId} {caps : List Value} {cN : Chunk} {N : Nat} {R : Nat → Nat → Prop} (o : Ord R) (K : CmpK fid caps cN N R) (g n cap : Nat) (hn : n ≤ 1000000) : ∀ (d a m b : Nat) (f : Nat → Nat), b - a < d → a < m → m < b → b ≤ n → (∀ i, i < n → f i < N) → SortedF R a m f → SortedF R m b f → Apart2 a m b f →
    MergeSpc fid caps cN R g n cap a m b f
  | 0, _, _, _, _, h, _, _, _, _, _, _, _ => absurd h (Nat.not_lt_zero _)
  | d + 1, a, m, b, f, hd, h1, h2, h3, hN, hs1, hs2, hap => by
    by_cases hA1 : a + 1 = m
    · subst hA1
      exact mergeA o K g n cap a b f h2 h3 hn hN hs2 hap
    by_cases hB1 : m + 1 = b
    · subst hB1
      exact mergeB o K g n cap a m f h1 hA1 h3 hn hN hs1 hap
    exact mergeC o K g n cap a m b f h1 h2 hA1 hB1 h3 hn hN hs1 hs2 hap fun a' m' b' f' h p1 p2 p3 p4 p5 p6 p7 => merge_fn o K g n cap hn d a' m' b' f' (by omega) p1 p2 p3 p4 p5 p6 p7
end Go.Proofs.YtmljgobenlpnfaaGreat
end

section
namespace Go.Free.Sorts
structure BlkM (R : Nat → Nat → Prop) (cls : Nat → Nat) (n : Nat) (f h : Nat → Nat) : Prop where
  fro : ∀ i, i < n → ∃ k, k < n ∧ cls k = cls i ∧ h i = f k
  to : ∀ i, i < n → ∃ k, k < n ∧ cls k = cls i ∧ f i = h k
  out : ∀ i, n ≤ i → h i = f i
  srt : ∀ i j, i < j → j < n → cls i = cls j → R (h i) (h j)
variable {R : Nat → Nat → Prop} {n a b c s q : Nat} {f h g : Nat → Nat}
theorem BlkM.congr {c1 c2 : Nat → Nat} (x : BlkM R c1 n f h) (e : ∀ i k, i < n → k < n → (c1 k = c1 i ↔ c2 k = c2 i)) : BlkM R c2 n f h :=
  ⟨fun i hi => by obtain ⟨k, h1, h2, h3⟩ := x.fro i hi; exact ⟨k, h1, (e i k hi h1).1 h2, h3⟩,
   fun i hi => by obtain ⟨k, h1, h2, h3⟩ := x.to i hi; exact ⟨k, h1, (e i k hi h1).1 h2, h3⟩,
   x.out, fun i j p r t => x.srt i j p r ((e j i r (by omega)).2 t)⟩
theorem BlkM.step {c1 c2 : Nat → Nat} (x : BlkM R c1 n f h) (hb : b ≤ n) (hm : Mix a b h g) (hs : SortedF R a b g)
    (C1 : ∀ i k, i < n → k < n → a ≤ i → i < b → (c2 k = c2 i ↔ (a ≤ k ∧ k < b))) (C2 : ∀ i k, i < n → k < n → ¬ (a ≤ i ∧ i < b) → ¬ (a ≤ k ∧ k < b) → (c2 k = c2 i ↔ c1 k = c1 i))
    (C3 : ∀ i k, i < n → k < n → a ≤ i → i < b → c1 k = c1 i → (a ≤ k ∧ k < b)) : BlkM R c2 n f g := by
  refine ⟨fun i hi => ?_, fun i hi => ?_, fun i hi => (hm.out i (by omega)).trans (x.out i hi), fun i j p r t => ?_⟩
  · by_cases hin : a ≤ i ∧ i < b
    · obtain ⟨k1, p1, p2, p3⟩ := hm.fro i hin.1 hin.2
      obtain ⟨k, r1, r2, r3⟩ := x.fro k1 (by omega)
      exact ⟨k, r1, (C1 i k hi r1 hin.1 hin.2).2 (C3 k1 k (by omega) r1 p1 p2 r2), p3.trans r3⟩
    · obtain ⟨k, r1, r2, r3⟩ := x.fro i hi
      refine ⟨k, r1, (C2 i k hi r1 hin fun hk => hin (C3 k i r1 hi hk.1 hk.2 r2.symm)).2 r2, (hm.out i (by omega)).trans r3⟩
  · by_cases hin : a ≤ i ∧ i < b
    · obtain ⟨k1, r1, r2, r3⟩ := x.to i hi
      have hk1 := C3 i k1 hi r1 hin.1 hin.2 r2
      obtain ⟨k, p1, p2, p3⟩ := hm.to k1 hk1.1 hk1.2
      exact ⟨k, by omega, (C1 i k hi (by omega) hin.1 hin.2).2 ⟨p1, p2⟩, r3.trans p3⟩
    · obtain ⟨k, r1, r2, r3⟩ := x.to i hi
      have hk : ¬ (a ≤ k ∧ k < b) := fun hk => hin (C3 k i r1 hi hk.1 hk.2 r2.symm)
      exact ⟨k, r1, (C2 i k hi r1 hin hk).2 r2, r3.trans (hm.out k (by omega)).symm⟩
  · by_cases hi : a ≤ i ∧ i < b
    · have hj := (C1 i j (by omega) r hi.1 hi.2).1 t.symm
      exact hs i j hi.1 p hj.2
    · have hj : ¬ (a ≤ j ∧ j < b) := fun hj => hi ((C1 j i r (by omega) hj.1 hj.2).1 t)
      rw [hm.out i (by omega), hm.out j (by omega)]
      exact x.srt i j p r ((C2 j i r (by omega) hj hi).1 t)
def cls (s c a i : Nat) : Nat := if i < a then i / c else a + i / s
theorem div_iff (hc : 0 < c) {i : Nat} : i / c = q ↔ q * c ≤ i ∧ i < q * c + c := by
  constructor
  · rintro rfl
    have h1 := Nat.div_mul_le_self i c
    have h2 := Nat.lt_div_mul_add hc (a := i)
    exact ⟨h1, h2⟩
  · rintro ⟨h1, h2⟩
    have e1 := (Nat.le_div_iff_mul_le hc).2 h1
    have e2 := (Nat.div_lt_iff_lt_mul hc).2 (show i < (q + 1) * c by rw [Nat.succ_mul]; exact h2)
    omega
theorem cls_zero {i k : Nat} : cls s c 0 k = cls s c 0 i ↔ k / s = i / s := by unfold cls; simp
theorem div_below (hc : 0 < c) {i : Nat} (h : i < q * c) : i / c < q := (Nat.div_lt_iff_lt_mul hc).2 h
theorem div_above (hc : 0 < c) {i : Nat} (h : q * c ≤ i) : q ≤ i / c := (Nat.le_div_iff_mul_le hc).2 h
theorem div_small {i : Nat} : i / c ≤ i := Nat.div_le_self i c
theorem BlkM.more {t : Nat} (x : BlkM R (cls s c a) n f h) (hs0 : 0 < s) (ht : 0 < t) (hc : c = t * s) (ha : a = q * c) (hb : a + c ≤ n) (hm : Mix a (a + c) h g) (hs : SortedF R a (a + c) g) : BlkM R (cls s c (a + c)) n f g := by
  have hc0 : 0 < c := by rw [hc]; exact Nat.mul_pos ht hs0
  have hq1 : a + c = (q + 1) * c := by rw [ha, Nat.succ_mul]
  have e1 : ∀ i, a ≤ i → i < a + c → i / c = q := fun i p r => (div_iff hc0).2 ⟨by omega, by omega⟩
  have e2 : ∀ i, i < a → i / c < q := fun i p => div_below hc0 (by omega)
  have e3 : ∀ i, a + c ≤ i → (q + 1) * t ≤ i / s := fun i p => div_above hs0 (by rw [Nat.mul_assoc, ← hc, ← hq1]; exact p)
  have e4 : ∀ i, i < a + c → i / s < (q + 1) * t := fun i p => div_below hs0 (by rw [Nat.mul_assoc, ← hc, ← hq1]; exact p)
  have e5 : ∀ i, i / c ≤ i := fun i => div_small
  have e6 : q ≤ a := by rw [ha]; exact Nat.le_mul_of_pos_right q hc0
  refine x.step hb hm hs (fun i k hi hk p r => ?_) (fun i k hi hk p r => ?_) (fun i k hi hk p r t => ?_)
  · have hi1 := e1 i p r
    unfold cls
    rw [if_pos r]
    constructor
    · intro hh
      by_cases hk1 : k < a + c
      · rw [if_pos hk1] at hh
        by_cases hk2 : k < a
        · have := e2 k hk2; omega
        · omega
      · rw [if_neg hk1] at hh
        have := e3 k (by omega); omega
    · rintro ⟨h1, h2⟩
      rw [if_pos h2, hi1, e1 k h1 h2]
  · unfold cls
    have gk := e5 k
    have gi := e5 i
    have z1 := Nat.zero_le (k / s)
    have z2 := Nat.zero_le (i / s)
    by_cases hi1 : i < a
    · rw [if_pos (show i < a + c by omega), if_pos hi1]
      by_cases hk1 : k < a
      · rw [if_pos (show k < a + c by omega), if_pos hk1]
      · rw [if_neg (show ¬ k < a + c by omega), if_neg hk1]; omega
    · rw [if_neg (show ¬ i < a + c by omega), if_neg hi1]
      by_cases hk1 : k < a
      · rw [if_pos (show k < a + c by omega), if_pos hk1]; omega
      · rw [if_neg (show ¬ k < a + c by omega), if_neg hk1]; omega
  · unfold cls at t
    rw [if_neg (show ¬ i < a by omega)] at t
    have gk := e5 k
    have z2 := Nat.zero_le (i / s)
    by_cases hk1 : k < a
    · rw [if_pos hk1] at t; omega
    · rw [if_neg hk1] at t
      have h4 := e4 i r
      refine ⟨by omega, ?_⟩
      rcases Nat.lt_or_ge k (a + c) with h | h
      · exact h
      · have := e3 k h; omega
theorem BlkM.last {t : Nat} (x : BlkM R (cls s c a) n f h) (hs0 : 0 < s) (ht : 0 < t) (hc : c = t * s) (ha : a = q * c) (han : a ≤ n) (hb : n < a + c) (hm : Mix a n h g) (hs : SortedF R a n g) : BlkM R (fun i => i / c) n f g := by
  have hc0 : 0 < c := by rw [hc]; exact Nat.mul_pos ht hs0
  have e1 : ∀ i, a ≤ i → i < a + c → i / c = q := fun i p r => (div_iff hc0).2 ⟨by omega, by omega⟩
  have e2 : ∀ i, i < a → i / c < q := fun i p => div_below hc0 (by omega)
  have e5 : ∀ i, i / c ≤ i := fun i => div_small
  refine x.step (Nat.le_refl _) hm hs (fun i k hi hk p r => ?_) (fun i k hi hk p r => ?_) (fun i k hi hk p r t => ?_)
  · have hi1 := e1 i p (by omega)
    constructor
    · intro hh
      by_cases hk2 : k < a
      · have := e2 k hk2; omega
      · omega
    · rintro ⟨h1, h2⟩
      rw [hi1, e1 k h1 (by omega)]
  · unfold cls
    rw [if_pos (show i < a by omega), if_pos (show k < a by omega)]
  · unfold cls at t
    rw [if_neg (show ¬ i < a by omega)] at t
    have gk := e5 k
    have z2 := Nat.zero_le (i / s)
    by_cases hk1 : k < a
    · rw [if_pos hk1] at t; omega
    · exact ⟨by omega, hk⟩
theorem BlkM.refl (f : Nat → Nat) (c n : Nat) : BlkM R (cls 1 c 0) n f f :=
  ⟨fun i hi => ⟨i, hi, rfl, rfl⟩, fun i hi => ⟨i, hi, rfl, rfl⟩, fun _ _ => rfl, fun i j p r t => by rw [cls_zero] at t; rw [Nat.div_one, Nat.div_one] at t; omega⟩
theorem BlkM.open_ (x : BlkM R (fun i => i / s) n f h) (c : Nat) : BlkM R (cls s c 0) n f h := x.congr fun i k _ _ => cls_zero.symm
theorem BlkM.same (x : BlkM R (cls 1 c a) n f h) {i : Nat} (ha : a ≤ i) (hi : i < n) : h i = f i := by
  obtain ⟨k, h1, h2, h3⟩ := x.fro i hi
  unfold cls at h2
  rw [if_neg (show ¬ i < a by omega)] at h2
  rw [h3]
  congr 1
  have := @div_small c k
  split at h2 <;> simp only [Nat.div_one] at h2 <;> omega
theorem BlkM.bound {cl : Nat → Nat} (x : BlkM R cl n f h) {N : Nat} (hN : ∀ i, i < n → f i < N) : ∀ i, i < n → h i < N := fun i hi => by
  obtain ⟨k, h1, h2, h3⟩ := x.fro i hi
  rw [h3]; exact hN k h1
theorem BlkM.two {m : Nat} (x : BlkM R (cls s (2 * s) a) n f h) (hs0 : 0 < s) (ha : a = q * (2 * s)) (hm : m = a + s) (hmb : m < b) (hb : b ≤ n) (hbc : b ≤ a + 2 * s) (hinc : ∀ i j, i < j → j < n → f i < f j) :
    SortedF R a m h ∧ SortedF R m b h ∧ Apart2 a m b h := by
  have ha2 : a = (2 * q) * s := by rw [ha, Nat.mul_comm 2 q, Nat.mul_assoc]
  have hm2 : m = (2 * q + 1) * s := by rw [Nat.succ_mul, ← ha2]; exact hm
  have e1 : ∀ i, a ≤ i → i < m → i / s = 2 * q := fun i p r => (div_iff hs0).2 ⟨by omega, by omega⟩
  have e2 : ∀ i, m ≤ i → i < b → i / s = 2 * q + 1 := fun i p r => (div_iff hs0).2 ⟨by omega, by omega⟩
  have e0 : ∀ i, a ≤ i → cls s (2 * s) a i = a + i / s := fun i p => if_neg (by omega)
  have e4 : ∀ i, i < m → i / s < 2 * q + 1 := fun i p => div_below hs0 (by omega)
  have e5 : ∀ i, m ≤ i → 2 * q + 1 ≤ i / s := fun i p => div_above hs0 (by omega)
  have e6 : ∀ i, cls s (2 * s) a i < a ∨ cls s (2 * s) a i = a + i / s := fun i => by
    unfold cls
    have := @div_small (2 * s) i
    split <;> omega
  refine ⟨fun i j p r t => x.srt i j r (by omega) ?_, fun i j p r t => x.srt i j r (by omega) ?_, fun i j p r t u => ?_⟩
  · rw [e0 i p, e0 j (by omega), e1 i p (by omega), e1 j (by omega) t]
  · rw [e0 i (by omega), e0 j (by omega), e2 i p (by omega), e2 j (by omega) t]
  · obtain ⟨k, k1, k2, k3⟩ := x.fro i (by omega)
    obtain ⟨l, l1, l2, l3⟩ := x.fro j (by omega)
    rw [e0 i p, e1 i p r] at k2
    rw [e0 j (by omega), e2 j t u] at l2
    rw [k3, l3]
    refine hinc k l ?_ l1
    have hk := e6 k
    have hl := e6 l
    rcases Nat.lt_or_ge k m with hkm | hkm
    · rcases Nat.lt_or_ge l m with hlm | hlm
      · have := e4 l hlm; omega
      · omega
    · have := e5 k hkm; omega
theorem BlkM.all (x : BlkM R (fun i => i / s) n f h) (hs : n ≤ s) : Mix 0 n f h ∧ SortedF R 0 n h := by
  have e : ∀ i, i < n → i / s = 0 := fun i hi => Nat.div_eq_of_lt (by omega)
  exact ⟨⟨fun i hi => x.out i (by omega), fun i _ hi => by obtain ⟨k, h1, _, h3⟩ := x.fro i hi; exact ⟨k, Nat.zero_le _, h1, h3⟩, fun i _ hi => by obtain ⟨k, h1, _, h3⟩ := x.to i hi; exact ⟨k, Nat.zero_le _, h1, h3⟩⟩,
    fun i j _ p r => x.srt i j p r (by rw [e i (by omega), e j r])⟩
end Go.Free.Sorts
end

section
namespace Go.Proofs.YtmljgobenlpnfaaGreat
open Go.Free Go.RowKit Go.Proofs Go.Free.Sorts
set_option maxHeartbeats 8000000
def stE (F : Nat → Prop) (w0 : World) (g n cap : Nat) (cmp : Value) (cN : Chunk) (s : Nat × (Nat → Nat)) : Env :=
  [(0, .ex (slI g n cap)), (1, .ex (vi n)), (2, .ex cmp), (6, .ex (vi 20)), (7, .ex (vi s.1)), (8, .ex (vi ((s.1 + 20 : Nat) : Int))), (1000, heap (fun b => F b ∨ w0.heap.size ≤ b) [rowI g n cap s.2, cN])]
def suE (F : Nat → Prop) (w0 : World) (g n cap : Nat) (cmp : Value) (cN : Chunk) (s : Nat × (Nat → Nat)) : Env :=
  [(0, .ex (slI g n cap)), (1, .ex (vi n)), (2, .ex cmp), (6, .ex (vi s.1)), (1000, heap (fun b => F b ∨ w0.heap.size ≤ b) [rowI g n cap s.2, cN])]
def svE (F : Nat → Prop) (w0 : World) (g n cap bs : Nat) (cmp : Value) (cN : Chunk) (s : Nat × (Nat → Nat)) : Env :=
  [(0, .ex (slI g n cap)), (1, .ex (vi n)), (2, .ex cmp), (6, .ex (vi bs)), (7, .ex (vi s.1)), (8, .ex (vi ((s.1 + 2 * bs : Nat) : Int))), (1000, heap (fun b => F b ∨ w0.heap.size ≤ b) [rowI g n cap s.2, cN])]
theorem stable_fn {fid : FuncId} {caps : List Value} {cN : Chunk} {N : Nat} {R : Nat → Nat → Prop} (o : Ord R) (K : CmpK fid caps cN N R) (g n cap : Nat) (f : Nat → Nat) (hn : n ≤ 1000000) (hN : ∀ i, i < n → f i < N) (hinc : ∀ i j, i < j → j < n → f i < f j) :
    SpcC Tryz.prog 112 [.ex (slI g n cap), .ex (vi n), .ex (fnV fid caps)] (allC [rowI g n cap f, cN]) (fun h : Nat → Nat => Mix 0 n f h ∧ SortedF R 0 n h) (fun _ => Fa.any)
      (fun h => allC [rowI g n cap h, cN]) := by
  refine SpcC.intro Tryz.func112 rfl (Nat.le_of_ble_eq_true rfl) fun w0 F => ?_
  have hI := kept_below F w0
  have hA := Own.kept F w0
  refine J.open1 (key := 1000) rfl ?_
  refine J.seq (J.region mixed hI (by kernel_rfl) ?_)
  repeat (refine Plan.assign rfl rfl rfl rfl ?_)
  refine J.seq (J.region mixed hI (by kernel_rfl) ?_)
  repeat (first | refine Plan.move rfl rfl rfl rfl ?_ | refine Plan.assign rfl rfl rfl rfl ?_)
  refine J.seq (J.block (J.loop (stE F w0 g n cap (fnV fid caps) cN) (fun s => s.1 ≤ n ∧ (∃ q, s.1 = q * 20) ∧ BlkM R (cls 1 20 s.1) n f s.2) (fun s => n - s.1) (0, f) ⟨Nat.zero_le _, ⟨0, rfl⟩, BlkM.refl _ _ _⟩ ?_ ?_))
  · repeat (first | exact Weak.nil | refine Weak.cons rfl (Sub.refl _) ?_)
  rintro ⟨a, h⟩ ⟨han, ⟨q, hq⟩, hbl⟩
  simp only at han hq hbl
  change J _ _ _ _ _ (stE F w0 g n cap (fnV fid caps) cN (a, h))
  have hsame : ∀ i j, a ≤ i → i < j → j < n → h i < h j := fun i j p r t => by rw [hbl.same p (by omega), hbl.same (by omega) t]; exact hinc i j r t
  refine J.seq (J.seq (J.region mixed hI (by kernel_rfl) ?_))
  repeat (first | refine Plan.move rfl rfl rfl rfl ?_ | (refine Plan.ints rfl rfl rfl rfl rfl rfl ?_; (skip)))
  refine J.condD rfl (fun hc => ?_) (fun hc => ?_)
  · have hc' : a + 20 ≤ n := by
      first | omega | (dsimp only at hc; omega)
    refine J.skip ?_
    refine J.block ?_
    refine J.seq (J.region mixed hI (by kernel_rfl) ?_)
    repeat (refine Plan.move rfl rfl rfl rfl ?_)
    refine Plan.callL (key := 1000) [0, 1] [] rfl rfl rfl ((insertionSort_fn o K g n cap a (a + 20) h (by omega) hc' hn (hbl.bound hN) (fun i j p r t => hsame i j p r (by omega)))) Tryz.func119 rfl rfl (by intro _ e; cases e; decide) (by repeat (first | exact Opnds.nil | refine Opnds.cons rfl (by exact Sub.refl _) ?_)) rfl hA rfl rfl rfl ?_
    rintro h' ⟨hx1, hx2⟩
    refine J.seq (J.region mixed hI (by kernel_rfl) ?_)
    repeat (first | refine Plan.move rfl rfl rfl rfl ?_ | refine Plan.assign rfl rfl rfl rfl ?_)
    refine J.region mixed hI (by kernel_rfl) ?_
    repeat (first | refine Plan.move rfl rfl rfl rfl ?_ | refine Plan.assign rfl rfl rfl rfl ?_ | (refine Plan.ints rfl rfl rfl rfl rfl rfl ?_; (refine Plan.int (i64r (by omega)) ?_)))
    refine Plan.int (y := ((a + 20 + 20 : Nat) : Int)) (by omega) ?_
    repeat (fail)
    exact Nrm.next (a + 20, h') ⟨hc', ⟨q + 1, by dsimp only; omega⟩, hbl.more (t := 20) (q := q) (by decide) (by decide) (by decide) hq hc' hx1 hx2⟩ (by dsimp only; omega) (by repeat (first | exact Weak.nil | refine Weak.cons rfl (Sub.refl _) ?_))
  · have hc' : n < a + 20 := by
      first | omega | (dsimp only at hc; omega)
    refine J.exit ?_
    refine J.seq (J.region mixed hI (by kernel_rfl) ?_)
    repeat (refine Plan.move rfl rfl rfl rfl ?_)
    refine Plan.callL (key := 1000) [0, 1] [] rfl rfl rfl ((insertionSort_fn o K g n cap a n h han (Nat.le_refl _) hn (hbl.bound hN) (fun i j p r t => hsame i j p r t))) Tryz.func119 rfl rfl (by intro _ e; cases e; decide) (by repeat (first | exact Opnds.nil | refine Opnds.cons rfl (by exact Sub.refl _) ?_)) rfl hA rfl rfl rfl ?_
    rintro h' ⟨hx1, hx2⟩
    have hb20 : BlkM R (fun i => i / 20) n f h' := hbl.last (t := 20) (q := q) (by decide) (by decide) (by decide) hq han hc' hx1 hx2
    refine J.block (J.loop (suE F w0 g n cap (fnV fid caps) cN) (fun s => 0 < s.1 ∧ s.1 ≤ 2000020 ∧ BlkM R (fun i => i / s.1) n f s.2) (fun s => n - s.1) (20, h') ⟨by dsimp only; omega, by dsimp only; omega, hb20⟩ ?_ ?_)
    · repeat (first | exact Weak.nil | refine Weak.cons rfl (Sub.refl _) ?_)
    rintro ⟨bs, h⟩ ⟨hb0, hbm, hbl⟩
    simp only at hb0 hbm hbl
    change J _ _ _ _ _ (suE F w0 g n cap (fnV fid caps) cN (bs, h))
    refine J.seq (J.seq (J.region mixed hI (by kernel_rfl) ?_))
    repeat (first | refine Plan.move rfl rfl rfl rfl ?_ | (refine Plan.ints rfl rfl rfl rfl rfl rfl ?_; (skip)))
    refine J.condD rfl (fun hc => ?_) (fun hc => ?_)
    · have hbn : bs < n := by
        first | omega | (dsimp only at hc; omega)
      refine J.skip ?_
      refine J.block ?_
      refine J.seq (J.region mixed hI (by kernel_rfl) ?_)
      repeat (first | refine Plan.move rfl rfl rfl rfl ?_ | refine Plan.assign rfl rfl rfl rfl ?_ | (refine Plan.ints rfl rfl rfl rfl rfl rfl ?_; (refine Plan.int (i64r (by omega)) ?_)))
      refine Plan.int (y := ((0 + 2 * bs : Nat) : Int)) (by omega) ?_
      repeat (fail)
      refine J.seq (J.block (J.loop (svE F w0 g n cap bs (fnV fid caps) cN) (fun s => s.1 ≤ n ∧ (∃ q, s.1 = q * (2 * bs)) ∧ BlkM R (cls bs (2 * bs) s.1) n f s.2) (fun s => n - s.1) (0, h) ⟨Nat.zero_le _, ⟨0, (Nat.zero_mul _).symm⟩, hbl.open_ _⟩ ?_ ?_))
      · repeat (first | exact Weak.nil | refine Weak.cons rfl (Sub.refl _) ?_)
      rintro ⟨a, h⟩ ⟨han, ⟨q, hq⟩, hbl⟩
      simp only at han hq hbl
      change J _ _ _ _ _ (svE F w0 g n cap bs (fnV fid caps) cN (a, h))
      refine J.seq (J.seq (J.region mixed hI (by kernel_rfl) ?_))
      repeat (first | refine Plan.move rfl rfl rfl rfl ?_ | (refine Plan.ints rfl rfl rfl rfl rfl rfl ?_; (skip)))
      refine J.condD rfl (fun hd => ?_) (fun hd => ?_)
      · have hd' : a + 2 * bs ≤ n := by
          first | omega | (dsimp only at hd; omega)
        obtain ⟨y1, y2, y3⟩ := hbl.two (m := a + bs) (b := a + 2 * bs) hb0 hq rfl (by omega) hd' (Nat.le_refl _) hinc
        refine J.skip ?_
        refine J.block ?_
        refine J.seq (J.region mixed hI (by kernel_rfl) ?_)
        refine Plan.move rfl rfl rfl rfl ?_
        refine Plan.move rfl rfl rfl rfl ?_
        refine Plan.move rfl rfl rfl rfl ?_
        refine Plan.move rfl rfl rfl rfl ?_
        refine Plan.ints rfl rfl rfl rfl rfl rfl ?_
        refine Plan.int (y := ((a + bs : Nat) : Int)) (by dsimp only; rw [i64r (by omega)]; omega) ?_
        repeat (refine Plan.move rfl rfl rfl rfl ?_)
        refine Plan.callL (key := 1000) [0, 1] [] rfl rfl rfl ((merge_fn o K g n cap hn (2 * bs + 1) a (a + bs) (a + 2 * bs) h (by omega) (by omega) (by omega) hd' (hbl.bound hN) y1 y2 y3)) Tryz.func120 rfl rfl (by intro _ e; cases e; decide) (by repeat (first | exact Opnds.nil | refine Opnds.cons rfl (by exact Sub.refl _) ?_)) rfl hA rfl rfl rfl ?_
        rintro h' ⟨hx1, hx2⟩
        refine J.seq (J.region mixed hI (by kernel_rfl) ?_)
        repeat (first | refine Plan.move rfl rfl rfl rfl ?_ | refine Plan.assign rfl rfl rfl rfl ?_)
        refine J.region mixed hI (by kernel_rfl) ?_
        repeat (first | refine Plan.move rfl rfl rfl rfl ?_ | refine Plan.assign rfl rfl rfl rfl ?_ | (refine Plan.ints rfl rfl rfl rfl rfl rfl ?_; (refine Plan.int (i64r (by omega)) ?_)))
        refine Plan.int (y := ((a + 2 * bs + 2 * bs : Nat) : Int)) (by omega) ?_
        repeat (fail)
        exact Nrm.next (a + 2 * bs, h') ⟨hd', ⟨q + 1, by dsimp only; rw [Nat.add_mul, ← hq]; omega⟩, hbl.more (t := 2) (q := q) hb0 (by decide) rfl hq hd' hx1 hx2⟩ (by dsimp only; omega) (by repeat (first | exact Weak.nil | refine Weak.cons rfl (Sub.refl _) ?_))
      · have hd' : n < a + 2 * bs := by
          first | omega | (dsimp only at hd; omega)
        refine J.exit ?_
        refine J.seqMid (suE F w0 g n cap (fnV fid caps) cN) (fun s => s.1 = bs ∧ BlkM R (fun i => i / (2 * bs)) n f s.2) ?_ ?_
        · refine J.seq (J.region mixed hI (by kernel_rfl) ?_)
          repeat (first | refine Plan.move rfl rfl rfl rfl ?_ | refine Plan.assign rfl rfl rfl rfl ?_ | (refine Plan.ints rfl rfl rfl rfl rfl rfl ?_; (refine Plan.int (i64r (by omega)) ?_)))
          refine Plan.int (y := ((a + bs : Nat) : Int)) (by omega) ?_
          repeat (fail)
          refine J.seq (J.region mixed hI (by kernel_rfl) ?_)
          repeat (first | refine Plan.move rfl rfl rfl rfl ?_ | (refine Plan.ints rfl rfl rfl rfl rfl rfl ?_; (skip)))
          refine J.condD rfl (fun he => ?_) (fun he => ?_)
          · have he' : a + bs < n := by
              first | omega | (dsimp only at he; omega)
            obtain ⟨y1, y2, y3⟩ := hbl.two (m := a + bs) (b := n) hb0 hq rfl he' (Nat.le_refl _) (by omega) hinc
            refine J.region mixed hI (by kernel_rfl) ?_
            repeat (refine Plan.move rfl rfl rfl rfl ?_)
            refine Plan.callL (key := 1000) [0, 1] [] rfl rfl rfl ((merge_fn o K g n cap hn (2 * bs + 1) a (a + bs) n h (by omega) (by omega) he' (Nat.le_refl _) (hbl.bound hN) y1 y2 y3)) Tryz.func120 rfl rfl (by intro _ e; cases e; decide) (by repeat (first | exact Opnds.nil | refine Opnds.cons rfl (by exact Sub.refl _) ?_)) rfl hA rfl rfl rfl ?_
            rintro h' ⟨hx1, hx2⟩
            exact Nrm.mid (bs, h') ⟨rfl, hbl.last (t := 2) (q := q) hb0 (by decide) rfl hq han hd' hx1 hx2⟩ (by repeat (first | exact Weak.nil | refine Weak.cons rfl (Sub.refl _) ?_))
          · have he' : n ≤ a + bs := by
              first | omega | (dsimp only at he; omega)
            refine J.skip ?_
            have hso : SortedF R a n h := by
              have ha2 : a = (2 * q) * bs := by rw [hq, Nat.mul_comm 2 q, Nat.mul_assoc]
              refine fun i j p r t => hbl.srt i j r t ?_
              unfold cls
              rw [if_neg (by omega), if_neg (by omega), (div_iff hb0 (q := 2 * q)).2 ⟨by omega, by omega⟩, (div_iff hb0 (q := 2 * q)).2 ⟨by omega, by omega⟩]
            exact Nrm.mid (bs, h) ⟨rfl, hbl.last (t := 2) (q := q) hb0 (by decide) rfl hq han hd' (Mix.refl _ _ _) hso⟩ (by repeat (first | exact Weak.nil | refine Weak.cons rfl (Sub.refl _) ?_))
        rintro ⟨bs', h'⟩ ⟨rfl, hbl'⟩
        simp only at hbl'
        refine J.region mixed hI (by kernel_rfl) ?_
        repeat (first | refine Plan.move rfl rfl rfl rfl ?_ | refine Plan.assign rfl rfl rfl rfl ?_ | (refine Plan.ints rfl rfl rfl rfl rfl rfl ?_; (refine Plan.int (i64r (by omega)) ?_)))
        refine Plan.int (y := ((2 * bs' : Nat) : Int)) (by omega) ?_
        repeat (fail)
        exact Nrm.next (2 * bs', h') ⟨by dsimp only; omega, by dsimp only; omega, hbl'⟩ (by dsimp only; omega) (by repeat (first | exact Weak.nil | refine Weak.cons rfl (Sub.refl _) ?_))
    · have hbn : n ≤ bs := by
        first | omega | (dsimp only at hc; omega)
      refine J.exit ?_
      exact Nrm.retC0 (key := 1000) h rfl rfl rfl (hbl.all hbn) (by exact Ent.refl _) (.inl rfl)
theorem sortStable_fn {fid : FuncId} {caps : List Value} {cN : Chunk} {N : Nat} {R : Nat → Nat → Prop} (o : Ord R) (K : CmpK fid caps cN N R) (g n cap : Nat) (f : Nat → Nat) (hn : n ≤ 1000000) (hN : ∀ i, i < n → f i < N) (hinc : ∀ i j, i < j → j < n → f i < f j) :
    SpcC Tryz.prog 100 [.ex (slI g n cap), .ex (fnV fid caps)] (allC [rowI g n cap f, cN]) (fun h : Nat → Nat => Mix 0 n f h ∧ SortedF R 0 n h) (fun _ => Fa.any)
      (fun h => allC [rowI g n cap h, cN]) := by
  refine SpcC.intro Tryz.func100 rfl (Nat.le_of_ble_eq_true rfl) fun w0 F => ?_
  have hI := kept_below F w0
  have hA := Own.kept F w0
  refine J.open1 (key := 1000) rfl ?_
  refine J.region mixed hI (by kernel_rfl) ?_
  repeat (first | refine Plan.move rfl rfl rfl rfl ?_ | refine Plan.lenE rfl rfl rfl rfl (by first | exact Tryz.underlying22 | exact Tryz.underlying127) ?_)
  refine Plan.callL (key := 1000) [0, 1] [] rfl rfl rfl ((stable_fn o K g n cap f hn hN hinc)) Tryz.func112 rfl rfl (by intro _ e; cases e; decide) (by repeat (first | exact Opnds.nil | refine Opnds.cons rfl (by exact Sub.refl _) ?_)) rfl hA rfl rfl rfl ?_
  rintro h hx
  exact Nrm.retC0 (key := 1000) h rfl rfl rfl hx (by exact Ent.refl _) (.inl rfl)
end Go.Proofs.YtmljgobenlpnfaaGreat
end

section
namespace Go.Proofs.YtmljgobenlpnfaaGreat
open Go.Free Go.RowKit Go.Proofs Go.Free.Sorts
set_option maxHeartbeats 8000000
theorem evs_app (L M : List EvV) : evsC (L ++ M) = evsC L ++ evsC M := List.flatMap_append
theorem evs_at (L : List EvV) {i : Nat} (hi : i < L.length) : ((evsC L).drop (i * 26)).take L[i].enc.length = L[i].enc := by
  have h1 : evsC L = evsC (L.take i) ++ (L[i].enc ++ evsC (L.drop (i + 1))) := by
    rw [show L[i].enc ++ evsC (L.drop (i + 1)) = evsC (L[i] :: L.drop (i + 1)) from rfl, List.getElem_cons_drop, ← evs_app, List.take_append_drop]
  have h2 : (evsC (L.take i)).length = i * 26 := by rw [evs_len, List.length_take, Nat.min_eq_left (by omega)]
  rw [h1, ← h2, List.drop_left, List.take_left]
theorem getD_at {L : List EvV} {i : Nat} (hi : i < L.length) : L.getD i ev0 = L[i] := by rw [List.getD_eq_getElem?_getD, List.getElem?_eq_getElem hi]; rfl
theorem evs_atD (L : List EvV) {i : Nat} (hi : i < L.length) : ((evsC L).drop (i * 26)).take (L.getD i ev0).enc.length = (L.getD i ev0).enc := by rw [getD_at hi]; exact evs_at L hi
def noE (w0 : World) (L : List EvV) (key : List UInt8) (s : Nat × Option Addr × Nat) : Env :=
  [(1, .ex (str key)), (5, .ex (.slice s.2.1 (nodesM key (L.take s.1)).length s.2.2)), (8, old w0 (row 26 (evsC L))), (9, .ex (vi L.length)), (10, .ex (vi s.1)), (1000, heap (newB w0) [rowEv s.2.1 (nodesM key (L.take s.1)).length s.2.2 (evsC (nodesM key (L.take s.1)))])]
theorem nodes_le (key : List UInt8) (L : List EvV) : (nodesM key L).length ≤ L.length := List.length_filter_le _ _
theorem nodes_fn (L : List EvV) (hl : L.length ≤ 1000000) (key : List UInt8) : Spc Tryz.prog 73 [row 26 (evsC L), .ex (str key)] fun B => own B 40 26 (evsC (nodesM key L)) := by
  refine Spc.intro Tryz.func73 rfl (Nat.le_of_ble_eq_true rfl) fun w0 => ?_
  have hI := hIb w0
  have hA := Own.below w0
  refine J.heap0 1000 (newB w0) ?_
  refine J.nilRow (key := 1000) 40 26 rfl ?_
  repeat (first | refine Plan.move rfl rfl rfl rfl ?_ | refine Plan.assign rfl rfl rfl rfl ?_ | refine J.seq (J.region mixed hI (by kernel_rfl) ?_) | refine J.seq (J.seq (J.region mixed hI (by kernel_rfl) ?_)))
  refine Plan.lenRow (m := L.length) rfl rfl rfl rfl (Sub.old fun _ h => h) Tryz.underlying22 (by rw [evs_len]) (by decide) ?_
  repeat (refine Plan.move rfl rfl rfl rfl ?_)
  refine J.block (J.loop (noE w0 L key) (fun s => s.1 ≤ L.length) (fun s => L.length - s.1) (0, none, 0) (Nat.zero_le _) ?_ ?_)
  · repeat (first | exact Weak.nil | refine Weak.cons rfl (Sub.refl _) ?_)
  rintro ⟨i, B, cap⟩ hi
  simp only at hi
  change J _ _ _ _ _ (noE w0 L key (i, B, cap))
  repeat (first | (refine Plan.ints rfl rfl rfl rfl rfl rfl ?_; (skip)) | refine J.seq (J.region mixed hI (by kernel_rfl) ?_))
  refine J.seq (J.condD rfl (fun hc => ?_) (fun hc => ?_))
  · have hlt : i < L.length := by
      first | omega | (dsimp only at hc; omega)
    obtain ⟨e, he⟩ : ∃ e, e = L[i] := ⟨_, rfl⟩
    have hgd : L.getD i ev0 = e := by rw [he]; exact getD_at hlt
    have htk : L.take (i + 1) = L.take i ++ [e] := by rw [he]; exact List.take_succ_eq_append_getElem hlt
    have hno : nodesM key (L.take (i + 1)) = if e.kind = 9 ∧ e.key = key then nodesM key (L.take i) ++ [e] else nodesM key (L.take i) := by
      rw [htk]
      unfold nodesM
      rw [List.filter_append]
      by_cases hd : e.kind = 9 ∧ e.key = key
      · rw [if_pos hd]; simp [List.filter_cons, hd]
      · rw [if_neg hd]; simp [List.filter_cons, hd]
    have hnl : (nodesM key (L.take i)).length ≤ 1000000 := by
      have := nodes_le key (L.take i)
      rw [List.length_take] at this; omega
    repeat (refine J.skip ?_)
    refine J.seq (J.block ?_)
    repeat (refine J.seq (J.region mixed hI (by kernel_rfl) ?_))
    refine Plan.indexAddr EvV.enc 26 L ev0 rfl rfl rfl rfl (Sub.old fun _ h => h) rfl eltE encE (by omega) (by omega) ?_
    rw [Int.toNat_natCast, hgd]
    refine Plan.loadAggP rfl rfl rfl rfl (Sub.refl _) Tryz.underlying40 rfl (by rw [encE]; kernel_rfl) ?_
    refine Plan.allocC (key := 1000) (z := .agg ev0.enc.toArray) rfl rfl rfl (by intro _ e; cases e; decide) (by kernel_rfl) rfl hA fun ξ => ?_
    refine Plan.storeC (key := 1000) (q := 1) (off := 0) rfl rfl rfl rfl rfl rfl (by simp [Value.cells, Value.oneCell', EvV.enc, str]) (by show _ = some e.enc.toArray.size; kernel_rfl) rfl hA rfl (obj_pat (Nat.le_of_ble_eq_true rfl)) ?_
    repeat (first | refine Plan.move rfl rfl rfl rfl ?_ | (refine Plan.ints rfl rfl rfl rfl rfl rfl ?_; (skip)) | refine Plan.fieldC rfl rfl rfl rfl (by first | exact Tryz.underlying58 | exact Tryz.underlying40 | exact Tryz.underlying38) rfl (by kernel_rfl) (by exact (rfl : _ = 19)) ?_ | refine Plan.loadC (key := 1000) (q := 1) rfl rfl rfl rfl rfl rfl (obj_reads1 rfl) (by exact Tryz.underlying3) (by rfl) (by decide) ?_ | refine J.seq (J.region mixed hI (by kernel_rfl) ?_))
    have hdone : ∀ (B' : Option Addr) (cap' : Nat), (nodesM key (L.take (i + 1))).length = (nodesM key (L.take (i + 1))).length := fun _ _ => rfl
    by_cases h9 : e.kind = 9
    · refine Plan.boolv (y := true) (decide_eq_true h9) ?_
      repeat (first | refine Plan.move rfl rfl rfl rfl ?_ | refine Plan.fieldC rfl rfl rfl rfl (by first | exact Tryz.underlying58 | exact Tryz.underlying40 | exact Tryz.underlying38) rfl (by kernel_rfl) (by first | exact (rfl : _ = 19) | exact (rfl : _ = 20)) ?_ | refine Plan.loadC (key := 1000) (q := 1) rfl rfl rfl rfl rfl rfl (obj_reads1 rfl) (by first | exact Tryz.underlying3 | exact Tryz.underlying9) (by rfl) (by decide) ?_)
      refine Plan.strs rfl rfl rfl rfl rfl rfl ?_
      by_cases hk : e.key = key
      · rw [if_pos ⟨h9, hk⟩] at hno
        refine Plan.boolv (y := true) (by simp [hk]) ?_
        repeat (first | refine Plan.move rfl rfl rfl rfl ?_ | refine Plan.pick rfl rfl rfl rfl rfl ?_ | refine J.region mixed hI (by kernel_rfl) ?_ | refine J.condT rfl ?_)
        refine Plan.loadAggC (key := 1000) (q := 1) (vs := e.enc) rfl rfl rfl rfl rfl rfl obj_whole Tryz.underlying40 rfl (by rw [encE]; kernel_rfl) (by decide) ?_
        refine Plan.lit (B := w0.heap.size) rfl rfl rfl eltE rfl (hBb w0) rfl (by simp [Value.cells, EvV.enc]) (by decide) ?_
        refine Plan.appendC (key := 1000) (q := 0) (news := evsC [e]) rfl rfl rfl rfl rfl (Sub.rowEq (by simp [evsC, flat, Value.cells]) Sub.own) eltE (by intro _ e; cases e; decide) rfl hA rfl (evs_one _) (by rw [evs_len, evs_len]; simp; omega) fun B' m' cap' hm' => ?_
        rw [← evs_app, ← hno]
        have hm2 : m' = (nodesM key (L.take (i + 1))).length := by
          rw [evs_len, evs_len] at hm'
          rw [hno, List.length_append]
          simp only [List.length_cons, List.length_nil] at hm' ⊢
          omega
        subst hm2
        repeat (first | refine Plan.move rfl rfl rfl rfl ?_ | refine Plan.assign rfl rfl rfl rfl ?_ | (refine Plan.ints rfl rfl rfl rfl rfl rfl ?_; (refine Plan.int (i64r (by omega)) ?_)) | refine J.region mixed hI (by kernel_rfl) ?_)
        refine Plan.int (y := ((i + 1 : Nat) : Int)) (by omega) ?_
        repeat (fail)
        exact Nrm.next (i + 1, B', cap') (by dsimp only; omega) (by dsimp only; omega) (by repeat (first | exact Weak.nil | refine Weak.cons rfl (Sub.refl _) ?_ | refine Weak.cons rfl (Sub.heap (Ent.pickC [0] rfl rfl)) ?_))
      · rw [if_neg (fun h => hk h.2)] at hno
        refine Plan.boolv (y := false) (by simp [hk]) ?_
        repeat (first | refine Plan.move rfl rfl rfl rfl ?_ | refine Plan.pick rfl rfl rfl rfl rfl ?_ | (refine Plan.ints rfl rfl rfl rfl rfl rfl ?_; (refine Plan.int (i64r (by omega)) ?_)) | refine J.region mixed hI (by kernel_rfl) ?_ | refine J.condF rfl ?_ | refine J.skip ?_)
        refine Plan.int (y := ((i + 1 : Nat) : Int)) (by omega) ?_
        repeat (fail)
        exact Nrm.next (i + 1, B, cap) (by dsimp only; omega) (by dsimp only; omega) (by unfold noE; dsimp only; rw [hno]; exact (by repeat (first | exact Weak.nil | refine Weak.cons rfl (Sub.refl _) ?_ | refine Weak.cons rfl (Sub.heap (Ent.pickC [0] rfl rfl)) ?_)))
    · rw [if_neg (fun h => h9 h.1)] at hno
      refine Plan.boolv (y := false) (decide_eq_false h9) ?_
      repeat (first | refine Plan.move rfl rfl rfl rfl ?_ | refine Plan.skip rfl rfl ?_ | refine Plan.pick rfl rfl rfl rfl rfl ?_ | (refine Plan.ints rfl rfl rfl rfl rfl rfl ?_; (refine Plan.int (i64r (by omega)) ?_)) | refine J.region mixed hI (by kernel_rfl) ?_ | refine J.condF rfl ?_ | refine J.skip ?_)
      refine Plan.int (y := ((i + 1 : Nat) : Int)) (by omega) ?_
      repeat (fail)
      exact Nrm.next (i + 1, B, cap) (by dsimp only; omega) (by dsimp only; omega) (by unfold noE; dsimp only; rw [hno]; exact (by repeat (first | exact Weak.nil | refine Weak.cons rfl (Sub.refl _) ?_ | refine Weak.cons rfl (Sub.heap (Ent.pickC [0] rfl rfl)) ?_)))
  · have hie : i = L.length := by
      first | omega | (dsimp only at hc; omega)
    subst hie
    refine J.exit ?_
    rw [noE, List.take_length]
    repeat (first | refine Plan.move rfl rfl rfl rfl ?_ | refine Plan.assign rfl rfl rfl rfl ?_ | refine J.seq (J.region mixed hI (by kernel_rfl) ?_))
    exact J.ret (Nrm.retRow (key := 1000) (q := 0) rfl rfl rfl rfl)
end Go.Proofs.YtmljgobenlpnfaaGreat
end

section
namespace Go.Free
open Go.RowKit
section
variable {P : Program} {ops : Array Oper} {Q : Exit → Act → World → Prop} {n : Nat} {I : World → Prop} {k i : Nat} {E : Env} {o : Oper} {d : Bool}
theorem Plan.indexCX {t e : TypeId} {z : Value} {bytes m cap β : Nat} {x y : Operand} {kd : IntKind} {xi : Int} (j : Nat) (hxj : xi = (j : Int)) (ho : ops[i]? = some o) (hop : o.op = .indexAddr t x y)
    (hg : wantB ops E o = some true) (hx : opF E x = some (.ex (.slice (some ⟨β, 0, none⟩) m cap))) (hy : opF E y = some (.ex (.int kd xi))) (he : Elt P t e z 26 bytes) (h1 : j < m)
    (h : Plan P ops Q n I d k (i + 1) (setE o.dst (.ex (.pointer (some ⟨β, j * 26, none⟩))) E)) : Plan P ops Q n I d (k + 1) i E := by
  subst hxj
  exact Plan.indexC ho hop hg hx hy he h1 (by omega) h
end
end Go.Free
namespace Go.Proofs.YtmljgobenlpnfaaGreat
open Go.Free Go.RowKit Go.Proofs Go.Free.Sorts
set_option maxHeartbeats 4000000
def evFX (es : List EvV) (f : Nat → Nat) (n : Nat) : List Value := evsC ((List.range n).map fun k => es.getD (f k) ev0)
theorem evF_len (es : List EvV) (f : Nat → Nat) (n : Nat) : (evFX es f n).length = n * 26 := by unfold evFX; rw [evs_len]; simp
theorem evF_at {es : List EvV} {f : Nat → Nat} {n i : Nat} (h : i < n) : ((evFX es f n).drop (i * 26)).take (es.getD (f i) ev0).enc.length = (es.getD (f i) ev0).enc := by
  have hl : i < ((List.range n).map fun k => es.getD (f k) ev0).length := by simpa using h
  have h2 := evs_at ((List.range n).map fun k => es.getD (f k) ev0) hl
  have h3 : ((List.range n).map fun k => es.getD (f k) ev0)[i] = es.getD (f i) ev0 := by simp
  rw [h3] at h2
  exact h2
theorem evs_set (L : List EvV) {i : Nat} (hi : i < L.length) (e : EvV) : (evsC L).take (i * 26) ++ e.enc ++ (evsC L).drop (i * 26 + e.enc.length) = evsC (L.set i e) := by
  have h1 : evsC L = evsC (L.take i) ++ (L[i].enc ++ evsC (L.drop (i + 1))) := by
    rw [show L[i].enc ++ evsC (L.drop (i + 1)) = evsC (L[i] :: L.drop (i + 1)) from rfl, List.getElem_cons_drop, ← evs_app, List.take_append_drop]
  have h2 : (evsC (L.take i)).length = i * 26 := by rw [evs_len, List.length_take, Nat.min_eq_left (by omega)]
  rw [List.set_eq_take_append_cons_drop, if_pos hi, evs_app]
  rw [h1, List.take_left' h2, ← List.drop_drop, List.drop_left' h2, encE, ← encE L[i], List.drop_left, List.append_assoc]
  rfl
theorem evF_set {es : List EvV} {f : Nat → Nat} {n i v : Nat} (h : i < n) : (evFX es f n).take (i * 26) ++ (Value.agg (es.getD v ev0).enc.toArray).cells.toList ++ (evFX es f n).drop (i * 26 + (Value.agg (es.getD v ev0).enc.toArray).cells.toList.length) = evFX es (fun k => if k = i then v else f k) n := by
  have hc : (Value.agg (es.getD v ev0).enc.toArray).cells.toList = (es.getD v ev0).enc := rfl
  rw [hc]
  unfold evFX
  rw [evs_set _ (by simpa using h)]
  congr 1
  apply List.ext_getElem?
  intro j
  rw [List.getElem?_set]
  by_cases hj : j < n
  · by_cases hij : i = j
    · subst hij; simp [hj]
    · rw [if_neg hij]
      have hji : ¬ j = i := fun e => hij e.symm
      simp [hj, hji]
  · have hij : ¬ i = j := by omega
    rw [if_neg hij, List.getElem?_eq_none (by simp; omega), List.getElem?_eq_none (by simp; omega)]
theorem setF_swap {f : Nat → Nat} {i j : Nat} (h : i ≠ j) : (fun k => if k = j then f i else (fun k => if k = i then f j else f k) k) = swapF f i j := by
  funext k
  unfold swapF
  dsimp only
  (repeat' split) <;> first | rfl | (exfalso; omega)
abbrev rowX (es : List EvV) (g n cap : Nat) (f : Nat → Nat) : Chunk := rowEv (some ⟨g, 0, none⟩) n cap (evFX es f n)
def srX (es : List EvV) (F : Nat → Prop) (w0 : World) (g n cap a b k : Nat) (f : Nat → Nat) (i : Nat) : Env :=
  [(0, .ex (slI g n cap)), (1, .ex (vi a)), (2, .ex (vi b)), (3, .ex (vi k)), (10, .ex (vi i)), (1000, heap (fun b => F b ∨ w0.heap.size ≤ b) [rowX es g n cap (swpR f a b i)])]
theorem swapRange_fnX (es : List EvV) (g n cap a b k : Nat) (f : Nat → Nat) (cmp : Value) (h1 : a + k ≤ b) (h2 : b + k ≤ n) (hn : n ≤ 1000000) :
    SpcC Tryz.prog 123 [.ex (slI g n cap), .ex (vi a), .ex (vi b), .ex (vi k), .ex cmp] (rowX es g n cap f) (fun _ : Unit => True) (fun _ => Fa.any) (fun _ => rowX es g n cap (swpR f a b k)) := by
  refine SpcC.intro Tryz.func123 rfl (Nat.le_of_ble_eq_true rfl) fun w0 F => ?_
  have hI := kept_below F w0
  have hA := Own.kept F w0
  repeat (first | refine Plan.assign rfl rfl rfl rfl ?_ | refine J.seq (J.region mixed hI (by kernel_rfl) ?_))
  refine J.block (J.loop (srX es F w0 g n cap a b k f) (fun i => i ≤ k) (fun i => k - i) 0 (Nat.zero_le _) ?_ ?_)
  · rw [srX, swpR_zero]
    repeat (first | exact Weak.nil | refine Weak.cons rfl (Sub.refl _) ?_)
  intro i hi
  repeat (first | refine Plan.move rfl rfl rfl rfl ?_ | (refine Plan.ints rfl rfl rfl rfl rfl rfl ?_; (skip)) | refine J.seq (J.seq (J.region mixed hI (by kernel_rfl) ?_)))
  refine J.condD rfl (fun hc => ?_) (fun hc => ?_)
  · have hlt : i < k := by omega
    refine J.skip ?_
    refine J.seq (J.block ?_)
    refine J.loose2 [(4, slI g n cap), (5, vi b), (6, vi i), (7, vi ((b + i : Nat) : Int))] [(0, .ex (slI g n cap)), (2, .ex (vi b)), (10, .ex (vi i))] mixed hI rfl rfl rfl (by kernel_rfl) (by kernel_rfl) (by kernel_rfl) rfl rfl (fun ⟨_, _, h⟩ => h) (fun _ _ _ _ h => h) (by repeat (first | exact Weak.nil | refine Weak.cons rfl (Sub.refl _) ?_)) ?_ ?_
    · refine Gives.cons [(0, .ex (slI g n cap)), (2, .ex (vi b)), (10, .ex (vi i))] (by kernel_rfl) rfl (by kernel_rfl) (Plan.move rfl rfl rfl rfl (Plan.gives rfl)) ?_
      refine Gives.cons [(0, .ex (slI g n cap)), (2, .ex (vi b)), (10, .ex (vi i))] (by kernel_rfl) rfl (by kernel_rfl) (Plan.move rfl rfl rfl rfl (Plan.gives rfl)) ?_
      refine Gives.cons [(0, .ex (slI g n cap)), (2, .ex (vi b)), (10, .ex (vi i))] (by kernel_rfl) rfl (by kernel_rfl) (Plan.move rfl rfl rfl rfl (Plan.gives rfl)) ?_
      exact Gives.cons [(21, .ex (vi b)), (22, .ex (vi i)), (0, .ex (slI g n cap)), (2, .ex (vi b)), (10, .ex (vi i))] (by kernel_rfl) rfl (by kernel_rfl) (Plan.ints rfl rfl rfl rfl rfl rfl (Plan.int (y := ((b + i : Nat) : Int)) (by rw [i64r (by omega)]; omega) (Plan.gives rfl))) Gives.nil
    repeat (first | refine Plan.move rfl rfl rfl rfl ?_ | refine Plan.assign rfl rfl rfl rfl ?_ | (refine Plan.ints rfl rfl rfl rfl rfl rfl ?_; (refine Plan.int (i64r (by omega)) ?_)))
    refine Plan.indexCX (b + i) (by omega) rfl rfl rfl rfl rfl eltE (by omega) ?_
    refine Plan.loadAggC (key := 1000) (q := 0) rfl rfl rfl rfl rfl rfl (row_reads (evF_at (by omega))) Tryz.underlying40 rfl (by rw [encE]; kernel_rfl) (by decide) ?_
    repeat (first | refine Plan.move rfl rfl rfl rfl ?_ | (refine Plan.ints rfl rfl rfl rfl rfl rfl ?_; (refine Plan.int (i64r (by omega)) ?_)))
    refine Plan.indexCX (a + i) (by omega) rfl rfl rfl rfl rfl eltE (by omega) ?_
    refine Plan.loadAggC (key := 1000) (q := 0) rfl rfl rfl rfl rfl rfl (row_reads (evF_at (by omega))) Tryz.underlying40 rfl (by rw [encE]; kernel_rfl) (by decide) ?_
    refine Plan.indexCX (a + i) (by omega) rfl rfl rfl rfl rfl eltE (by omega) ?_
    refine Plan.storeC (key := 1000) (q := 0) rfl rfl rfl rfl rfl rfl (fun u hu => encE_one _ u hu) (by kernel_rfl) rfl hA rfl (row_pat (by rw [evF_len]; show _ * 26 + 26 ≤ _; omega)) ?_
    rw [evF_set (by omega)]
    refine Plan.indexCX (b + i) (by omega) rfl rfl rfl rfl rfl eltE (by omega) ?_
    refine Plan.storeC (key := 1000) (q := 0) rfl rfl rfl rfl rfl rfl (fun u hu => encE_one _ u hu) (by kernel_rfl) rfl hA rfl (row_pat (by rw [evF_len]; show _ * 26 + 26 ≤ _; omega)) ?_
    rw [evF_set (by omega)]
    rw [setF_swap (by omega), swpR_succ f (by omega)]
    repeat (first | refine Plan.move rfl rfl rfl rfl ?_ | refine Plan.assign rfl rfl rfl rfl ?_ | (refine Plan.ints rfl rfl rfl rfl rfl rfl ?_; (refine Plan.int (i64r (by omega)) ?_)) | refine J.region mixed hI (by kernel_rfl) ?_)
    refine Plan.int (y := ((i + 1 : Nat) : Int)) (by omega) ?_
    repeat (fail)
    exact Nrm.next (i + 1) hlt (by omega) (by repeat (first | exact Weak.nil | refine Weak.cons rfl (Sub.refl _) ?_))
  · have hie : i = k := by omega
    subst hie
    refine J.exit ?_
    exact Nrm.retC0 (key := 1000) () rfl rfl rfl trivial (by exact Ent.one) (.inl rfl)
def rpX (es : List EvV) (F : Nat → Prop) (w0 : World) (g n cap m : Nat) (cmp : Value) (s : Nat × Nat × (Nat → Nat)) : Env :=
  [(0, .ex (slI g n cap)), (2, .ex (vi m)), (4, .ex cmp), (10, .ex (vi s.1)), (11, .ex (vi s.2.1)), (1000, heap (fun b => F b ∨ w0.heap.size ≤ b) [rowX es g n cap s.2.2])]
theorem rotate_fnX (es : List EvV) (g n cap a m b : Nat) (f : Nat → Nat) (cmp : Value) (h1 : a < m) (h2 : m < b) (h3 : b ≤ n) (hn : n ≤ 1000000) :
    SpcC Tryz.prog 121 [.ex (slI g n cap), .ex (vi a), .ex (vi m), .ex (vi b), .ex cmp] (rowX es g n cap f) (fun _ : Unit => True) (fun _ => Fa.any) (fun _ => rowX es g n cap (rotF f a m b)) := by
  refine SpcC.intro Tryz.func121 rfl (Nat.le_of_ble_eq_true rfl) fun w0 F => ?_
  have hI := kept_below F w0
  have hA := Own.kept F w0
  refine J.seq (J.region mixed hI (by kernel_rfl) ?_)
  repeat (first | refine Plan.move rfl rfl rfl rfl ?_ | refine Plan.assign rfl rfl rfl rfl ?_ | (refine Plan.ints rfl rfl rfl rfl rfl rfl ?_; (refine Plan.int (i64r (by omega)) ?_)))
  refine Plan.int (y := ((m - a : Nat) : Int)) (by omega) ?_
  refine J.seq (J.region mixed hI (by kernel_rfl) ?_)
  repeat (first | refine Plan.move rfl rfl rfl rfl ?_ | refine Plan.assign rfl rfl rfl rfl ?_ | (refine Plan.ints rfl rfl rfl rfl rfl rfl ?_; (refine Plan.int (i64r (by omega)) ?_)))
  refine Plan.int (y := ((b - m : Nat) : Int)) (by omega) ?_
  refine J.seq (J.block (J.loop (rpX es F w0 g n cap m cmp) (fun s => 0 < s.1 ∧ s.1 ≤ m ∧ 0 < s.2.1 ∧ m + s.2.1 ≤ n ∧ rotF s.2.2 (m - s.1) m (m + s.2.1) = rotF f a m b) (fun s => s.1 + s.2.1) (m - a, b - m, f) ⟨by dsimp only; omega, by dsimp only; omega, by dsimp only; omega, by dsimp only; omega, by dsimp only; congr 1 <;> omega⟩ ?_ ?_))
  · repeat (first | exact Weak.nil | refine Weak.cons rfl (Sub.refl _) ?_)
  rintro ⟨i, j, h⟩ ⟨hi0, him, hj0, hjn, hro⟩
  simp only at hi0 him hj0 hjn hro
  change J _ _ _ _ _ (rpX es F w0 g n cap m cmp (i, j, h))
  repeat (first | refine Plan.move rfl rfl rfl rfl ?_ | (refine Plan.ints rfl rfl rfl rfl rfl rfl ?_; (skip)) | refine J.seq (J.seq (J.region mixed hI (by kernel_rfl) ?_)))
  refine J.condN rfl (fun hc => ?_) (fun hc => ?_)
  · have hij : i ≠ j := fun e => by subst e; exact hc rfl
    refine J.skip ?_
    refine J.block ?_
    repeat (first | refine Plan.move rfl rfl rfl rfl ?_ | (refine Plan.ints rfl rfl rfl rfl rfl rfl ?_; (skip)) | refine J.seq (J.region mixed hI (by kernel_rfl) ?_))
    refine J.condD rfl (fun hd => ?_) (fun hd => ?_)
    · have hlt : j < i := by
        dsimp only at hd; omega
      refine J.seq (J.region mixed hI (by kernel_rfl) ?_)
      refine Plan.move rfl rfl rfl rfl ?_
      refine Plan.move rfl rfl rfl rfl ?_
      refine Plan.move rfl rfl rfl rfl ?_
      refine Plan.ints rfl rfl rfl rfl rfl rfl ?_
      refine Plan.int (y := ((m - i : Nat) : Int)) (by dsimp only; rw [i64r (by omega)]; omega) ?_
      repeat (refine Plan.move rfl rfl rfl rfl ?_)
      refine Plan.callC (key := 1000) (q := 0) rfl rfl rfl (swapRange_fnX es g n cap (m - i) m j h cmp (by omega) (by omega) hn) Tryz.func123 rfl rfl (by intro _ e; cases e; decide) (by repeat (first | exact Opnds.nil | refine Opnds.cons rfl (by exact Sub.refl _) ?_)) rfl hA rfl ?_
      intro _ _
      refine J.region mixed hI (by kernel_rfl) ?_
      repeat (first | refine Plan.move rfl rfl rfl rfl ?_ | refine Plan.assign rfl rfl rfl rfl ?_ | (refine Plan.ints rfl rfl rfl rfl rfl rfl ?_; (refine Plan.int (i64r (by omega)) ?_)))
      refine Plan.int (y := ((i - j : Nat) : Int)) (by (dsimp only; omega)) ?_
      refine Nrm.next (i - j, j, swpR h (m - i) m j) ⟨by dsimp only; omega, by dsimp only; omega, hj0, hjn, ?_⟩ (by dsimp only; omega) (by repeat (first | exact Weak.nil | refine Weak.cons rfl (Sub.refl _) ?_))
      dsimp only
      rw [show m - (i - j) = m - i + j by omega, rot_left hlt him]
      exact hro
    · have hlt : i < j := by
        dsimp only at hd; omega
      refine J.seq (J.region mixed hI (by kernel_rfl) ?_)
      refine Plan.move rfl rfl rfl rfl ?_
      refine Plan.move rfl rfl rfl rfl ?_
      refine Plan.move rfl rfl rfl rfl ?_
      refine Plan.ints rfl rfl rfl rfl rfl rfl ?_
      refine Plan.int (y := ((m - i : Nat) : Int)) (by dsimp only; rw [i64r (by omega)]; omega) ?_
      refine Plan.move rfl rfl rfl rfl ?_
      refine Plan.move rfl rfl rfl rfl ?_
      refine Plan.ints rfl rfl rfl rfl rfl rfl ?_
      refine Plan.int (y := ((m + j : Nat) : Int)) (by dsimp only; rw [i64r (by omega)]; omega) ?_
      refine Plan.move rfl rfl rfl rfl ?_
      refine Plan.ints rfl rfl rfl rfl rfl rfl ?_
      refine Plan.int (y := ((m + j - i : Nat) : Int)) (by dsimp only; rw [i64r (by omega)]; omega) ?_
      repeat (refine Plan.move rfl rfl rfl rfl ?_)
      refine Plan.callC (key := 1000) (q := 0) rfl rfl rfl (swapRange_fnX es g n cap (m - i) (m + j - i) i h cmp (by omega) (by omega) hn) Tryz.func123 rfl rfl (by intro _ e; cases e; decide) (by repeat (first | exact Opnds.nil | refine Opnds.cons rfl (by exact Sub.refl _) ?_)) rfl hA rfl ?_
      intro _ _
      refine J.region mixed hI (by kernel_rfl) ?_
      repeat (first | refine Plan.move rfl rfl rfl rfl ?_ | refine Plan.assign rfl rfl rfl rfl ?_ | (refine Plan.ints rfl rfl rfl rfl rfl rfl ?_; (skip)))
      refine Plan.int (y := ((j - i : Nat) : Int)) (by (dsimp only; rw [i64r (by omega)]; omega)) ?_
      refine Nrm.next (i, j - i, swpR h (m - i) (m + j - i) i) ⟨hi0, him, by dsimp only; omega, by dsimp only; omega, ?_⟩ (by dsimp only; omega) (by repeat (first | exact Weak.nil | refine Weak.cons rfl (Sub.refl _) ?_))
      dsimp only
      rw [show m + (j - i) = m + j - i by omega, rot_right hlt him]
      exact hro
  · have hij : i = j := by
      dsimp only at hc; omega
    subst hij
    refine J.exit ?_
    refine J.region mixed hI (by kernel_rfl) ?_
    refine Plan.move rfl rfl rfl rfl ?_
    refine Plan.move rfl rfl rfl rfl ?_
    refine Plan.move rfl rfl rfl rfl ?_
    refine Plan.ints rfl rfl rfl rfl rfl rfl ?_
    refine Plan.int (y := ((m - i : Nat) : Int)) (by dsimp only; rw [i64r (by omega)]; omega) ?_
    repeat (refine Plan.move rfl rfl rfl rfl ?_)
    refine Plan.callC (key := 1000) (q := 0) rfl rfl rfl (swapRange_fnX es g n cap (m - i) m i h cmp (by omega) (by omega) hn) Tryz.func123 rfl rfl (by intro _ e; cases e; decide) (by repeat (first | exact Opnds.nil | refine Opnds.cons rfl (by exact Sub.refl _) ?_)) rfl hA rfl ?_
    intro _ _
    rw [rot_same him, hro]
    exact Nrm.retC0 (key := 1000) () rfl rfl rfl trivial (by exact Ent.one) (.inl rfl)
structure CmpX (es : List EvV) (fid : FuncId) (caps : List Value) (cN : Chunk) (N : Nat) (R : Nat → Nat → Prop) : Prop where
  fn : ∃ fn, Tryz.prog.funcs[fid]? = some fn ∧ fn.body.isNone = false ∧ (fn.name == "runtime.NumGoroutine") = false
  call : ∀ x y, x < N → y < N → ∃ c : Int, SpcR Tryz.prog fid ([.ex (aggE (es.getD x ev0)), .ex (aggE (es.getD y ev0))] ++ caps.map .ex) cN (fun _ => .ex (vi c)) ∧ (y < x → (c < 0 ↔ R x y))
def isX (es : List EvV) (F : Nat → Prop) (w0 : World) (g n cap a b : Nat) (cmp : Value) (cN : Chunk) (s : Nat × (Nat → Nat)) : Env :=
  [(0, .ex (slI g n cap)), (1, .ex (vi a)), (2, .ex (vi b)), (3, .ex cmp), (8, .ex (vi s.1)), (1000, heap (fun b => F b ∨ w0.heap.size ≤ b) [rowX es g n cap s.2, cN])]
def iiX (es : List EvV) (F : Nat → Prop) (w0 : World) (g n cap a b : Nat) (cmp : Value) (cN : Chunk) (i : Nat) (h : Nat → Nat) (j : Nat) : Env :=
  [(0, .ex (slI g n cap)), (1, .ex (vi a)), (2, .ex (vi b)), (3, .ex cmp), (8, .ex (vi i)), (9, .ex (vi j)), (1000, heap (fun b => F b ∨ w0.heap.size ≤ b) [rowX es g n cap (unshF h j i), cN])]
theorem insertionSort_fnX {fid : FuncId} {caps : List Value} {cN : Chunk} {N : Nat} {R : Nat → Nat → Prop} (es : List EvV) (o : Ord R) (K : CmpX es fid caps cN N R) (g n cap a b : Nat) (f : Nat → Nat) (hab : a ≤ b) (hb : b ≤ n) (hn : n ≤ 1000000)
    (hN : ∀ i, i < n → f i < N) (hinc : ∀ i j, a ≤ i → i < j → j < b → f i < f j) :
    SpcC Tryz.prog 117 [.ex (slI g n cap), .ex (vi a), .ex (vi b), .ex (fnV fid caps)] (allC [rowX es g n cap f, cN]) (fun h : Nat → Nat => Mix a b f h ∧ SortedF R a b h) (fun _ => Fa.any)
      (fun h => allC [rowX es g n cap h, cN]) := by
  obtain ⟨fn, hfn, hfb, hfm⟩ := K.fn
  refine SpcC.intro Tryz.func117 rfl (Nat.le_of_ble_eq_true rfl) fun w0 F => ?_
  have hI := kept_below F w0
  have hA := Own.kept F w0
  refine J.open1 (key := 1000) rfl ?_
  refine J.seq (J.region mixed hI (by kernel_rfl) ?_)
  repeat (first | refine Plan.move rfl rfl rfl rfl ?_ | refine Plan.assign rfl rfl rfl rfl ?_ | (refine Plan.ints rfl rfl rfl rfl rfl rfl ?_; (refine Plan.int (i64r (by omega)) ?_)))
  refine Plan.int (y := ((a + 1 : Nat) : Int)) (by omega) ?_
  refine J.block (J.loop (isX es F w0 g n cap a b (fnV fid caps) cN) (fun s => a + 1 ≤ s.1 ∧ (s.1 ≤ b ∨ s.1 = a + 1) ∧ (s.1 = a + 1 → s.2 = f) ∧ Mix a s.1 f s.2 ∧ SortedF R a s.1 s.2) (fun s => b - s.1) (a + 1, f) ⟨Nat.le_refl _, .inr rfl, fun _ => rfl, Mix.refl _ _ _, fun i j p q r => by dsimp only at r; omega⟩ ?_ ?_)
  · repeat (first | exact Weak.nil | refine Weak.cons rfl (Sub.refl _) ?_)
  rintro ⟨i, h⟩ ⟨hi1, hi2, hi3, hmx, hso⟩
  simp only at hi1 hi2 hi3 hmx hso
  change J _ _ _ _ _ (isX es F w0 g n cap a b (fnV fid caps) cN (i, h))
  repeat (first | refine Plan.move rfl rfl rfl rfl ?_ | (refine Plan.ints rfl rfl rfl rfl rfl rfl ?_; (skip)) | refine J.seq (J.seq (J.region mixed hI (by kernel_rfl) ?_)))
  refine J.condD rfl (fun hc => ?_) (fun hc => ?_)
  · have hlt : i < b := by
      dsimp only at hc; omega
    have hhi : h i = f i := hmx.out i (.inr (Nat.le_refl _))
    have hles : ∀ k, a ≤ k → k < i → h k < h i := fun k p q => by
      obtain ⟨k2, p2, q2, e⟩ := hmx.fro k p q
      rw [hhi, e]; exact hinc k2 i p2 q2 hlt
    have hNh : ∀ k, a ≤ k → k ≤ i → h k < N := fun k p q => by
      by_cases e : k = i
      · rw [e, hhi]; exact hN i (by omega)
      · obtain ⟨k2, p2, q2, e2⟩ := hmx.fro k p (by omega)
        rw [e2]; exact hN k2 (by omega)
    refine J.skip ?_
    refine J.seq (J.block ?_)
    repeat (first | refine Plan.move rfl rfl rfl rfl ?_ | refine Plan.assign rfl rfl rfl rfl ?_ | refine J.seq (J.region mixed hI (by kernel_rfl) ?_))
    refine J.block (J.loop (iiX es F w0 g n cap a b (fnV fid caps) cN i h) (fun j => a ≤ j ∧ j ≤ i ∧ ∀ k, j ≤ k → k < i → R (h i) (h k)) (fun j => j) i ⟨by omega, Nat.le_refl _, fun k p q => by omega⟩ ?_ ?_)
    · rw [iiX, unsh_zero]
      repeat (first | exact Weak.nil | refine Weak.cons rfl (Sub.refl _) ?_)
    rintro j ⟨hj1, hj2, hj3⟩
    have hcj : unshF h j i j = h i := by unfold unshF; rw [if_pos rfl]
    have hstop : (j = a ∨ ¬ R (h i) (h (j - 1))) → Mix a (i + 1) f (unshF h j i) ∧ SortedF R a (i + 1) (unshF h j i) := fun hx =>
      ⟨(hmx.wide (Nat.le_refl _) (by omega)).trans (unsh_mix hj1 hj2 (by omega)),
       unsh_sorted hso hj2 (fun k p q => by
        rcases hx with hx | hx
        · omega
        · have h1 := o.not (by have := hles (j - 1) (by omega) (by omega); omega) hx
          exact sorted_le o hso p (by omega) (by omega) h1) hj3 hj1⟩
    refine J.seq (J.seq (J.region mixed hI (by kernel_rfl) ?_))
    repeat (first | refine Plan.move rfl rfl rfl rfl ?_ | (refine Plan.ints rfl rfl rfl rfl rfl rfl ?_; (skip)))
    by_cases hja : a < j
    rotate_left
    · have hjea : j = a := by omega
      refine Plan.boolv (y := false) (decide_eq_false (by omega)) ?_
      repeat (first | refine Plan.skip rfl rfl ?_ | refine Plan.pick rfl rfl rfl rfl rfl ?_ | refine J.condF rfl ?_)
      refine J.exit ?_
      obtain ⟨e1, e2⟩ := hstop (.inl hjea)
      repeat (first | refine Plan.move rfl rfl rfl rfl ?_ | refine Plan.assign rfl rfl rfl rfl ?_ | (refine Plan.ints rfl rfl rfl rfl rfl rfl ?_; (refine Plan.int (i64r (by omega)) ?_)) | refine J.region mixed hI (by kernel_rfl) ?_)
      refine Plan.int (y := ((i + 1 : Nat) : Int)) (by omega) ?_
      exact Nrm.next (i + 1, unshF h j i) ⟨by dsimp only; omega, .inl hlt, fun e => by dsimp only at e; omega, e1, e2⟩ (by dsimp only; omega) (by repeat (first | exact Weak.nil | refine Weak.cons rfl (Sub.refl _) ?_))
    have hcj1 : unshF h j i (j - 1) = h (j - 1) := by unfold unshF; rw [if_neg (by omega), if_neg (by omega)]
    obtain ⟨c, hcall, hcR⟩ := K.call (h i) (h (j - 1)) (hNh i (by omega) (Nat.le_refl _)) (hNh (j - 1) (by omega) (by omega))
    have hcR := hcR (hles (j - 1) (by omega) (by omega))
    refine Plan.boolv (y := true) (decide_eq_true (by omega)) ?_
    repeat (refine Plan.move rfl rfl rfl rfl ?_)
    refine Plan.indexCX j (by omega) rfl rfl rfl rfl rfl eltE (by omega) ?_
    refine Plan.loadAggC (key := 1000) (q := 0) rfl rfl rfl rfl rfl rfl (row_reads (evF_at (by omega))) Tryz.underlying40 rfl (by rw [encE]; kernel_rfl) (by decide) ?_
    rw [hcj]
    repeat (first | refine Plan.move rfl rfl rfl rfl ?_ | (refine Plan.ints rfl rfl rfl rfl rfl rfl ?_; (refine Plan.int (i64r (by omega)) ?_)))
    refine Plan.indexCX (j - 1) (by omega) rfl rfl rfl rfl rfl eltE (by omega) ?_
    refine Plan.loadAggC (key := 1000) (q := 0) rfl rfl rfl rfl rfl rfl (row_reads (evF_at (by omega))) Tryz.underlying40 rfl (by rw [encE]; kernel_rfl) (by decide) ?_
    rw [hcj1]
    repeat (fail)
    refine Plan.callFR (key := 1000) (B := 0) (fs := [.ex (aggE (es.getD (h i) ev0)), .ex (aggE (es.getD (h (j - 1)) ev0))]) (caps := caps) rfl rfl rfl rfl hcall hfn hfb hfm (fun _ _ => Nat.zero_le _) (Opnds.cons rfl (Sub.refl _) (Opnds.cons rfl (Sub.refl _) Opnds.nil)) rfl (Ent.right.trans Ent.left) (by decide) ?_
    repeat (first | refine Plan.pick rfl rfl rfl rfl rfl ?_ | (refine Plan.ints rfl rfl rfl rfl rfl rfl ?_; (skip)))
    refine J.condD rfl (fun hd => ?_) (fun hd => ?_)
    · have hRR : R (h i) (h (j - 1)) := hcR.1 hd
      obtain ⟨j', rfl⟩ : ∃ j', j = j' + 1 := ⟨j - 1, by omega⟩
      rw [Nat.add_sub_cancel] at hcj1 hRR
      refine J.skip ?_
      refine J.seq (J.block ?_)
      refine J.loose2 [(2, slI g n cap), (3, vi ((j' + 1 : Nat) : Int)), (4, vi j')] [(0, .ex (slI g n cap)), (9, .ex (vi ((j' + 1 : Nat) : Int)))] mixed hI rfl rfl rfl (by kernel_rfl) (by kernel_rfl) (by kernel_rfl) rfl rfl (fun ⟨_, _, h⟩ => h) (fun _ _ _ _ h => h) (by repeat (first | exact Weak.nil | refine Weak.cons rfl (Sub.refl _) ?_)) ?_ ?_
      · refine Gives.cons [(0, .ex (slI g n cap)), (9, .ex (vi ((j' + 1 : Nat) : Int)))] (by kernel_rfl) rfl (by kernel_rfl) (Plan.move rfl rfl rfl rfl (Plan.gives rfl)) ?_
        refine Gives.cons [(0, .ex (slI g n cap)), (9, .ex (vi ((j' + 1 : Nat) : Int)))] (by kernel_rfl) rfl (by kernel_rfl) (Plan.move rfl rfl rfl rfl (Plan.gives rfl)) ?_
        exact Gives.cons [(40, .ex (vi ((j' + 1 : Nat) : Int))), (0, .ex (slI g n cap)), (9, .ex (vi ((j' + 1 : Nat) : Int)))] (by kernel_rfl) rfl (by kernel_rfl) (Plan.ints rfl rfl rfl rfl rfl rfl (Plan.int (y := (j' : Int)) (by rw [i64r (by omega)]; omega) (Plan.gives rfl))) Gives.nil
      repeat (first | refine Plan.move rfl rfl rfl rfl ?_ | refine Plan.assign rfl rfl rfl rfl ?_ | (refine Plan.ints rfl rfl rfl rfl rfl rfl ?_; (refine Plan.int (i64r (by omega)) ?_)))
      refine Plan.indexCX j' (by omega) rfl rfl rfl rfl rfl eltE (by omega) ?_
      refine Plan.loadAggC (key := 1000) (q := 0) rfl rfl rfl rfl rfl rfl (row_reads (evF_at (by omega))) Tryz.underlying40 rfl (by rw [encE]; kernel_rfl) (by decide) ?_
      repeat (refine Plan.move rfl rfl rfl rfl ?_)
      refine Plan.indexCX (j' + 1) (by omega) rfl rfl rfl rfl rfl eltE (by omega) ?_
      refine Plan.loadAggC (key := 1000) (q := 0) rfl rfl rfl rfl rfl rfl (row_reads (evF_at (by omega))) Tryz.underlying40 rfl (by rw [encE]; kernel_rfl) (by decide) ?_
      refine Plan.indexCX (j' + 1) (by omega) rfl rfl rfl rfl rfl eltE (by omega) ?_
      refine Plan.storeC (key := 1000) (q := 0) rfl rfl rfl rfl rfl rfl (fun u hu => encE_one _ u hu) (by kernel_rfl) rfl hA rfl (row_pat (by rw [evF_len]; show _ * 26 + 26 ≤ _; omega)) ?_
      rw [evF_set (by omega)]
      refine Plan.indexCX j' (by omega) rfl rfl rfl rfl rfl eltE (by omega) ?_
      refine Plan.storeC (key := 1000) (q := 0) rfl rfl rfl rfl rfl rfl (fun u hu => encE_one _ u hu) (by kernel_rfl) rfl hA rfl (row_pat (by rw [evF_len]; show _ * 26 + 26 ≤ _; omega)) ?_
      rw [evF_set (by omega)]
      rw [setF_swap (by omega), unsh_succ h (by omega)]
      repeat (first | refine Plan.move rfl rfl rfl rfl ?_ | refine Plan.assign rfl rfl rfl rfl ?_ | (refine Plan.ints rfl rfl rfl rfl rfl rfl ?_; (refine Plan.int (i64r (by omega)) ?_)) | refine J.region mixed hI (by kernel_rfl) ?_)
      refine Plan.int (y := (j' : Int)) (by omega) ?_
      refine Nrm.next j' ⟨by omega, by omega, fun k p q => ?_⟩ (by omega) (by repeat (first | exact Weak.nil | refine Weak.cons rfl (Sub.refl _) ?_))
      by_cases e : k = j'
      · rw [e]; exact hRR
      · exact hj3 k (by omega) q
    · have hRR : ¬ R (h i) (h (j - 1)) := fun e => hd (hcR.2 e)
      refine J.exit ?_
      obtain ⟨e1, e2⟩ := hstop (.inr hRR)
      repeat (first | refine Plan.move rfl rfl rfl rfl ?_ | refine Plan.assign rfl rfl rfl rfl ?_ | (refine Plan.ints rfl rfl rfl rfl rfl rfl ?_; (refine Plan.int (i64r (by omega)) ?_)) | refine J.region mixed hI (by kernel_rfl) ?_)
      refine Plan.int (y := ((i + 1 : Nat) : Int)) (by omega) ?_
      exact Nrm.next (i + 1, unshF h j i) ⟨by dsimp only; omega, .inl hlt, fun e => by dsimp only at e; omega, e1, e2⟩ (by dsimp only; omega) (by repeat (first | exact Weak.nil | refine Weak.cons rfl (Sub.refl _) ?_))
  · refine J.exit ?_
    have hfin : Mix a b f h ∧ SortedF R a b h := by
      by_cases hib : i = b
      · rw [← hib]; exact ⟨hmx, hso⟩
      · have hia : i = a + 1 := by
          dsimp only at hc; omega
        rw [hi3 hia]
        exact ⟨Mix.refl _ _ _, fun p q r s t => by
          dsimp only at hc; omega⟩
    exact Nrm.retC0 (key := 1000) h rfl rfl rfl hfin (Ent.refl _) (.inl rfl)
end Go.Proofs.YtmljgobenlpnfaaGreat
end

section
namespace Go.Proofs.YtmljgobenlpnfaaGreat
open Go.Free Go.RowKit Go.Proofs Go.Free.Sorts
set_option maxHeartbeats 8000000
abbrev MergeSpcX (es : List EvV) (fid : FuncId) (caps : List Value) (cN : Chunk) (R : Nat → Nat → Prop) (g n cap a m b : Nat) (f : Nat → Nat) : Prop :=
  SpcC Tryz.prog 118 [.ex (slI g n cap), .ex (vi a), .ex (vi m), .ex (vi b), .ex (fnV fid caps)] (allC [rowX es g n cap f, cN]) (fun h : Nat → Nat => Mix a b f h ∧ SortedF R a b h) (fun _ => Fa.any)
    (fun h => allC [rowX es g n cap h, cN])
def saX (es : List EvV) (F : Nat → Prop) (w0 : World) (g n cap a b : Nat) (cmp : Value) (cN : Chunk) (f : Nat → Nat) (s : Nat × Nat) : Env :=
  [(0, .ex (slI g n cap)), (1, .ex (vi a)), (3, .ex (vi b)), (4, .ex cmp), (10, .ex (vi s.1)), (11, .ex (vi s.2)), (1000, heap (fun b => F b ∨ w0.heap.size ≤ b) [rowX es g n cap f, cN])]
def sbX (es : List EvV) (F : Nat → Prop) (w0 : World) (g n cap a : Nat) (cN : Chunk) (f : Nat → Nat) (i k : Nat) : Env :=
  [(0, .ex (slI g n cap)), (10, .ex (vi i)), (13, .ex (vi k)), (1000, heap (fun b => F b ∨ w0.heap.size ≤ b) [rowX es g n cap (shiftF f a k), cN])]
section
variable {fid : FuncId} {caps : List Value} {cN : Chunk} {N : Nat} {R : Nat → Nat → Prop}
theorem mergeAX (es : List EvV) (o : Ord R) (K : CmpX es fid caps cN N R) (g n cap a b : Nat) (f : Nat → Nat) (h2 : a + 1 < b) (h3 : b ≤ n) (hn : n ≤ 1000000) (hN : ∀ i, i < n → f i < N) (hs2 : SortedF R (a + 1) b f) (hap : Apart2 a (a + 1) b f) :
    MergeSpcX es fid caps cN R g n cap a (a + 1) b f := by
  obtain ⟨fn, hfn, hfb, hfm⟩ := K.fn
  have hlt : ∀ k, a + 1 ≤ k → k < b → f a < f k := fun k p q => hap a k (Nat.le_refl _) (Nat.lt_succ_self a) p q
  refine SpcC.intro Tryz.func118 rfl (Nat.le_of_ble_eq_true rfl) fun w0 F => ?_
  have hI := kept_below F w0
  have hA := Own.kept F w0
  refine J.open1 (key := 1000) rfl ?_
  refine J.seq (J.seq (J.region mixed hI (by kernel_rfl) ?_))
  repeat (first | refine Plan.move rfl rfl rfl rfl ?_ | (refine Plan.ints rfl rfl rfl rfl rfl rfl ?_; (first | refine Plan.int (i64r (by omega)) ?_ | skip)))
  refine Plan.boolv (y := true) (by simp; omega) ?_
  refine J.condT rfl ?_
  repeat (first | refine Plan.move rfl rfl rfl rfl ?_ | refine Plan.assign rfl rfl rfl rfl ?_ | refine J.seq (J.region mixed hI (by kernel_rfl) ?_))
  refine J.seq (J.block (J.loop (saX es F w0 g n cap a b (fnV fid caps) cN f) (fun s => a + 1 ≤ s.1 ∧ s.1 ≤ s.2 ∧ s.2 ≤ b ∧ (∀ k, a + 1 ≤ k → k < s.1 → R (f k) (f a)) ∧ ∀ k, s.2 ≤ k → k < b → ¬ R (f k) (f a)) (fun s => s.2 - s.1) (a + 1, b) ⟨Nat.le_refl _, by dsimp only; omega, Nat.le_refl _, fun k p q => by dsimp only at q; omega, fun k p q => by dsimp only at p; omega⟩ ?_ ?_))
  · repeat (first | exact Weak.nil | refine Weak.cons rfl (Sub.refl _) ?_)
  rintro ⟨i, j⟩ ⟨hi, hij, hj, hlo, hhi⟩
  simp only at hi hij hj hlo hhi
  change J _ _ _ _ _ (saX es F w0 g n cap a b (fnV fid caps) cN f (i, j))
  repeat (first | refine Plan.move rfl rfl rfl rfl ?_ | (refine Plan.ints rfl rfl rfl rfl rfl rfl ?_; (skip)) | refine J.seq (J.seq (J.region mixed hI (by kernel_rfl) ?_)))
  refine J.condD rfl (fun hc => ?_) (fun hc => ?_)
  · have hc' : i < j := by
      dsimp only at hc; omega
    obtain ⟨h, hh⟩ : ∃ h, h = (i + j) / 2 := ⟨_, rfl⟩
    obtain ⟨c, hcall, hcR⟩ := K.call (f h) (f a) (hN h (by omega)) (hN a (by omega))
    have hcR := hcR (hlt h (by omega) (by omega))
    refine J.skip ?_
    refine J.block ?_
    repeat (first | refine Plan.move rfl rfl rfl rfl ?_ | (refine Plan.ints rfl rfl rfl rfl rfl rfl ?_; (refine Plan.int (i64r (by omega)) ?_)) | (refine Plan.convInt rfl rfl rfl rfl (by exact Tryz.underlying3) (by first | exact Tryz.underlying3 | exact Tryz.underlying148) ?_; (refine Plan.int (u64r (by omega)) ?_)) | refine J.seq (J.region mixed hI (by kernel_rfl) ?_))
    refine Plan.int (y := ((i + j : Nat) : Int)) (by omega) ?_
    refine Plan.shrN (q := 1) rfl rfl rfl rfl rfl (by decide) ?_
    rw [show (i + j) / 2 ^ 1 = h by rw [hh]]
    repeat (first | refine Plan.move rfl rfl rfl rfl ?_ | refine Plan.assign rfl rfl rfl rfl ?_ | (refine Plan.convInt rfl rfl rfl rfl (by first | exact Tryz.underlying3 | exact Tryz.underlying148) (by exact Tryz.underlying3) ?_; (refine Plan.int (i64r (by omega)) ?_)) | refine J.seq (J.region mixed hI (by kernel_rfl) ?_))
    refine Plan.indexCX h (by omega) rfl rfl rfl rfl rfl eltE (by omega) ?_
    refine Plan.loadAggC (key := 1000) (q := 0) rfl rfl rfl rfl rfl rfl (row_reads (evF_at (by omega))) Tryz.underlying40 rfl (by rw [encE]; kernel_rfl) (by decide) ?_
    repeat (refine Plan.move rfl rfl rfl rfl ?_)
    refine Plan.indexCX a (by omega) rfl rfl rfl rfl rfl eltE (by omega) ?_
    refine Plan.loadAggC (key := 1000) (q := 0) rfl rfl rfl rfl rfl rfl (row_reads (evF_at (by omega))) Tryz.underlying40 rfl (by rw [encE]; kernel_rfl) (by decide) ?_
    repeat (fail)
    refine Plan.callFR (key := 1000) (B := 0) (fs := [.ex (aggE (es.getD (f h) ev0)), .ex (aggE (es.getD (f a) ev0))]) (caps := caps) rfl rfl rfl rfl hcall hfn hfb hfm (fun _ _ => Nat.zero_le _) (Opnds.cons rfl (Sub.refl _) (Opnds.cons rfl (Sub.refl _) Opnds.nil)) rfl (Ent.right.trans Ent.left) (by decide) ?_
    repeat ((refine Plan.ints rfl rfl rfl rfl rfl rfl ?_; (skip)))
    refine J.condD rfl (fun hd => ?_) (fun hd => ?_)
    · repeat (first | refine Plan.move rfl rfl rfl rfl ?_ | refine Plan.assign rfl rfl rfl rfl ?_ | (refine Plan.ints rfl rfl rfl rfl rfl rfl ?_; (refine Plan.int (i64r (by omega)) ?_)) | refine J.region mixed hI (by kernel_rfl) ?_)
      refine Plan.int (y := ((h + 1 : Nat) : Int)) (by omega) ?_
      exact Nrm.next (h + 1, j) ⟨by dsimp only; omega, by dsimp only; omega, hj, fun k p q => sorted_le o hs2 p (by dsimp only at q; omega) (by omega) (hcR.1 hd), hhi⟩ (by dsimp only; omega) (by repeat (first | exact Weak.nil | refine Weak.cons rfl (Sub.refl _) ?_))
    · repeat (first | refine Plan.move rfl rfl rfl rfl ?_ | refine Plan.assign rfl rfl rfl rfl ?_ | refine J.region mixed hI (by kernel_rfl) ?_)
      exact Nrm.next (i, h) ⟨hi, by dsimp only; omega, by dsimp only; omega, hlo, fun k p q e => hd (hcR.2 (sorted_le o hs2 (by omega) p q e))⟩ (by dsimp only; omega) (by repeat (first | exact Weak.nil | refine Weak.cons rfl (Sub.refl _) ?_))
  · have hije : i = j := by
      dsimp only at hc; omega
    subst hije
    refine J.exit ?_
    refine J.seq (J.seq (J.region mixed hI (by kernel_rfl) ?_))
    repeat (first | refine Plan.move rfl rfl rfl rfl ?_ | refine Plan.assign rfl rfl rfl rfl ?_)
    refine J.block (J.loop (sbX es F w0 g n cap a cN f i) (fun k => a ≤ k ∧ k + 1 ≤ i) (fun k => i - k) a ⟨Nat.le_refl _, hi⟩ ?_ ?_)
    · rw [sbX, shift_zero]
      repeat (first | exact Weak.nil | refine Weak.cons rfl (Sub.refl _) ?_)
    rintro k ⟨hk1, hk2⟩
    refine J.seq (J.seq (J.region mixed hI (by kernel_rfl) ?_))
    repeat (first | refine Plan.move rfl rfl rfl rfl ?_ | (refine Plan.ints rfl rfl rfl rfl rfl rfl ?_; (first | refine Plan.int (i64r (by omega)) ?_ | skip)))
    refine J.condD rfl (fun hd => ?_) (fun hd => ?_)
    · have hki : k + 1 < i := by
        (try simp only [IntKind.wrap_i64] at hd); omega
      refine J.skip ?_
      refine J.seq (J.block ?_)
      refine J.loose2 [(2, slI g n cap), (3, vi k), (4, vi ((k + 1 : Nat) : Int))] [(0, .ex (slI g n cap)), (13, .ex (vi k))] mixed hI rfl rfl rfl (by kernel_rfl) (by kernel_rfl) (by kernel_rfl) rfl rfl (fun ⟨_, _, h⟩ => h) (fun _ _ _ _ h => h) (by repeat (first | exact Weak.nil | refine Weak.cons rfl (Sub.refl _) ?_)) ?_ ?_
      · refine Gives.cons [(0, .ex (slI g n cap)), (13, .ex (vi k))] (by kernel_rfl) rfl (by kernel_rfl) (Plan.move rfl rfl rfl rfl (Plan.gives rfl)) ?_
        refine Gives.cons [(0, .ex (slI g n cap)), (13, .ex (vi k))] (by kernel_rfl) rfl (by kernel_rfl) (Plan.move rfl rfl rfl rfl (Plan.gives rfl)) ?_
        exact Gives.cons [(64, .ex (vi k)), (0, .ex (slI g n cap)), (13, .ex (vi k))] (by kernel_rfl) rfl (by kernel_rfl) (Plan.ints rfl rfl rfl rfl rfl rfl (Plan.int (y := ((k + 1 : Nat) : Int)) (by rw [i64r (by omega)]; omega) (Plan.gives rfl))) Gives.nil
      repeat (first | refine Plan.move rfl rfl rfl rfl ?_ | refine Plan.assign rfl rfl rfl rfl ?_ | (refine Plan.ints rfl rfl rfl rfl rfl rfl ?_; (refine Plan.int (i64r (by omega)) ?_)))
      refine Plan.indexCX (k + 1) (by omega) rfl rfl rfl rfl rfl eltE (by omega) ?_
      refine Plan.loadAggC (key := 1000) (q := 0) rfl rfl rfl rfl rfl rfl (row_reads (evF_at (by omega))) Tryz.underlying40 rfl (by rw [encE]; kernel_rfl) (by decide) ?_
      repeat (refine Plan.move rfl rfl rfl rfl ?_)
      refine Plan.indexCX k (by omega) rfl rfl rfl rfl rfl eltE (by omega) ?_
      refine Plan.loadAggC (key := 1000) (q := 0) rfl rfl rfl rfl rfl rfl (row_reads (evF_at (by omega))) Tryz.underlying40 rfl (by rw [encE]; kernel_rfl) (by decide) ?_
      refine Plan.indexCX k (by omega) rfl rfl rfl rfl rfl eltE (by omega) ?_
      refine Plan.storeC (key := 1000) (q := 0) rfl rfl rfl rfl rfl rfl (fun u hu => encE_one _ u hu) (by kernel_rfl) rfl hA rfl (row_pat (by rw [evF_len]; show _ * 26 + 26 ≤ _; omega)) ?_
      rw [evF_set (by omega)]
      refine Plan.indexCX (k + 1) (by omega) rfl rfl rfl rfl rfl eltE (by omega) ?_
      refine Plan.storeC (key := 1000) (q := 0) rfl rfl rfl rfl rfl rfl (fun u hu => encE_one _ u hu) (by kernel_rfl) rfl hA rfl (row_pat (by rw [evF_len]; show _ * 26 + 26 ≤ _; omega)) ?_
      rw [evF_set (by omega)]
      rw [setF_swap (by omega), shift_succ f hk1]
      repeat (first | refine Plan.move rfl rfl rfl rfl ?_ | refine Plan.assign rfl rfl rfl rfl ?_ | (refine Plan.ints rfl rfl rfl rfl rfl rfl ?_; (refine Plan.int (i64r (by omega)) ?_)) | refine J.region mixed hI (by kernel_rfl) ?_)
      refine Plan.int (y := ((k + 1 : Nat) : Int)) (by omega) ?_
      exact Nrm.next (k + 1) ⟨by omega, by omega⟩ (by omega) (by repeat (first | exact Weak.nil | refine Weak.cons rfl (Sub.refl _) ?_))
    · have hki : k = i - 1 := by
        (try simp only [IntKind.wrap_i64] at hd); omega
      refine J.exit ?_
      have hfin : Mix a b f (shiftF f a k) ∧ SortedF R a b (shiftF f a k) :=
        ⟨shift_mix hk1 (by omega), shift_sorted hs2 (by omega) (fun x p q => hlo x (by omega) (by omega)) (fun x p q => o.not (by have := hlt x (by omega) q; omega) (hhi x (by omega) q)) hk1⟩
      exact J.ret (Nrm.retC0 (key := 1000) (shiftF f a k) rfl rfl rfl hfin (Ent.refl _) (.inr rfl))
end
end Go.Proofs.YtmljgobenlpnfaaGreat
end
