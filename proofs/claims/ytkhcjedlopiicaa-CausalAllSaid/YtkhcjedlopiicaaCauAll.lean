/-
  The law CausalAll returns true for all arguments.
-/
import Derived.Test.YtkhcjedlopiicaaCauOnce
import Derived.Test.YtkhcjedlopiicaaFreeCut
set_option linter.unusedSimpArgs false
set_option linter.unusedVariables false
set_option maxRecDepth 20000
namespace Go.Proofs.Ytkhcjedlopiicaa
open Go.Free Go.RowKit Go.Proofs
theorem nodup_le {α : Type} [DecidableEq α] : ∀ {l s : List α}, l.Nodup → (∀ x ∈ l, x ∈ s) → l.length ≤ s.length
  | [], _, _, _ => Nat.zero_le _
  | a :: l, s, h, hs => by
    obtain ⟨h1, h2⟩ := List.nodup_cons.1 h
    have ha := hs a List.mem_cons_self
    have := nodup_le (s := s.erase a) h2 fun x hx => (List.mem_erase_of_ne fun e => h1 (by rw [← e]; exact hx)).2 (hs x (List.mem_cons_of_mem _ hx))
    rw [List.length_erase_of_mem ha] at this
    have hp := List.length_pos_of_mem ha
    simp only [List.length_cons]; omega
def sumN (v : Nat → Int) : Nat → Int
  | 0 => 0
  | k + 1 => sumN v k + v k
theorem sumN_set (v : Nat → Int) (r : Nat) : ∀ k, sumN (fun j => if j = r then v r + 1 else v j) k = sumN v k + if r < k then 1 else 0
  | 0 => by simp [sumN]
  | k + 1 => by
    simp only [sumN, sumN_set v r k]
    by_cases h : k = r
    · subst h; rw [if_pos rfl, if_neg (by omega), if_pos (by omega)]; omega
    · rw [if_neg h]
      by_cases h2 : r < k
      · rw [if_pos h2, if_pos (by omega)]; omega
      · rw [if_neg h2, if_neg (by omega)]; omega
theorem sumN_congr {v w : Nat → Int} : ∀ {k}, (∀ i, i < k → v i = w i) → sumN v k = sumN w k
  | 0, _ => rfl
  | k + 1, h => by simp only [sumN]; rw [sumN_congr fun i hi => h i (by omega), h k (by omega)]
theorem sumN_zero : ∀ k, sumN zeroV k = 0
  | 0 => rfl
  | k + 1 => by simp only [sumN, sumN_zero k]; rfl
def eachB (v : Nat → Int) (l : List EvV) : Prop := ∀ (j : Nat) x, l[j]? = some x → mayB x (setAll v (l.take j)) = true ∧ rightP x ∧ x.okV
theorem each_head {v : Nat → Int} {x : EvV} {l : List EvV} (h : eachB v (x :: l)) : (mayB x v = true ∧ rightP x ∧ x.okV) ∧ eachB (setV v x) l := ⟨h 0 x rfl, fun j y hy => h (j + 1) y (by simpa using hy)⟩
theorem each_take {v : Nat → Int} {l : List EvV} (h : eachB v l) (k : Nat) : eachB v (l.take k) := fun j x hx => by
  rw [List.getElem?_take] at hx
  split at hx
  · rw [List.take_take, Nat.min_eq_left (by omega)]; exact h j x hx
  · cases hx
theorem sum_each {l : List EvV} : ∀ {v : Nat → Int}, okV v → eachB v l → sumN (setAll v l) 16 = sumN v 16 + l.length := by
  induction l with
  | nil => intro v _ _; simp [setAll]
  | cons x l ih =>
    intro v hv h
    obtain ⟨⟨h1, h2, h3⟩, h4⟩ := each_head h
    have e := ih (okV_set hv h3) h4
    have hn := may_next hv h2 h1
    have h5 : setV v x = fun j => if j = x.r.toNat then v x.r.toNat + 1 else v j := by funext j; unfold setV; rw [hn]
    have hr : x.r.toNat < 16 := by have := h2.1.1; have := h2.1.2.1; omega
    show sumN (setAll (setV v x) l) 16 = _
    rw [e, h5, sumN_set, if_pos hr]
    simp only [List.length_cons]; omega
theorem setAll_cases (l : List EvV) : ∀ (v : Nat → Int) (i : Nat), setAll v l i = v i ∨ ∃ x ∈ l, x.r.toNat = i ∧ setAll v l i = x.n := by
  induction l with
  | nil => intro v i; exact .inl rfl
  | cons x l ih =>
    intro v i
    show setAll (setV v x) l i = _ ∨ _
    rcases ih (setV v x) i with h | ⟨y, h1, h2, h3⟩
    · by_cases hi : i = x.r.toNat
      · exact .inr ⟨x, List.mem_cons_self, hi.symm, by show setAll (setV v x) l i = _; rw [h]; unfold setV; rw [if_pos hi]⟩
      · left; rw [h]; unfold setV; rw [if_neg hi]
    · exact .inr ⟨y, List.mem_cons_of_mem _ h1, h2, h3⟩
theorem mem_left {v : Nat → Int} {B : List (Dt × EvV)} {y : Dt × EvV} : y ∈ leftE v B ↔ y ∈ B ∧ ¬ hasP v y.1.1 y.1.2 := by
  unfold leftE keepE goesE
  simp [List.mem_filter]
theorem tell_mem {k : Nat} : ∀ {v : Nat → Int} {B : List (Dt × EvV)}, (∀ x ∈ (tellE k v B).1, ∃ d, (d, x) ∈ B) ∧ ∀ y ∈ (tellE k v B).2, y ∈ B := by
  have hrest : ∀ {v : Nat → Int} {B : List (Dt × EvV)}, ∀ y ∈ restE v B, y ∈ B := fun {v B} y hy => by
    unfold restE at hy
    split at hy
    · refine (mem_left.1 (?_ : y ∈ leftE v B)).1
      unfold remD at hy; split at hy
      · exact List.mem_of_mem_eraseIdx hy
      · exact hy
    · exact (mem_left.1 hy).1
  induction k with
  | zero => intro v B; exact ⟨fun x hx => absurd hx List.not_mem_nil, hrest⟩
  | succ k ih =>
    intro v B
    cases hn : nextE v B with
    | none =>
      have e : tellE (k + 1) v B = ([], restE v B) := by show (match nextE v B with | none => _ | some x => _) = _; rw [hn]
      rw [e]; exact ⟨fun x hx => absurd hx List.not_mem_nil, hrest⟩
    | some y =>
      have e : tellE (k + 1) v B = (y.2 :: (tellE k (setV v y.2) (restE v B)).1, (tellE k (setV v y.2) (restE v B)).2) := by show (match nextE v B with | none => _ | some x => _) = _; rw [hn]
      rw [e]
      refine ⟨fun x hx => ?_, fun z hz => hrest z (ih.2 z hz)⟩
      rcases List.mem_cons.1 hx with rfl | hx
      · exact ⟨y.1, (mem_left.1 (List.mem_of_find?_eq_some hn)).1⟩
      · obtain ⟨d, hd⟩ := ih.1 x hx
        exact ⟨d, hrest _ hd⟩
theorem tell_keep {k : Nat} : ∀ {v : Nat → Int} {B : List (Dt × EvV)}, heldB B → okV v → B.length ≤ k → ∀ y ∈ B, y ∈ (tellE k v B).2 ∨ hasP (setAll v (tellE k v B).1) y.2.r y.2.n := by
  have base : ∀ {v : Nat → Int} {B : List (Dt × EvV)}, heldB B → nextE v B = none → ∀ y ∈ B, y ∈ restE v B ∨ hasP v y.2.r y.2.n := fun {v B} hs hn y hy => by
    have e : restE v B = leftE v B := by unfold restE; rw [hn]
    rw [e]
    by_cases h : hasP v y.1.1 y.1.2
    · right; rw [(hs.2 y hy).1] at h; exact h
    · exact .inl (mem_left.2 ⟨hy, h⟩)
  induction k with
  | zero =>
    intro v B hs hv hl y hy
    have hB : B = [] := List.eq_nil_of_length_eq_zero (by omega)
    rw [hB] at hy; exact absurd hy List.not_mem_nil
  | succ k ih =>
    intro v B hs hv hl y hy
    have heach := fun {j x} => tell_each (k := k + 1) (v := v) hs (j := j) (x := x)
    cases hn : nextE v B with
    | none =>
      have e : tellE (k + 1) v B = ([], restE v B) := by show (match nextE v B with | none => _ | some x => _) = _; rw [hn]
      rw [e]; exact base hs hn y hy
    | some x =>
      have e : tellE (k + 1) v B = (x.2 :: (tellE k (setV v x.2) (restE v B)).1, (tellE k (setV v x.2) (restE v B)).2) := by show (match nextE v B with | none => _ | some x => _) = _; rw [hn]
      have hlt := rest_lt hn hs
      have hm := mem_left.1 (List.mem_of_find?_eq_some hn)
      obtain ⟨hx1, hx2, hx3⟩ := hs.2 x hm.1
      have hall := all_le (v := v) (l := (tellE (k + 1) v B).1) hv fun j z hz => heach hz
      by_cases hh : hasP v y.2.r y.2.n
      · exact .inr (has_le hall.1 hh)
      by_cases hxy : y = x
      · right; subst hxy
        refine hall.2 _ ?_
        rw [e]; exact List.mem_cons_self
      rw [e]
      have hyr : y ∈ restE v B := by
        have hyl : y ∈ leftE v B := mem_left.2 ⟨hy, by rw [(hs.2 y hy).1]; exact hh⟩
        have e2 : restE v B = remD (leftE v B) x.1 := by unfold restE; rw [hn]
        rw [e2]
        obtain ⟨d, z⟩ := y
        refine (mem_rem (held_left hs).1 x.1 d z).2 ⟨fun hd => hxy ?_, hyl⟩
        obtain ⟨d2, z2⟩ := x
        simp only at hd; subst hd
        rw [sorted_one hs.1 hy hm.1]
      exact ih (held_rest hs) (okV_set hv hx2) (by omega) y hyr
theorem told_keep {v : Nat → Int} {B : List (Dt × EvV)} (hs : heldB B) (hv : okV v) : ∀ y ∈ B, y ∈ (toldE v B).2 ∨ hasP (setAll v (toldE v B).1) y.2.r y.2.n := tell_keep hs hv (Nat.le_refl _)
/-- Of a list of events that may be seen one behind the other no two have one dot. -/
theorem each_dot {S : List EvV} (hS : eachB zeroV S) {x y : EvV} (hx : x ∈ S) (hy : y ∈ S) (h : dotE x = dotE y) : x = y := by
  have key : ∀ (i j : Nat) (a b : EvV), S[i]? = some a → S[j]? = some b → i < j → dotE a ≠ dotE b := fun i j a b ha hb hij e => by
    obtain ⟨h1, h2, h3⟩ := hS j b hb
    have hall := all_le (v := zeroV) zeroV_ok (each_take hS j)
    have hok : okV (setAll zeroV (S.take j)) := okV_all zeroV_ok fun z hz => by
      obtain ⟨q, hq⟩ := List.mem_iff_getElem?.1 hz
      exact (each_take hS j q z hq).2.2
    have hn := may_next hok h2 h1
    have hm : a ∈ S.take j := List.mem_iff_getElem?.2 ⟨i, by rw [List.getElem?_take, if_pos hij]; exact ha⟩
    have := (hall.2 a hm).2
    simp only [dotE, Prod.mk.injEq] at e
    rw [e.1, e.2] at this
    omega
  obtain ⟨i, hi⟩ := List.mem_iff_getElem?.1 hx
  obtain ⟨j, hj⟩ := List.mem_iff_getElem?.1 hy
  rcases Nat.lt_trichotomy i j with h1 | h1 | h1
  · exact absurd h (key i j x y hi hj h1)
  · subst h1; rw [hi] at hj; cases hj; rfl
  · exact absurd h.symm (key j i y x hj hi h1)
structure AllI (S : List EvV) (v : Nat → Int) (B : List (Dt × EvV)) : Prop where
  held : heldB B
  ok : okV v
  mem : ∀ y ∈ B, y.2 ∈ S
  lo : ∀ i, 0 ≤ v i
  hi : ∀ i, v i ≤ setAll zeroV S i
  next : nextE v B = none
  left : leftE v B = B
theorem all0 {S : List EvV} (hS : eachB zeroV S) : AllI S zeroV [] := ⟨held_nil, zeroV_ok, fun y h => absurd h List.not_mem_nil, fun _ => Int.le_refl _, fun i => (all_le zeroV_ok hS).1 i, rfl, rfl⟩
theorem set_hi {u : Nat → Int} {l : List EvV} : ∀ {v : Nat → Int}, (∀ i, v i ≤ u i) → (∀ x ∈ l, hasP u x.r x.n) → ∀ i, setAll v l i ≤ u i := fun {v} h1 h2 i => by
  rcases setAll_cases l v i with h | ⟨x, hx, hr, h⟩
  · rw [h]; exact h1 i
  · rw [h, ← hr]; exact (h2 x hx).2
theorem come_in {S : List EvV} (hS : eachB zeroV S) (hl : S.length ≤ 64) {v : Nat → Int} {B : List (Dt × EvV)} (h : AllI S v B) {e : EvV} (he : e ∈ S) :
    (hasP v e.r e.n ∨ (dotE e, e) ∈ comeE e v B) ∧ (∀ y ∈ B, y ∈ comeE e v B) ∧ ∀ y ∈ comeE e v B, y.2 ∈ S := by
  obtain ⟨j, hj⟩ := List.mem_iff_getElem?.1 he
  obtain ⟨_, hr, ho⟩ := hS j e hj
  unfold comeE
  by_cases hh : hasP v e.r e.n
  · rw [if_neg fun hc => hc.2.1 hh]; exact ⟨.inl hh, fun y hy => hy, h.mem⟩
  by_cases hd : hereD B (dotE e) = false
  · have hn := (here_not h.held.1).1 hd
    have hlt : B.length < 64 := by
      have hnd : (dotE e :: B.map (·.1)).Nodup := by
        refine List.nodup_cons.2 ⟨fun hm => ?_, ?_⟩
        · obtain ⟨y, hy, e1⟩ := List.mem_map.1 hm
          obtain ⟨d, z⟩ := y
          simp only at e1; subst e1
          exact hn z hy
        · have := sorted_map.1 h.held.1
          exact List.Pairwise.imp (fun {a b} (hab : dlt a b) (e : a = b) => by subst e; exact dlt_irr _ hab) this
      have := nodup_le (s := S.map dotE) hnd fun d hd => by
        rcases List.mem_cons.1 hd with rfl | hd
        · exact List.mem_map.2 ⟨e, he, rfl⟩
        · obtain ⟨y, hy, rfl⟩ := List.mem_map.1 hd
          rw [(h.held.2 y hy).1]
          exact List.mem_map.2 ⟨y.2, h.mem y hy, rfl⟩
      simp only [List.length_cons, List.length_map] at this
      omega
    rw [if_pos ⟨hr, hh, hd, hlt⟩]
    refine ⟨.inr ((mem_put h.held.1 _ _ _ _).2 (.inl ⟨rfl, rfl⟩)), fun y hy => ?_, fun y hy => ?_⟩
    · obtain ⟨d, z⟩ := y
      exact (mem_put h.held.1 _ _ _ _).2 (.inr ⟨fun e1 => hn z (e1 ▸ hy), hy⟩)
    · obtain ⟨d, z⟩ := y
      rcases (mem_put h.held.1 _ _ _ _).1 hy with ⟨_, rfl⟩ | ⟨_, hy⟩
      · exact he
      · exact h.mem _ hy
  · rw [if_neg fun hc => hd hc.2.2.1]
    obtain ⟨x, hx⟩ := (here_mem h.held.1).1 (by simpa using hd)
    have e1 : dotE e = dotE x := (h.held.2 _ hx).1
    have e2 : e = x := each_dot hS he (h.mem _ hx) e1
    refine ⟨.inr ?_, fun y hy => hy, h.mem⟩
    rw [← e2] at hx; exact hx
theorem all_step {S : List EvV} (hS : eachB zeroV S) (hl : S.length ≤ 64) {v : Nat → Int} {B : List (Dt × EvV)} (h : AllI S v B) {e : EvV} (he : e ∈ S) {out : List EvV} {B' : List (Dt × EvV)} (ht : toldE v (comeE e v B) = (out, B')) :
    AllI S (setAll v out) B' ∧ (∀ c, c = e ∨ hasP v c.r c.n ∨ (dotE c, c) ∈ B → hasP (setAll v out) c.r c.n ∨ (dotE c, c) ∈ B') ∧ sumN (setAll v out) 16 = sumN v 16 + out.length := by
  obtain ⟨j, hj⟩ := List.mem_iff_getElem?.1 he
  obtain ⟨_, hr, ho⟩ := hS j e hj
  have hC := held_come (e := e) (v := v) h.held ho
  obtain ⟨c1, c2, c3⟩ := come_in hS hl h he
  have hk := told_keep hC h.ok
  have hm := tell_mem (k := (comeE e v B).length) (v := v) (B := comeE e v B)
  have hm' : (∀ x ∈ (toldE v (comeE e v B)).1, ∃ d, (d, x) ∈ comeE e v B) ∧ ∀ y ∈ (toldE v (comeE e v B)).2, y ∈ comeE e v B := hm
  have heach : eachB v (toldE v (comeE e v B)).1 := fun j x hx => told_each hC hx
  have hend := told_end (v := v) hC
  have hth := told_held (v := v) hC
  rw [ht] at hk hm' heach hend hth
  simp only at hk hm' heach hend hth
  have hall := all_le h.ok heach
  have hS2 := all_le zeroV_ok hS
  refine ⟨⟨hth, okV_all h.ok fun x hx => ?_, fun y hy => c3 y (hm'.2 y hy), fun i => Int.le_trans (h.lo i) (hall.1 i), set_hi h.hi fun x hx => ?_, hend.1, hend.2⟩, fun c hc => ?_, sum_each h.ok heach⟩
  · obtain ⟨q, hq⟩ := List.mem_iff_getElem?.1 hx
    exact (heach q x hq).2.2
  · obtain ⟨d, hd⟩ := hm'.1 x hx
    exact hS2.2 x (c3 _ hd)
  · have hB : hasP v c.r c.n ∨ (dotE c, c) ∈ comeE e v B := by
      rcases hc with rfl | hc | hc
      · exact c1
      · exact .inl hc
      · exact .inr (c2 _ hc)
    rcases hB with hB | hB
    · exact .inl (has_le hall.1 hB)
    · exact (hk _ hB).symm
theorem all_seen {S : List EvV} (hS : eachB zeroV S) {v : Nat → Int} {B : List (Dt × EvV)} (h : AllI S v B) (hc : ∀ c ∈ S, hasP v c.r c.n ∨ (dotE c, c) ∈ B) : ∀ c ∈ S, hasP v c.r c.n := by
  have key : ∀ (j : Nat) (x : EvV), S[j]? = some x → hasP v x.r x.n := by
    intro j
    induction j using Nat.strongRecOn with
    | ind j ih =>
      intro x hx
      rcases hc x (List.mem_of_getElem? hx) with h1 | h1
      · exact h1
      · refine Classical.byContradiction fun hn => ?_
        obtain ⟨h2, h3, h4⟩ := hS j x hx
        have hle : ∀ i, setAll zeroV (S.take j) i ≤ v i := set_hi h.lo fun y hy => by
          obtain ⟨q, hq⟩ := List.mem_iff_getElem?.1 hy
          rw [List.getElem?_take] at hq
          split at hq
          · exact ih q (by omega) y hq
          · cases hq
        have hok : okV (setAll zeroV (S.take j)) := okV_all zeroV_ok fun z hz => by
          obtain ⟨q, hq⟩ := List.mem_iff_getElem?.1 hz
          exact (each_take hS j q z hq).2.2
        have hnx := may_next hok h3 h2
        have hlt : v x.r.toNat < x.n := by
          rcases Int.lt_or_le (v x.r.toNat) x.n with h5 | h5
          · exact h5
          · exact absurd ⟨h3.1, h5⟩ hn
        have hv1 : x.n = v x.r.toNat + 1 := by have := hle x.r.toNat; omega
        have hmay : mayB x v = true := by
          unfold mayB at h2 ⊢
          rw [Bool.and_eq_true] at h2 ⊢
          refine ⟨?_, mostB_iff.2 fun i hi => Int.le_trans (mostB_iff.1 h2.2 i hi) (hle i)⟩
          have e1 : v x.r.toNat = setAll zeroV (S.take j) x.r.toNat := by omega
          rw [e1]; exact h2.1
        have hnn := h.next
        unfold nextE at hnn
        rw [h.left, List.find?_eq_none] at hnn
        exact hnn _ h1 hmay
  intro c hcm
  obtain ⟨j, hj⟩ := List.mem_iff_getElem?.1 hcm
  exact key j c hj
theorem all_end {S : List EvV} (hS : eachB zeroV S) {v : Nat → Int} {B : List (Dt × EvV)} (h : AllI S v B) (hc : ∀ c ∈ S, hasP v c.r c.n ∨ (dotE c, c) ∈ B) {many : Int} (hm : sumN v 16 = many) :
    vList v = vList (setAll zeroV S) ∧ many = S.length ∧ B = [] := by
  have hs := all_seen hS h hc
  have heq : ∀ i, v i = setAll zeroV S i := fun i => Int.le_antisymm (h.hi i) (set_hi h.lo hs i)
  refine ⟨vList_inj.2 fun i _ => heq i, ?_, ?_⟩
  · have := sum_each zeroV_ok hS
    rw [sumN_zero, ← sumN_congr (v := v) fun i _ => heq i] at this
    omega
  · refine List.eq_nil_iff_forall_not_mem.2 fun y hy => ?_
    have h1 := hs y.2 (h.mem y hy)
    have h2 : y ∈ leftE v B := by rw [h.left]; exact hy
    refine (mem_left.1 h2).2 ?_
    rw [(h.held.2 y hy).1]; exact h1

set_option maxHeartbeats 8000000

theorem cmpV_fn (v : Nat → Int) : Spc Try.prog 43 [.ex (aggV v), .ex (aggV v)] fun _ => .ex (vi 0) := by
  have hm : mostB v v = true := mostB_iff.2 fun i _ => Int.le_refl _
  refine Spc.intro Try.func43 rfl (Nat.le_of_ble_eq_true rfl) fun w0 => ?_
  have hI := hIb w0
  have hA := Own.below w0
  refine J.heap0 1000 (newB w0) ?_
  repeat (refine J.seq (J.region mixed hI (by kernel_rfl) ?_))
  refine Plan.boxC (key := 1000) rfl rfl rfl (by intro _ e; cases e; decide) rfl rfl hA fun a => ?_
  refine Plan.boxC (key := 1000) rfl rfl rfl (by intro _ e; cases e; decide) rfl rfl hA fun b => ?_
  repeat (first | refine Plan.assign rfl rfl rfl rfl ?_ | refine J.seq (J.region mixed hI (by kernel_rfl) ?_))
  refine Plan.loadAggC (key := 1000) (q := 0) (vs := vList v) rfl rfl rfl rfl rfl rfl obj_whole Try.underlying42 rfl (by kernel_rfl) (by decide) ?_
  refine Plan.loadAggC (key := 1000) (q := 1) (vs := vList v) rfl rfl rfl rfl rfl rfl obj_whole Try.underlying42 rfl (by kernel_rfl) (by decide) ?_
  refine Plan.call (B := w0.heap.size) rfl rfl rfl (most_fn v v) Try.func68 rfl rfl (hBb w0) (by repeat (first | exact Opnds.nil | refine Opnds.cons rfl (by exact Sub.refl _) ?_)) ?_
  refine Plan.loadAggC (key := 1000) (q := 1) (vs := vList v) rfl rfl rfl rfl rfl rfl obj_whole Try.underlying42 rfl (by kernel_rfl) (by decide) ?_
  refine Plan.loadAggC (key := 1000) (q := 0) (vs := vList v) rfl rfl rfl rfl rfl rfl obj_whole Try.underlying42 rfl (by kernel_rfl) (by decide) ?_
  refine Plan.call (B := w0.heap.size) rfl rfl rfl (most_fn v v) Try.func68 rfl rfl (hBb w0) (by repeat (first | exact Opnds.nil | refine Opnds.cons rfl (by exact Sub.refl _) ?_)) ?_
  rw [hm]
  repeat (first | refine Plan.move rfl rfl rfl rfl ?_ | refine Plan.assign rfl rfl rfl rfl ?_ | refine Plan.pick rfl rfl rfl rfl rfl ?_ | refine J.seq (J.region mixed hI (by kernel_rfl) ?_) | refine J.seq (J.seq (J.region mixed hI (by kernel_rfl) ?_)) | refine J.condT rfl ?_)
  exact J.ret (Nrm.ret1 rfl (fun _ h => h) rfl fun B _ => Sub.refl _)
def uEnc (u : Nat) : List Value := [.int .u64 u]
theorem uEnc_len (u : Nat) : (uEnc u).length = 1 := rfl
abbrev uRow (l : List Nat) : Fa := row 1 (l.flatMap uEnc)
theorem eltU : Elt Try.prog 93 94 (.int .u64 0) 1 8 := Elt.mk' Try.underlying93 (by kernel_rfl) rfl (by decide) (by decide)
def alA (w0 : World) (l : List EvV) (ord : List Nat) (c : Nat) (s : Nat × List EvV × Option Addr × Nat) : Env :=
  [(0, old w0 (evsC l)), (1, old w0 (uRow ord)), (5, .ex (.slice s.2.2.1 s.2.1.length s.2.2.2)), (6, .ex (ptr c)), (27, .ex (vi l.length)), (28, .ex (vi s.1)),
   (1000, heap (newB w0) [obj c (vList (setAll zeroV s.2.1)), rowEv s.2.2.1 s.2.1.length s.2.2.2 (s.2.1.flatMap EvV.enc)])]
structure AlS where
  i : Nat
  come : List EvV
  C : Option Addr
  cc : Nat
  left : List EvV
  L : Option Addr
  lc : Nat
abbrev lefEv (A : Option Addr) (l : List EvV) (c : Nat) : Chunk := lefC 86 26 A l.length c (l.flatMap EvV.enc)
def alB (w0 : World) (ord : List Nat) (c : Nat) (set : List EvV) (S : Option Addr) (sc : Nat) (i : Nat) (come : List EvV) (C : Option Addr) (cc : Nat) (left : List EvV) (L : Option Addr) (lc : Nat) : Env :=
  [(1, old w0 (uRow ord)), (5, .ex (.slice S set.length sc)), (6, .ex (ptr c)), (8, .ex (.slice C come.length cc)), (9, .ex (.slice L left.length lc)), (69, .ex (vi ord.length)), (70, .ex (vi i)),
   (1000, heap (newB w0) [obj c (vList (setAll zeroV set)), rowEv S set.length sc (set.flatMap EvV.enc), rowEv C come.length cc (come.flatMap EvV.enc), lefEv L left lc])]
def alM (w0 : World) (c : Nat) (set : List EvV) (S : Option Addr) (sc : Nat) (s : AlS) : Env :=
  [(5, .ex (.slice S set.length sc)), (6, .ex (ptr c)), (8, .ex (.slice s.C s.come.length s.cc)), (9, .ex (.slice s.L s.left.length s.lc)),
   (1000, heap (newB w0) [obj c (vList (setAll zeroV set)), rowEv S set.length sc (set.flatMap EvV.enc), rowEv s.C s.come.length s.cc (s.come.flatMap EvV.enc), lefEv s.L s.left s.lc])]
def alOk (set : List EvV) (s : AlS) : Prop := s.come.length ≤ s.i ∧ s.i ≤ 150 ∧ s.left.length ≤ 64 ∧ (∀ x ∈ s.come, x ∈ set) ∧ (∀ x ∈ s.left, x ∈ set) ∧ ∀ x ∈ set, x ∈ s.come ∨ x ∈ s.left
def alC (w0 : World) (c β cv : Nat) (set : List EvV) (S : Option Addr) (sc : Nat) (come : List EvV) (C : Option Addr) (cc : Nat) (i : Nat) (many : Int) (v : Nat → Int) (B : List (Dt × EvV)) : Env :=
  [(5, .ex (.slice S set.length sc)), (6, .ex (ptr c)), (8, .ex (.slice C come.length cc)), (12, .ex (ptr β)), (13, .ex (ptr cv)), (14, .ex (vi many)), (117, .ex (vi come.length)), (118, .ex (vi i)),
   (1000, heap (newB w0) [obj c (vList (setAll zeroV set)), rowEv S set.length sc (set.flatMap EvV.enc), rowEv C come.length cc (come.flatMap EvV.enc), bagCE β B, obj cv (vList v)])]
def alK (w0 : World) (c β cv : Nat) (set : List EvV) (S : Option Addr) (sc : Nat) (come : List EvV) (C : Option Addr) (cc : Nat) (i : Nat) (many : Int) (v : Nat → Int) (B : List (Dt × EvV)) (out : List EvV) (O : Option Addr) (oc : Nat) (k : Nat) : Env :=
  [(5, .ex (.slice S set.length sc)), (6, .ex (ptr c)), (8, .ex (.slice C come.length cc)), (12, .ex (ptr β)), (13, .ex (ptr cv)), (14, .ex (vi many)), (117, .ex (vi come.length)), (118, .ex (vi i)), (16, .ex (.slice O out.length oc)), (133, .ex (vi out.length)), (134, .ex (vi k)),
   (1000, heap (newB w0) [obj c (vList (setAll zeroV set)), rowEv S set.length sc (set.flatMap EvV.enc), rowEv C come.length cc (come.flatMap EvV.enc), bagCE β B, obj cv (vList (setAll v (out.take k))), rowEv O out.length oc (out.flatMap EvV.enc)])]
theorem flat_cut (L : List EvV) {k : Nat} (hk : k < L.length) : (L.flatMap EvV.enc).take (k * 26) ++ (L.flatMap EvV.enc).drop ((k + 1) * 26) = (L.take k ++ L.drop (k + 1)).flatMap EvV.enc := by
  have h1 : (L.flatMap EvV.enc).take (k * 26) = (L.take k).flatMap EvV.enc := by
    rw [flat_split L k, List.take_left' (by rw [flat_len encE, List.length_take, Nat.min_eq_left (by omega)])]
  have h2 : (L.flatMap EvV.enc).drop ((k + 1) * 26) = (L.drop (k + 1)).flatMap EvV.enc := by
    rw [flat_split L (k + 1), List.drop_left' (by rw [flat_len encE, List.length_take, Nat.min_eq_left (by omega)])]
  rw [h1, h2, List.flatMap_append]
theorem mem_cut {L : List EvV} {k : Nat} (hk : k < L.length) {x : EvV} (h : x ∈ L) : x = L[k] ∨ x ∈ L.take k ++ L.drop (k + 1) := by
  rw [← List.take_append_drop k L] at h
  rcases List.mem_append.1 h with h | h
  · exact .inr (List.mem_append.2 (.inl h))
  · rw [← List.getElem_cons_drop (h := hk)] at h
    rcases List.mem_cons.1 h with h | h
    · exact .inl h
    · exact .inr (List.mem_append.2 (.inr h))
theorem cut_mem {L : List EvV} {k : Nat} {x : EvV} (h : x ∈ L.take k ++ L.drop (k + 1)) : x ∈ L := by
  rcases List.mem_append.1 h with h | h
  · exact List.mem_of_mem_take h
  · exact List.mem_of_mem_drop h
theorem evs_one (l : List EvV) : ∀ u ∈ l.flatMap EvV.enc, u.oneCell' = true := fun u hu => by
  obtain ⟨x, _, hx⟩ := List.mem_flatMap.1 hu
  exact encE_one x u hx
theorem each_snoc {S : List EvV} (hS : eachB zeroV S) {e : EvV} (h1 : rightP e) (h2 : mayB e (setAll zeroV S) = true) (h3 : e.okV) : eachB zeroV (S ++ [e]) := fun j x hx => by
  rcases Nat.lt_or_ge j S.length with h | h
  · rw [List.getElem?_append_left h] at hx
    rw [List.take_append_of_le_length (by omega)]
    exact hS j x hx
  · rw [List.getElem?_append_right h] at hx
    have hj : j = S.length := by
      have := (List.getElem?_eq_some_iff.1 hx).1
      simp only [List.length_singleton] at this; omega
    subst hj
    simp only [Nat.sub_self, List.getElem?_cons_zero, Option.some.injEq] at hx
    subst hx
    rw [List.take_left' rfl]
    exact ⟨h2, h1, h3⟩
theorem setOk {S : List EvV} (hS : eachB zeroV S) : ∀ x ∈ S, x.okV := fun x hx => by
  obtain ⟨q, hq⟩ := List.mem_iff_getElem?.1 hx
  exact (hS q x hq).2.2
theorem sumN_nonneg {v : Nat → Int} (h : ∀ i, 0 ≤ v i) : ∀ k, 0 ≤ sumN v k
  | 0 => Int.le_refl _
  | k + 1 => by have := sumN_nonneg h k; have := h k; simp only [sumN]; omega
theorem sumN_le {v w : Nat → Int} (h : ∀ i, v i ≤ w i) : ∀ k, sumN v k ≤ sumN w k
  | 0 => Int.le_refl _
  | k + 1 => by have := sumN_le h k; have := h k; simp only [sumN]; omega
def kdsUint : List Kd := [.int .u64]
theorem uints_of : ∀ (ls : List (List Value)), (∀ c ∈ ls, CellsOk kdsUint c) → ∃ l : List Nat, l.length = ls.length ∧ ls.flatten = l.flatMap uEnc ∧ ∀ u ∈ l, u ≤ 18446744073709551615
  | [], _ => ⟨[], rfl, rfl, by simp⟩
  | c :: r, h => by
    obtain ⟨v, r', e1, h1, h2⟩ := h c List.mem_cons_self
    have e2 : r' = [] := h2
    subst e2
    obtain ⟨x, rfl, hx⟩ := h1
    obtain ⟨l, g1, g2, g3⟩ := uints_of r (fun c hc => h c (List.mem_cons_of_mem _ hc))
    have hx2 : 0 ≤ x ∧ x ≤ 18446744073709551615 := by
      have k0 := hx
      have k1 : IntKind.min .u64 = 0 := by decide +kernel
      have k2 : IntKind.max .u64 = 18446744073709551615 := by decide +kernel
      simp [Lit.wf] at k0; omega
    refine ⟨x.toNat :: l, by simp [g1], ?_, fun u hu => ?_⟩
    · rw [e1, List.flatten_cons, List.flatMap_cons, g2]
      have : ((x.toNat : Nat) : Int) = x := by omega
      unfold uEnc; rw [this]
    · rcases List.mem_cons.1 hu with rfl | hu
      · omega
      · exact g3 u hu
theorem lawAll (l : List EvV) (ord : List Nat) (hl : l.length ≤ 9223372036854775807) (hol : ord.length ≤ 9223372036854775807) (hok : ∀ e ∈ l, e.okV) (hou : ∀ u ∈ ord, u ≤ 18446744073709551615) :
    Spc Try.prog 11 [evsC l, uRow ord] fun _ => .ex (.bool true) := by
  refine Spc.intro Try.func11 rfl (Nat.le_of_ble_eq_true rfl) fun w0 => ?_
  have hI := hIb w0
  have hA := Own.below w0
  refine J.heap0 1000 (newB w0) ?_
  repeat (first | refine Plan.assign rfl rfl rfl rfl ?_ | refine J.seq (J.region mixed hI (by kernel_rfl) ?_) | refine J.seq (J.seq (J.region mixed hI (by kernel_rfl) ?_)))
  refine Plan.call (B := w0.heap.size) rfl rfl rfl (awakeC_fn) Try.func35 rfl rfl (hBb w0) (by repeat (exact Opnds.nil)) ?_
  repeat (first | refine Plan.move rfl rfl rfl rfl ?_ | refine Plan.un rfl rfl rfl rfl rfl ?_)
  refine Plan.lenRow (m := l.length) rfl rfl rfl rfl (Sub.old fun _ h => h) Try.underlying73 (by rw [flat_len encE]) (by decide) ?_
  repeat (first | refine Plan.pick rfl rfl rfl rfl rfl ?_ | (refine Plan.ints rfl rfl rfl rfl rfl rfl ?_; (skip)))
  refine J.condD rfl (fun hc => ?_) (fun hc => ?_)
  · repeat (refine J.seq (J.region mixed hI (by kernel_rfl) ?_))
    refine Plan.call (B := w0.heap.size) rfl rfl rfl (awakeC_fn) Try.func35 rfl rfl (hBb w0) (by repeat (exact Opnds.nil)) ?_
    repeat (refine Plan.assign rfl rfl rfl rfl ?_)
    exact J.ret (Nrm.ret1 rfl (fun _ h => h) rfl fun B _ => Sub.refl _)
  have hsm : l.length ≤ 64 := by omega
  repeat (first | refine Plan.assign rfl rfl rfl rfl ?_ | refine J.seq (J.region mixed hI (by kernel_rfl) ?_) | refine J.skip ?_)
  refine Plan.allocC (key := 1000) (z := .agg (vList zeroV).toArray) rfl rfl rfl (by intro _ e; cases e; decide) (by kernel_rfl) rfl hA fun c => ?_
  repeat (first | refine Plan.move rfl rfl rfl rfl ?_ | refine J.seq (J.seq (J.region mixed hI (by kernel_rfl) ?_)))
  refine Plan.lenRow (m := l.length) rfl rfl rfl rfl (Sub.old fun _ h => h) Try.underlying73 (by rw [flat_len encE]) (by decide) ?_
  repeat (refine Plan.move rfl rfl rfl rfl ?_)
  refine J.nilRow (key := 1000) 86 26 rfl ?_
  refine J.block (J.loop (alA w0 l ord c) (fun s => s.1 ≤ l.length ∧ s.2.1.length ≤ s.1 ∧ eachB zeroV s.2.1) (fun s => l.length - s.1) (0, [], none, 0) ⟨Nat.zero_le _, Nat.le_refl _, fun j x h => by simp at h⟩ ?_ ?_)
  · repeat (first | exact Weak.nil | refine Weak.cons rfl (Sub.refl _) ?_)
  rintro ⟨i, set, S, sc⟩ ⟨hi, hsl, hS⟩
  simp only at hi hsl hS
  change J _ _ _ _ _ [(0, old w0 (evsC l)), (1, old w0 (uRow ord)), (5, .ex (.slice S set.length sc)), (6, .ex (ptr c)), (27, .ex (vi l.length)), (28, .ex (vi i)), (1000, heap (newB w0) [obj c (vList (setAll zeroV set)), rowEv S set.length sc (set.flatMap EvV.enc)])]
  repeat (first | (refine Plan.ints rfl rfl rfl rfl rfl rfl ?_; (skip)) | refine J.seq (J.region mixed hI (by kernel_rfl) ?_))
  refine J.seq (J.condD rfl (fun hc => ?_) (fun hc => ?_))
  · have hlt : i < l.length := by omega
    have hx : l[i]? = some l[i] := List.getElem?_eq_getElem hlt
    have hgd : l.getD i ev0 = l[i] := by rw [List.getD_eq_getElem?_getD, hx]; rfl
    have hoi := hok _ (List.getElem_mem hlt)
    repeat (refine J.skip ?_)
    refine J.seq (J.block ?_)
    repeat (first | refine Plan.move rfl rfl rfl rfl ?_ | refine Plan.assign rfl rfl rfl rfl ?_ | refine J.seq (J.region mixed hI (by kernel_rfl) ?_))
    refine Plan.indexAddr EvV.enc 26 l ev0 rfl rfl rfl rfl (Sub.old fun _ h => h) rfl eltE encE (by omega) (by omega) ?_
    rw [Int.toNat_natCast, hgd]
    refine Plan.loadAggP rfl rfl rfl rfl (Sub.refl _) Try.underlying86 rfl (by rw [encE]; kernel_rfl) ?_
    refine Plan.call (B := w0.heap.size) rfl rfl rfl (refRight_fn l[i] hoi) Try.func41 rfl rfl (hBb w0) (by repeat (first | exact Opnds.nil | refine Opnds.cons rfl (by exact Sub.refl _) ?_)) ?_
    by_cases hr : rightP l[i]
    · have hr0 : 0 ≤ l[i].r ∧ l[i].r < 16 := ⟨hr.1.1, hr.1.2.1⟩
      refine Plan.boolv (y := true) (decide_eq_true hr) ?_
      repeat (refine Plan.move rfl rfl rfl rfl ?_)
      refine Plan.indexAddr EvV.enc 26 l ev0 rfl rfl rfl rfl (Sub.old fun _ h => h) rfl eltE encE (by omega) (by omega) ?_
      rw [Int.toNat_natCast, hgd]
      refine Plan.loadAggP rfl rfl rfl rfl (Sub.refl _) Try.underlying86 rfl (by rw [encE]; kernel_rfl) ?_
      refine Plan.loadAggC (key := 1000) (q := 0) (vs := vList (setAll zeroV set)) rfl rfl rfl rfl rfl rfl obj_whole Try.underlying42 rfl (by kernel_rfl) (by decide) ?_
      refine Plan.call (B := w0.heap.size) rfl rfl rfl (refMay_fn l[i] (setAll zeroV set) hr0) Try.func42 rfl rfl (hBb w0) (by repeat (first | exact Opnds.nil | refine Opnds.cons rfl (by exact Sub.refl _) ?_)) ?_
      cases hmay : mayB l[i] (setAll zeroV set) with
      | true =>
        have hset : (vList (setAll zeroV set)).set l[i].r.toNat (vi l[i].n) = vList (setAll zeroV (set ++ [l[i]])) := by
          rw [setAll_snoc]
          exact set_vL _ _ (by omega)
        repeat (first | refine Plan.move rfl rfl rfl rfl ?_ | refine Plan.pick rfl rfl rfl rfl rfl ?_ | refine J.seq (J.region mixed hI (by kernel_rfl) ?_) | refine J.condT rfl ?_)
        refine Plan.indexAddr EvV.enc 26 l ev0 rfl rfl rfl rfl (Sub.old fun _ h => h) rfl eltE encE (by omega) (by omega) ?_
        rw [Int.toNat_natCast, hgd]
        refine Plan.loadAggP rfl rfl rfl rfl (Sub.refl _) Try.underlying86 rfl (by rw [encE]; kernel_rfl) ?_
        refine Plan.lit (B := 0) rfl rfl rfl eltE rfl (fun _ _ => Nat.zero_le _) rfl (fun v hv => by rw [List.mem_singleton.1 hv]; rfl) (by decide) ?_
        refine Plan.appendC (key := 1000) (q := 1) (news := EvV.enc l[i]) rfl rfl rfl rfl rfl Sub.own eltE (by intro _ e; cases e; decide) rfl hA rfl (encE_one l[i]) (by simp only [flat_len encE, encE]; omega) fun S1 m1 sc1 hm1 => ?_
        have hk1 : m1 = (set ++ [l[i]]).length := by rw [flat_len encE, encE] at hm1; simp only [List.length_append, List.length_cons, List.length_nil] at hm1 ⊢; omega
        subst hk1
        have hrow1 : set.flatMap EvV.enc ++ EvV.enc l[i] = (set ++ [l[i]]).flatMap EvV.enc := by simp only [List.flatMap_append, List.flatMap_cons, List.flatMap_nil, List.append_nil]
        rw [hrow1]
        repeat (first | refine Plan.move rfl rfl rfl rfl ?_ | refine Plan.assign rfl rfl rfl rfl ?_ | refine J.region mixed hI (by kernel_rfl) ?_)
        refine Plan.indexAddr EvV.enc 26 l ev0 rfl rfl rfl rfl (Sub.old fun _ h => h) rfl eltE encE (by omega) (by omega) ?_
        rw [Int.toNat_natCast, hgd]
        refine Plan.fieldPtr (us := [vi l[i].r, vi l[i].n]) rfl rfl rfl rfl (Sub.refl _) Try.underlying86 rfl (by kernel_rfl) rfl ?_
        refine Plan.fieldPtr (us := [vi l[i].r]) rfl rfl rfl rfl (Sub.refl _) Try.underlying28 rfl (by kernel_rfl) rfl ?_
        refine Plan.load rfl rfl rfl rfl (Sub.refl _) Try.underlying3 rfl ?_
        repeat (refine Plan.move rfl rfl rfl rfl ?_)
        refine Plan.indexAddr EvV.enc 26 l ev0 rfl rfl rfl rfl (Sub.old fun _ h => h) rfl eltE encE (by omega) (by omega) ?_
        rw [Int.toNat_natCast, hgd]
        refine Plan.fieldPtr (us := [vi l[i].r, vi l[i].n]) rfl rfl rfl rfl (Sub.refl _) Try.underlying86 rfl (by kernel_rfl) rfl ?_
        refine Plan.fieldPtr (us := [vi l[i].n]) rfl rfl rfl rfl (Sub.refl _) Try.underlying28 rfl (by kernel_rfl) rfl ?_
        refine Plan.load rfl rfl rfl rfl (Sub.refl _) Try.underlying3 rfl ?_
        refine Plan.indexArr (off := l[i].r.toNat) (len := 16) (sz := 1) rfl rfl rfl rfl rfl Try.underlying42 (by kernel_rfl) hr0.1 (by omega) (by simp) ?_
        refine Plan.storeC (key := 1000) (q := 0) rfl rfl rfl rfl rfl rfl (by simp [Value.cells, Value.oneCell']) (by kernel_rfl) rfl hA rfl (obj_pat1 (show l[i].r.toNat < 16 by omega)) ?_
        rw [hset]
        repeat (first | refine Plan.move rfl rfl rfl rfl ?_ | (refine Plan.ints rfl rfl rfl rfl rfl rfl ?_; (refine Plan.int (i64r (by omega)) ?_)) | refine J.region mixed hI (by kernel_rfl) ?_)
        refine Plan.int (y := ((i + 1 : Nat) : Int)) (by omega) ?_
        repeat (fail)
        refine Nrm.next (ok := fun s : Nat × List EvV × Option Addr × Nat => s.1 ≤ l.length ∧ s.2.1.length ≤ s.1 ∧ eachB zeroV s.2.1) (s := (i, set, S, sc)) (i + 1, set ++ [l[i]], S1, sc1) ⟨by simp only; omega, by simp only [List.length_append, List.length_cons, List.length_nil]; omega, each_snoc hS hr hmay hoi⟩ (by simp only; omega) ?_
        repeat (first | exact Weak.nil | refine Weak.cons rfl (Sub.refl _) ?_)
      | false =>
        repeat (first | refine Plan.move rfl rfl rfl rfl ?_ | refine Plan.pick rfl rfl rfl rfl rfl ?_ | (refine Plan.ints rfl rfl rfl rfl rfl rfl ?_; (refine Plan.int (i64r (by omega)) ?_)) | refine J.region mixed hI (by kernel_rfl) ?_ | refine J.condF rfl ?_ | refine J.skip ?_)
        refine Plan.int (y := ((i + 1 : Nat) : Int)) (by omega) ?_
        repeat (fail)
        refine Nrm.next (ok := fun s : Nat × List EvV × Option Addr × Nat => s.1 ≤ l.length ∧ s.2.1.length ≤ s.1 ∧ eachB zeroV s.2.1) (s := (i, set, S, sc)) (i + 1, set, S, sc) ⟨by simp only; omega, by simp only; omega, hS⟩ (by simp only; omega) ?_
        repeat (first | exact Weak.nil | refine Weak.cons rfl (Sub.refl _) ?_)
    · refine Plan.boolv (y := false) (decide_eq_false hr) ?_
      repeat (first | refine Plan.move rfl rfl rfl rfl ?_ | refine Plan.skip rfl rfl ?_ | refine Plan.pick rfl rfl rfl rfl rfl ?_ | (refine Plan.ints rfl rfl rfl rfl rfl rfl ?_; (refine Plan.int (i64r (by omega)) ?_)) | refine J.region mixed hI (by kernel_rfl) ?_ | refine J.condF rfl ?_ | refine J.skip ?_)
      refine Plan.int (y := ((i + 1 : Nat) : Int)) (by omega) ?_
      repeat (fail)
      refine Nrm.next (ok := fun s : Nat × List EvV × Option Addr × Nat => s.1 ≤ l.length ∧ s.2.1.length ≤ s.1 ∧ eachB zeroV s.2.1) (s := (i, set, S, sc)) (i + 1, set, S, sc) ⟨by simp only; omega, by simp only; omega, hS⟩ (by simp only; omega) ?_
      repeat (first | exact Weak.nil | refine Weak.cons rfl (Sub.refl _) ?_)
  refine J.exit ?_
  have hs64 : set.length ≤ 64 := by omega
  repeat (first | refine Plan.assign rfl rfl rfl rfl ?_ | refine J.seq (J.region mixed hI (by kernel_rfl) ?_))
  refine Plan.litC (key := 1000) (vs := []) rfl rfl rfl eltE rfl (by intro _ e; cases e; decide) rfl hA rfl (by simp) (by decide) fun L0 m0 lc0 hm0 => ?_
  have hz0 : (flat ([] : List Value)) = [] := rfl
  rw [hz0] at hm0 ⊢
  obtain rfl : m0 = 0 := by simp at hm0; omega
  repeat (refine Plan.move rfl rfl rfl rfl ?_)
  refine Plan.seeC (t := 66) (key := 1000) (q := 1) (by kernel_rfl) hI rfl rfl rfl (fun w F h => row_rowH h) ?_
  refine Plan.appendC (key := 1000) (q := 2) (news := set.flatMap EvV.enc) rfl rfl rfl rfl rfl (Sub.refl _) eltE (by intro _ e; cases e; decide) rfl hA rfl (evs_one set) (by rw [flat_len encE]; simp only [List.length_nil]; omega) fun L1 m1 lc1 hm1 => ?_
  obtain rfl : m1 = set.length := by rw [flat_len encE] at hm1; simp only [List.length_nil] at hm1; omega
  rw [List.nil_append]
  repeat (refine Plan.assign rfl rfl rfl rfl ?_)
  refine J.nilRow (key := 1000) 86 26 rfl ?_
  refine J.regroup (key := 1000) [obj c (vList (setAll zeroV set)), rowEv S set.length sc (set.flatMap EvV.enc), lefEv L1 set lc1, rowEv none 0 0 []] rfl (Ent.sep (Ent.refl _) (Ent.sep (Ent.refl _) (Ent.sep row_lef (Ent.refl _)))) ?_
  refine J.seqMid (alM w0 c set S sc) (alOk set) ?_ ?_
  · repeat (first | refine Plan.move rfl rfl rfl rfl ?_ | refine J.seq (J.region mixed hI (by kernel_rfl) ?_))
    refine Plan.lenRow (m := ord.length) rfl rfl rfl rfl (Sub.old fun _ h => h) Try.underlying93 (by rw [flat_len uEnc_len]) (by decide) ?_
    repeat (refine Plan.move rfl rfl rfl rfl ?_)
    refine J.block (J.loop (fun s : AlS => alB w0 ord c set S sc s.i s.come s.C s.cc s.left s.L s.lc) (fun s => s.i ≤ ord.length ∧ alOk set s) (fun s => ord.length - s.i) ⟨0, [], none, 0, set, L1, lc1⟩ ⟨Nat.zero_le _, Nat.le_refl _, by simp only; omega, hs64, fun x h => absurd h List.not_mem_nil, fun x h => h, fun x h => .inr h⟩ ?_ ?_)
    · refine Weak.cons rfl (Sub.refl _) (Weak.cons rfl (Sub.refl _) (Weak.cons rfl (Sub.refl _) (Weak.cons rfl (Sub.refl _) (Weak.cons rfl (Sub.refl _) (Weak.cons rfl (Sub.refl _) (Weak.cons rfl (Sub.refl _) (Weak.cons rfl (Sub.heap ?_) Weak.nil)))))))
      exact Ent.pickC [0, 1, 3, 2] rfl rfl
    rintro ⟨i, come, C, cc, left, L, lc⟩ ⟨hi, hok1⟩
    obtain ⟨hcl, hi150, hll, hcm, hlm, hcv⟩ := id hok1
    simp only at hi hcl hi150 hll hcm hlm hcv
    change J _ _ _ _ _ (alB w0 ord c set S sc i come C cc left L lc)
    refine J.factC (key := 1000) (q := 3) rfl rfl (fun w F h => lef_room h) fun hrm => ?_
    repeat (first | (refine Plan.ints rfl rfl rfl rfl rfl rfl ?_; (skip)) | refine J.seq (J.region mixed hI (by kernel_rfl) ?_))
    refine J.seq (J.condD rfl (fun hc => ?_) (fun hc => ?_))
    · have hlt : i < ord.length := by omega
      have hxo : ord[i]? = some ord[i] := List.getElem?_eq_getElem hlt
      have hgo : ord.getD i 0 = ord[i] := by rw [List.getD_eq_getElem?_getD, hxo]; rfl
      have hub := hou _ (List.getElem_mem hlt)
      repeat (refine J.skip ?_)
      refine J.seq (J.block ?_)
      repeat (first | refine Plan.move rfl rfl rfl rfl ?_ | refine Plan.assign rfl rfl rfl rfl ?_ | (refine Plan.ints rfl rfl rfl rfl rfl rfl ?_; (skip)) | refine J.seq (J.region mixed hI (by kernel_rfl) ?_) | refine J.seq (J.seq (J.region mixed hI (by kernel_rfl) ?_)))
      by_cases h150 : i = 150
      · refine Plan.boolv (y := true) (decide_eq_true (by omega)) ?_
        repeat (first | refine Plan.skip rfl rfl ?_ | refine Plan.pick rfl rfl rfl rfl rfl ?_ | refine J.condT rfl ?_)
        refine J.exit ?_
        exact Nrm.mid ⟨i, come, C, cc, left, L, lc⟩ hok1 (by repeat (first | exact Weak.nil | refine Weak.cons rfl (Sub.refl _) ?_))
      refine Plan.boolv (y := false) (decide_eq_false (by omega)) ?_
      repeat (refine Plan.move rfl rfl rfl rfl ?_)
      refine Plan.lenE rfl rfl rfl rfl Try.underlying73 ?_
      repeat (first | refine Plan.pick rfl rfl rfl rfl rfl ?_ | (refine Plan.ints rfl rfl rfl rfl rfl rfl ?_; (skip)))
      by_cases hle : left.length = 0
      · refine Plan.boolv (y := true) (decide_eq_true (by omega)) ?_
        repeat (refine J.condT rfl ?_)
        refine J.exit ?_
        exact Nrm.mid ⟨i, come, C, cc, left, L, lc⟩ hok1 (by repeat (first | exact Weak.nil | refine Weak.cons rfl (Sub.refl _) ?_))
      refine Plan.boolv (y := false) (decide_eq_false (by omega)) ?_
      obtain ⟨g, rfl⟩ := hrm.2.2.2 (by omega)
      repeat (first | refine Plan.move rfl rfl rfl rfl ?_ | refine J.seq (J.region mixed hI (by kernel_rfl) ?_) | refine J.condF rfl ?_ | refine J.skip ?_)
      refine Plan.indexAddr uEnc 1 ord 0 rfl rfl rfl rfl (Sub.old fun _ h => h) rfl eltU uEnc_len (by omega) (by omega) ?_
      rw [Int.toNat_natCast, hgo]
      refine Plan.load rfl rfl rfl rfl (Sub.refl _) Try.underlying94 rfl ?_
      repeat (refine Plan.move rfl rfl rfl rfl ?_)
      refine Plan.lenE rfl rfl rfl rfl Try.underlying73 ?_
      refine Plan.convInt rfl rfl rfl rfl (by exact Try.underlying3) (by exact Try.underlying94) ?_
      refine Plan.int (y := ((left.length : Nat) : Int)) (u64r (by omega)) ?_
      refine Plan.remI rfl rfl rfl rfl rfl (by omega) ?_
      obtain ⟨kk, hkk⟩ : ∃ kk, kk = ord[i] % left.length := ⟨_, rfl⟩
      have hkl : kk < left.length := by rw [hkk]; exact Nat.mod_lt _ (by omega)
      rw [← hkk]
      refine Plan.convInt rfl rfl rfl rfl (by exact Try.underlying94) (by exact Try.underlying3) ?_
      refine Plan.int (i64r (by omega)) ?_
      have hat := flat_ev left hkl
      have hra : ((left.flatMap EvV.enc).drop (kk * 26)).take left[kk].enc.length = left[kk].enc := by rw [hat, List.take_left]
      repeat (first | refine Plan.move rfl rfl rfl rfl ?_ | refine Plan.assign rfl rfl rfl rfl ?_ | refine J.seq (J.region mixed hI (by kernel_rfl) ?_))
      refine Plan.indexC (off := kk * 26) rfl rfl rfl rfl rfl eltE hkl (by omega) ?_
      refine Plan.loadAggC (key := 1000) (q := 3) (off := kk * 26) (vs := left[kk].enc) rfl rfl rfl rfl rfl rfl (lef_reads hra) Try.underlying86 rfl (by rw [encE]; kernel_rfl) (by decide) ?_
      refine Plan.lit (B := 0) rfl rfl rfl eltE rfl (fun _ _ => Nat.zero_le _) rfl (fun v hv => by rw [List.mem_singleton.1 hv]; rfl) (by decide) ?_
      refine Plan.appendC (key := 1000) (q := 2) (news := EvV.enc left[kk]) rfl rfl rfl rfl rfl Sub.own eltE (by intro _ e; cases e; decide) rfl hA rfl (encE_one left[kk]) (by simp only [flat_len encE, encE]; omega) fun C1 m1 cc1 hm1 => ?_
      have hk1 : m1 = (come ++ [left[kk]]).length := by rw [flat_len encE, encE] at hm1; simp only [List.length_append, List.length_cons, List.length_nil] at hm1 ⊢; omega
      subst hk1
      have hrow1 : come.flatMap EvV.enc ++ EvV.enc left[kk] = (come ++ [left[kk]]).flatMap EvV.enc := by simp only [List.flatMap_append, List.flatMap_cons, List.flatMap_nil, List.append_nil]
      rw [hrow1]
      have hcl1 : (come ++ [left[kk]]).length = come.length + 1 := by rw [List.length_append]; rfl
      have hcm1 : ∀ x ∈ come ++ [left[kk]], x ∈ set := fun x hx => by
        rcases List.mem_append.1 hx with hx | hx
        · exact hcm x hx
        · rw [List.mem_singleton.1 hx]; exact hlm _ (List.getElem_mem hkl)
      repeat (first | refine Plan.move rfl rfl rfl rfl ?_ | refine Plan.assign rfl rfl rfl rfl ?_ | refine J.seq (J.region mixed hI (by kernel_rfl) ?_))
      refine Plan.indexAddr uEnc 1 ord 0 rfl rfl rfl rfl (Sub.old fun _ h => h) rfl eltU uEnc_len (by omega) (by omega) ?_
      rw [Int.toNat_natCast, hgo]
      refine Plan.load rfl rfl rfl rfl (Sub.refl _) Try.underlying94 rfl ?_
      refine Plan.remI (q := 3) rfl rfl rfl rfl rfl (by decide) ?_
      repeat ((refine Plan.ints rfl rfl rfl rfl rfl rfl ?_; (skip)))
      refine J.condD rfl (fun hc3 => ?_) (fun hc3 => ?_)
      · repeat (first | refine Plan.move rfl rfl rfl rfl ?_ | refine J.region mixed hI (by kernel_rfl) ?_)
        refine Plan.slice3N (b0 := kk) (c0 := kk) rfl rfl rfl rfl eltE rfl rfl (Nat.le_refl _) (by omega) ?_
        repeat (first | refine Plan.move rfl rfl rfl rfl ?_ | (refine Plan.ints rfl rfl rfl rfl rfl rfl ?_; (refine Plan.int (i64r (by omega)) ?_)))
        refine Plan.int (y := ((kk + 1 : Nat) : Int)) (by omega) ?_
        refine Plan.sliceLoB (a0 := kk + 1) rfl rfl rfl rfl eltE rfl (by omega) ?_
        refine Plan.appendCut (key := 1000) (q := 3) (kk := kk) rfl rfl rfl (by intro _ e; cases e; decide) rfl rfl eltE rfl hA rfl hkl (evs_one left) (by simp only [flat_len encE]; omega) fun L2 lc2 => ?_
        obtain ⟨left2, hl2⟩ : ∃ left2, left2 = left.take kk ++ left.drop (kk + 1) := ⟨_, rfl⟩
        have hll2 : left.length - 1 = left2.length := by rw [hl2, List.length_append, List.length_take, List.length_drop]; omega
        rw [flat_cut left hkl, ← hl2, hll2]
        repeat (first | refine Plan.move rfl rfl rfl rfl ?_ | refine Plan.assign rfl rfl rfl rfl ?_ | (refine Plan.ints rfl rfl rfl rfl rfl rfl ?_; (refine Plan.int (i64r (by omega)) ?_)) | refine J.region mixed hI (by kernel_rfl) ?_)
        refine Plan.int (y := ((i + 1 : Nat) : Int)) (by omega) ?_
        repeat (fail)
        refine Nrm.next (ok := fun s : AlS => s.i ≤ ord.length ∧ alOk set s) (s := ⟨i, come, C, cc, left, some ⟨g, 0, none⟩, lc⟩) ⟨i + 1, come ++ [left[kk]], C1, cc1, left2, L2, lc2⟩ ⟨by simp only; omega, by simp only; omega, by simp only; omega, by simp only; omega, hcm1, fun x hx => hlm x (cut_mem (hl2 ▸ hx)), fun x hx => ?_⟩ (by simp only; omega) ?_
        · rcases hcv x hx with h | h
          · exact .inl (List.mem_append.2 (.inl h))
          · rcases mem_cut hkl h with h | h
            · exact .inl (List.mem_append.2 (.inr (by rw [h]; exact List.mem_singleton.2 rfl)))
            · exact .inr (by rw [hl2]; exact h)
        repeat (first | exact Weak.nil | refine Weak.cons rfl (Sub.refl _) ?_)
      · repeat (first | refine Plan.move rfl rfl rfl rfl ?_ | (refine Plan.ints rfl rfl rfl rfl rfl rfl ?_; (refine Plan.int (i64r (by omega)) ?_)) | refine J.region mixed hI (by kernel_rfl) ?_ | refine J.skip ?_)
        refine Plan.int (y := ((i + 1 : Nat) : Int)) (by omega) ?_
        repeat (fail)
        refine Nrm.next (ok := fun s : AlS => s.i ≤ ord.length ∧ alOk set s) (s := ⟨i, come, C, cc, left, some ⟨g, 0, none⟩, lc⟩) ⟨i + 1, come ++ [left[kk]], C1, cc1, left, some ⟨g, 0, none⟩, lc⟩ ⟨by simp only; omega, by simp only; omega, by simp only; omega, by simp only; omega, hcm1, hlm, fun x hx => ?_⟩ (by simp only; omega) ?_
        · rcases hcv x hx with h | h
          · exact .inl (List.mem_append.2 (.inl h))
          · exact .inr h
        repeat (first | exact Weak.nil | refine Weak.cons rfl (Sub.refl _) ?_)
    refine J.exit ?_
    exact Nrm.mid ⟨i, come, C, cc, left, L, lc⟩ hok1 (by repeat (first | exact Weak.nil | refine Weak.cons rfl (Sub.refl _) ?_))
  rintro ⟨i0, come0, C0, cc0, left, L, lc⟩ ⟨hcl, hi150, hll, hcm, hlm, hcv⟩
  simp only at hcl hi150 hll hcm hlm hcv
  change J _ _ _ _ _ [(5, .ex (.slice S set.length sc)), (6, .ex (ptr c)), (8, .ex (.slice C0 come0.length cc0)), (9, .ex (.slice L left.length lc)), (1000, heap (newB w0) [obj c (vList (setAll zeroV set)), rowEv S set.length sc (set.flatMap EvV.enc), rowEv C0 come0.length cc0 (come0.flatMap EvV.enc), lefEv L left lc])]
  repeat (first | refine Plan.move rfl rfl rfl rfl ?_ | refine J.seq (J.region mixed hI (by kernel_rfl) ?_))
  refine Plan.seeC (t := 113) (key := 1000) (q := 3) (by kernel_rfl) hI rfl rfl rfl (fun w F h => lef_rowH h) ?_
  refine Plan.appendC (key := 1000) (q := 2) (news := left.flatMap EvV.enc) rfl rfl rfl rfl rfl (Sub.refl _) eltE (by intro _ e; cases e; decide) rfl hA rfl (evs_one left) (by simp only [flat_len encE]; omega) fun C m1 cc hm1 => ?_
  obtain ⟨come, hcome⟩ : ∃ come, come = come0 ++ left := ⟨_, rfl⟩
  obtain rfl : m1 = come.length := by simp only [flat_len encE] at hm1; rw [hcome, List.length_append]; omega
  have hrow : come0.flatMap EvV.enc ++ left.flatMap EvV.enc = come.flatMap EvV.enc := by rw [hcome, List.flatMap_append]
  rw [hrow]
  have hcl2 : come.length ≤ 214 := by rw [hcome, List.length_append]; omega
  have hcs : ∀ x ∈ come, x ∈ set := fun x hx => by
    rw [hcome] at hx
    rcases List.mem_append.1 hx with h | h
    · exact hcm x h
    · exact hlm x h
  have hsc : ∀ x ∈ set, x ∈ come := fun x hx => by rw [hcome]; exact List.mem_append.2 (hcv x hx)
  have hallS := setOk hS
  repeat (first | refine Plan.assign rfl rfl rfl rfl ?_ | refine J.seq (J.region mixed hI (by kernel_rfl) ?_))
  refine Plan.callN (key := 1000) rfl rfl rfl (newC_fn) Try.func36 rfl rfl (by intro _ e; cases e; decide) (by repeat (exact Opnds.nil)) rfl hA ?_
  intro β _
  repeat (first | refine Plan.assign rfl rfl rfl rfl ?_ | refine J.seq (J.region mixed hI (by kernel_rfl) ?_))
  refine Plan.allocC (key := 1000) (z := .agg (vList zeroV).toArray) rfl rfl rfl (by intro _ e; cases e; decide) (by kernel_rfl) rfl hA fun cv => ?_
  repeat (first | refine Plan.move rfl rfl rfl rfl ?_ | refine Plan.assign rfl rfl rfl rfl ?_ | refine J.seq (J.region mixed hI (by kernel_rfl) ?_) | refine J.seq (J.seq (J.region mixed hI (by kernel_rfl) ?_)))
  refine Plan.lenE rfl rfl rfl rfl Try.underlying73 ?_
  repeat (refine Plan.move rfl rfl rfl rfl ?_)
  refine J.block (J.loop (fun s : Nat × (Nat → Int) × List (Dt × EvV) => alC w0 c β cv set S sc come C cc s.1 (sumN s.2.1 16) s.2.1 s.2.2) (fun s => s.1 ≤ come.length ∧ AllI set s.2.1 s.2.2 ∧ s.2.2.length ≤ 64 ∧ ∀ x ∈ come.take s.1, hasP s.2.1 x.r x.n ∨ (dotE x, x) ∈ s.2.2) (fun s => come.length - s.1) (0, zeroV, []) ⟨Nat.zero_le _, all0 hS, by simp, fun x h => by simp at h⟩ ?_ ?_)
  · refine Weak.cons rfl (Sub.refl _) (Weak.cons rfl (Sub.refl _) (Weak.cons rfl (Sub.refl _) (Weak.cons rfl (Sub.refl _) (Weak.cons rfl (Sub.refl _) (Weak.cons rfl (Sub.refl _) (Weak.cons rfl (Sub.refl _) (Weak.cons rfl (Sub.refl _) (Weak.cons rfl (Sub.heap ?_) Weak.nil))))))))
    exact Ent.pickC [0, 1, 2, 4, 5] rfl rfl
  rintro ⟨i, v, B⟩ ⟨hi, hAl, hBl, hin⟩
  simp only at hi hAl hBl hin
  have hB := hAl.held
  have hv := hAl.ok
  have hsum0 := sumN_nonneg (v := v) (fun i => hAl.lo i) 16
  have hsum1 : sumN v 16 ≤ set.length := by
    have h1 := sumN_le (v := v) (w := setAll zeroV set) (fun i => hAl.hi i) 16
    have h2 := sum_each zeroV_ok hS
    rw [sumN_zero] at h2; omega
  obtain ⟨many, hmany⟩ : ∃ many, many = sumN v 16 := ⟨_, rfl⟩
  simp only
  rw [← hmany]
  change J _ _ _ _ _ (alC w0 c β cv set S sc come C cc i many v B)
  repeat (first | (refine Plan.ints rfl rfl rfl rfl rfl rfl ?_; (skip)) | refine J.seq (J.region mixed hI (by kernel_rfl) ?_))
  refine J.seq (J.condD rfl (fun hc => ?_) (fun hc => ?_))
  · have hlt : i < come.length := by omega
    have hcis := hcs _ (List.getElem_mem hlt)
    have hoi : come[i].okV := hallS _ hcis
    have hC := held_come (e := come[i]) (v := v) hB hoi
    have hCl := len_come64 (e := come[i]) (v := v) hBl
    have htl := told_len (v := v) hC
    have hte : ∀ {j : Nat} {x : EvV}, (toldE v (comeE come[i] v B)).1[j]? = some x → _ := fun {j x} => told_each (j := j) (x := x) hC
    obtain ⟨hA2, hin2, hsum⟩ := all_step hS hs64 hAl hcis (out := (toldE v (comeE come[i] v B)).1) (B' := (toldE v (comeE come[i] v B)).2) rfl
    refine J.factC (key := 1000) (q := 2) rfl rfl (fun w F h => row_room h) fun hrm => ?_
    obtain ⟨g, rfl⟩ : ∃ g, C = some ⟨g, 0, none⟩ := by
      cases C with
      | none => have := (hrm.2.2.2.1 rfl).1; omega
      | some ad => exact ⟨ad.block, by rw [← hrm.2.2.2.2 ad rfl]⟩
    have hat := flat_ev come hlt
    have hra : ((come.flatMap EvV.enc).drop (i * 26)).take come[i].enc.length = come[i].enc := by rw [hat, List.take_left]
    repeat (refine J.skip ?_)
    refine J.seq (J.block ?_)
    repeat (first | refine Plan.move rfl rfl rfl rfl ?_ | refine Plan.assign rfl rfl rfl rfl ?_ | refine J.seq (J.region mixed hI (by kernel_rfl) ?_))
    refine Plan.indexC (off := i * 26) rfl rfl rfl rfl rfl eltE hlt (by omega) ?_
    refine Plan.loadAggC (key := 1000) (q := 2) (off := i * 26) (vs := come[i].enc) rfl rfl rfl rfl rfl rfl (row_reads hra) Try.underlying86 rfl (by rw [encE]; kernel_rfl) (by decide) ?_
    refine Plan.loadAggC (key := 1000) (q := 4) (vs := vList v) rfl rfl rfl rfl rfl rfl obj_whole Try.underlying42 rfl (by kernel_rfl) (by decide) ?_
    refine Plan.callC (key := 1000) (q := 3) rfl rfl rfl (offer_fn β B hB hBl come[i] hoi v hv) Try.func38 rfl rfl (by intro _ e; cases e; decide) (by repeat (first | exact Opnds.nil | refine Opnds.cons rfl (by exact Sub.refl _) ?_)) rfl hA rfl ?_
    rintro ⟨O, oc⟩ _
    repeat (refine Plan.assign rfl rfl rfl rfl ?_)
    refine J.sepC (key := 1000) (q := 3) rfl rfl ?_
    obtain ⟨out, hout⟩ : ∃ out, out = (toldE v (comeE come[i] v B)).1 := ⟨_, rfl⟩
    obtain ⟨B', hB'⟩ : ∃ B', B' = (toldE v (comeE come[i] v B)).2 := ⟨_, rfl⟩
    rw [← hout, ← hB'] at htl hA2 hin2
    rw [← hout] at hte hsum
    rw [← hout, ← hB']
    repeat (first | refine Plan.move rfl rfl rfl rfl ?_ | refine J.seq (J.region mixed hI (by kernel_rfl) ?_))
    refine Plan.lenE rfl rfl rfl rfl Try.underlying73 ?_
    repeat (first | refine Plan.assign rfl rfl rfl rfl ?_ | (refine Plan.ints rfl rfl rfl rfl rfl rfl ?_; (refine Plan.int (i64r (by omega)) ?_)))
    rw [hmany, ← hsum]
    obtain ⟨many2, hmany2⟩ : ∃ many2, many2 = sumN (setAll v out) 16 := ⟨_, rfl⟩
    rw [← hmany2]
    repeat (first | refine Plan.move rfl rfl rfl rfl ?_ | refine J.seq (J.region mixed hI (by kernel_rfl) ?_))
    refine Plan.lenE rfl rfl rfl rfl Try.underlying73 ?_
    repeat (refine Plan.move rfl rfl rfl rfl ?_)
    refine J.block (J.loop (alK w0 c β cv set S sc come (some ⟨g, 0, none⟩) cc i many2 v B' out O oc) (fun k => k ≤ out.length) (fun k => out.length - k) 0 (Nat.zero_le _) ?_ ?_)
    · repeat (first | exact Weak.nil | refine Weak.cons rfl (Sub.refl _) ?_)
    intro k hk
    repeat (first | (refine Plan.ints rfl rfl rfl rfl rfl rfl ?_; (skip)) | refine J.seq (J.region mixed hI (by kernel_rfl) ?_))
    refine J.seq (J.condD rfl (fun hck => ?_) (fun hck => ?_))
    · have hklt : k < out.length := by omega
      have hxk : out[k]? = some out[k] := List.getElem?_eq_getElem hklt
      obtain ⟨hmay, hrp, hxo⟩ := hte hxk
      have hr0 : 0 ≤ out[k].r ∧ out[k].r < 16 := ⟨hrp.1.1, hrp.1.2.1⟩
      refine J.factC (key := 1000) (q := 5) rfl rfl (fun w F h => row_room h) fun hrm2 => ?_
      obtain ⟨g2, rfl⟩ : ∃ g, O = some ⟨g, 0, none⟩ := by
        cases O with
        | none => have := (hrm2.2.2.2.1 rfl).1; omega
        | some ad => exact ⟨ad.block, by rw [← hrm2.2.2.2.2 ad rfl]⟩
      have hat2 := flat_ev out hklt
      have hrr : (out.flatMap EvV.enc)[k * 26]? = some (vi out[k].r) := by
        have h1 : (out.flatMap EvV.enc)[k * 26]? = ((out.flatMap EvV.enc).drop (k * 26))[0]? := by rw [List.getElem?_drop]; rfl
        rw [h1, hat2]; rfl
      have hrn : (out.flatMap EvV.enc)[k * 26 + 1]? = some (vi out[k].n) := by
        have h1 : (out.flatMap EvV.enc)[k * 26 + 1]? = ((out.flatMap EvV.enc).drop (k * 26))[1]? := by rw [List.getElem?_drop]
        rw [h1, hat2]; rfl
      have hset : (vList (setAll v (out.take k))).set out[k].r.toNat (vi out[k].n) = vList (setAll v (out.take (k + 1))) := by
        rw [List.take_succ_eq_append_getElem hklt, setAll_snoc]
        exact set_vL _ _ (by omega)
      repeat (refine J.skip ?_)
      refine J.seq (J.block ?_)
      repeat (first | refine Plan.move rfl rfl rfl rfl ?_ | refine Plan.assign rfl rfl rfl rfl ?_ | refine J.seq (J.region mixed hI (by kernel_rfl) ?_) | refine J.region mixed hI (by kernel_rfl) ?_)
      refine Plan.indexC (off := k * 26) rfl rfl rfl rfl rfl eltE hklt (by omega) ?_
      refine Plan.fieldC (off := k * 26) rfl rfl rfl rfl (by exact Try.underlying86) rfl (by kernel_rfl) rfl ?_
      refine Plan.fieldC (off := k * 26) rfl rfl rfl rfl (by exact Try.underlying28) rfl (by kernel_rfl) rfl ?_
      refine Plan.loadC (key := 1000) (q := 5) (off := k * 26) rfl rfl rfl rfl rfl rfl (row_reads1 hrr) Try.underlying3 rfl (by decide) ?_
      repeat (refine Plan.move rfl rfl rfl rfl ?_)
      refine Plan.indexC (off := k * 26) rfl rfl rfl rfl rfl eltE hklt (by omega) ?_
      refine Plan.fieldC (off := k * 26) rfl rfl rfl rfl (by exact Try.underlying86) rfl (by kernel_rfl) rfl ?_
      refine Plan.fieldC (off := k * 26 + 1) rfl rfl rfl rfl (by exact Try.underlying28) rfl (by kernel_rfl) rfl ?_
      refine Plan.loadC (key := 1000) (q := 5) (off := k * 26 + 1) rfl rfl rfl rfl rfl rfl (row_reads1 hrn) Try.underlying3 rfl (by decide) ?_
      refine Plan.indexArr (off := out[k].r.toNat) (len := 16) (sz := 1) rfl rfl rfl rfl rfl Try.underlying42 (by kernel_rfl) hr0.1 (by omega) (by simp) ?_
      refine Plan.storeC (key := 1000) (q := 4) rfl rfl rfl rfl rfl rfl (by simp [Value.cells, Value.oneCell']) (by kernel_rfl) rfl hA rfl (obj_pat1 (show out[k].r.toNat < 16 by omega)) ?_
      rw [hset]
      repeat (first | refine Plan.move rfl rfl rfl rfl ?_ | (refine Plan.ints rfl rfl rfl rfl rfl rfl ?_; (refine Plan.int (i64r (by omega)) ?_)) | refine J.region mixed hI (by kernel_rfl) ?_)
      refine Plan.int (y := ((k + 1 : Nat) : Int)) (by omega) ?_
      repeat (fail)
      exact Nrm.next (k + 1) (by omega) (by omega) (by repeat (first | exact Weak.nil | refine Weak.cons rfl (Sub.refl _) ?_))
    have hke : k = out.length := by omega
    subst hke
    refine J.exit ?_
    repeat (first | refine Plan.move rfl rfl rfl rfl ?_ | (refine Plan.ints rfl rfl rfl rfl rfl rfl ?_; (refine Plan.int (i64r (by omega)) ?_)) | refine J.region mixed hI (by kernel_rfl) ?_)
    refine Plan.int (y := ((i + 1 : Nat) : Int)) (by omega) ?_
    repeat (fail)
    rw [hmany2]
    refine Nrm.next (ok := fun s : Nat × (Nat → Int) × List (Dt × EvV) => s.1 ≤ come.length ∧ AllI set s.2.1 s.2.2 ∧ s.2.2.length ≤ 64 ∧ ∀ x ∈ come.take s.1, hasP s.2.1 x.r x.n ∨ (dotE x, x) ∈ s.2.2) (s := (i, v, B)) (i + 1, setAll v out, B') ⟨by simp only; omega, hA2, by simp only; omega, fun x hx => ?_⟩ (by simp only; omega) ?_
    · simp only at hx ⊢
      rw [List.take_succ_eq_append_getElem hlt] at hx
      rcases List.mem_append.1 hx with hx | hx
      · exact hin2 x (.inr (hin x hx))
      · exact hin2 x (.inl (List.mem_singleton.1 hx))
    exact Weak.cons rfl (Sub.refl _) (Weak.cons rfl (Sub.refl _) (Weak.cons rfl (Sub.refl _) (Weak.cons rfl (Sub.refl _) (Weak.cons rfl (Sub.refl _) (Weak.cons rfl (Sub.refl _) (Weak.cons rfl (Sub.refl _) (Weak.cons rfl (Sub.refl _) (Weak.cons rfl (Sub.heap ((Ent.pickC [0, 1, 2, 3, 4] rfl rfl).trans (Ent.sep (Ent.refl _) (Ent.sep (Ent.refl _) (Ent.sep (Ent.refl _) (Ent.sep (Ent.refl _) (Ent.sep (Ent.of_eq (by rw [List.take_length]; rfl)) (Ent.refl _)))))))) Weak.nil))))))))
  have hie : i = come.length := by omega
  subst hie
  rw [List.take_length] at hin
  obtain ⟨hveq, hmS, hB0⟩ := all_end hS hAl (fun x hx => hin x (hsc x hx)) hmany.symm
  have hokS := okV_all zeroV_ok hallS
  subst hB0
  refine J.exit ?_
  repeat (refine J.seq (J.region mixed hI (by kernel_rfl) ?_))
  refine Plan.loadAggC (key := 1000) (q := 4) (vs := vList v) rfl rfl rfl rfl rfl rfl obj_whole Try.underlying42 rfl (by kernel_rfl) (by decide) ?_
  refine Plan.loadAggC (key := 1000) (q := 0) (vs := vList (setAll zeroV set)) rfl rfl rfl rfl rfl rfl obj_whole Try.underlying42 rfl (by kernel_rfl) (by decide) ?_
  refine Plan.eqAgg (m := 9) (l := List.replicate 16 (.int .i64)) (xs := vList v) (ys := vList (setAll zeroV set)) (r := true) rfl rfl rfl rfl rfl (by decide) (by kernel_rfl) (by kernel_rfl) (by kernel_rfl) (vv_cells hv) (vv_cells hokS) formedVV ⟨fun _ => hveq, fun _ => rfl⟩ (.inl ⟨rfl, rfl⟩) ?_
  repeat (refine Plan.move rfl rfl rfl rfl ?_)
  refine Plan.lenE rfl rfl rfl rfl Try.underlying73 ?_
  repeat (first | refine Plan.move rfl rfl rfl rfl ?_ | refine Plan.pick rfl rfl rfl rfl rfl ?_ | (refine Plan.ints rfl rfl rfl rfl rfl rfl ?_; (skip)))
  refine Plan.boolv (y := true) (decide_eq_true hmS) ?_
  repeat (refine Plan.move rfl rfl rfl rfl ?_)
  refine Plan.callR (key := 1000) (B := 0) (q := 3) rfl rfl rfl (lenC_fn β []) Try.func40 rfl rfl (fun _ _ => Nat.zero_le _) (by repeat (first | exact Opnds.nil | refine Opnds.cons rfl (by exact Sub.refl _) ?_)) rfl rfl (by decide) ?_
  repeat (first | refine Plan.move rfl rfl rfl rfl ?_ | refine Plan.pick rfl rfl rfl rfl rfl ?_ | (refine Plan.ints rfl rfl rfl rfl rfl rfl ?_; (skip)))
  refine Plan.loadAggC (key := 1000) (q := 4) (vs := vList v) rfl rfl rfl rfl rfl rfl obj_whole Try.underlying42 rfl (by kernel_rfl) (by decide) ?_
  refine Plan.loadAggC (key := 1000) (q := 0) (vs := vList (setAll zeroV set)) rfl rfl rfl rfl rfl rfl obj_whole Try.underlying42 rfl (by kernel_rfl) (by decide) ?_
  rw [← hveq]
  refine Plan.call (B := w0.heap.size) rfl rfl rfl (cmpV_fn v) Try.func43 rfl rfl (hBb w0) (by repeat (first | exact Opnds.nil | refine Opnds.cons rfl (by exact Sub.refl _) ?_)) ?_
  repeat (first | refine Plan.assign rfl rfl rfl rfl ?_ | refine Plan.pick rfl rfl rfl rfl rfl ?_ | (refine Plan.ints rfl rfl rfl rfl rfl rfl ?_; (skip)))
  exact J.ret (Nrm.ret1 rfl (fun _ h => h) rfl fun B _ => Sub.refl _)
theorem lawAllC (ls os : List (List Value)) (hl : ls.length ≤ 9223372036854775807) (hc : ∀ c ∈ ls, CellsOk kdsEvent c) (hol : os.length ≤ 9223372036854775807) (hoc : ∀ c ∈ os, CellsOk kdsUint c) :
    Spc Try.prog 11 [row 26 ls.flatten, row 1 os.flatten] fun _ => .ex (.bool true) := by
  obtain ⟨l, h1, h2, h3⟩ := evs_of ls hc
  obtain ⟨o, h4, h5, h6⟩ := uints_of os hoc
  rw [h2, h5]
  exact lawAll l o (by omega) (by omega) h3 h6
end Go.Proofs.Ytkhcjedlopiicaa
