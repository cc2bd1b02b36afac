/-
  Events that come too early: Offer.
-/
import Derived.Test.YtkhcjedlopiicaaCauNext
set_option linter.unusedSimpArgs false
set_option linter.unusedVariables false
set_option maxRecDepth 20000
namespace Go.Proofs.Ytkhcjedlopiicaa
open Go.Free Go.RowKit Go.Proofs
set_option maxHeartbeats 8000000

def setV (v : Nat → Int) (e : EvV) : Nat → Int := fun j => if j = e.r.toNat then e.n else v j
theorem okV_set {v : Nat → Int} {e : EvV} (hv : okV v) (he : e.okV) : okV (setV v e) := fun i hi => by
  unfold setV; split
  · exact he.2.1
  · exact hv i hi
theorem rest_lt {v : Nat → Int} {B : List (Dt × EvV)} {x : Dt × EvV} (h : nextE v B = some x) (hs : heldB B) : (restE v B).length < B.length := by
  have hm : x ∈ leftE v B := List.mem_of_find?_eq_some h
  have h1 : (leftE v B).length ≤ B.length := List.length_filter_le _ _
  have h2 : (restE v B).length = (leftE v B).length - 1 := by
    unfold restE; rw [h]
    show (remD _ _).length = _
    rw [len_rem, if_pos ((here_mem (held_left hs).1).2 ⟨x.2, hm⟩)]
  have h3 : 0 < (leftE v B).length := List.length_pos_of_mem hm
  omega
/-- What is told, and what is left: k steps at most. -/
def tellE : Nat → (Nat → Int) → List (Dt × EvV) → List EvV × List (Dt × EvV)
  | 0, v, B => ([], restE v B)
  | k + 1, v, B => match nextE v B with
    | none => ([], restE v B)
    | some x => (x.2 :: (tellE k (setV v x.2) (restE v B)).1, (tellE k (setV v x.2) (restE v B)).2)
theorem tell_more {v : Nat → Int} {B : List (Dt × EvV)} {k : Nat} (hs : heldB B) (h : B.length ≤ k) : tellE (k + 1) v B = tellE k v B := by
  induction k generalizing v B with
  | zero =>
    have hB : B = [] := List.eq_nil_of_length_eq_zero (by omega)
    subst hB
    rfl
  | succ k ih =>
    show (match nextE v B with | none => _ | some x => _) = (match nextE v B with | none => _ | some x => _)
    cases hn : nextE v B with
    | none => rfl
    | some x =>
      have := rest_lt hn hs
      simp only
      rw [ih (held_rest hs) (by omega)]
def toldE (v : Nat → Int) (B : List (Dt × EvV)) : List EvV × List (Dt × EvV) := tellE B.length v B
theorem tell_enough {v : Nat → Int} {B : List (Dt × EvV)} (hs : heldB B) : ∀ k, B.length ≤ k → tellE k v B = toldE v B := by
  intro k h
  obtain ⟨m, rfl⟩ : ∃ m, k = B.length + m := ⟨k - B.length, by omega⟩
  induction m with
  | zero => rfl
  | succ m ih => rw [show B.length + (m + 1) = (B.length + m) + 1 by omega, tell_more hs (by omega), ih (by omega)]
theorem told_none {v : Nat → Int} {B : List (Dt × EvV)} (hs : heldB B) (h : nextE v B = none) : toldE v B = ([], restE v B) := by
  rw [← tell_enough hs (B.length + 1) (by omega)]
  show (match nextE v B with | none => _ | some x => _) = _
  rw [h]
theorem told_some {v : Nat → Int} {B : List (Dt × EvV)} {x : Dt × EvV} (hs : heldB B) (h : nextE v B = some x) : toldE v B = (x.2 :: (toldE (setV v x.2) (restE v B)).1, (toldE (setV v x.2) (restE v B)).2) := by
  have hlt := rest_lt h hs
  rw [← tell_enough hs (B.length + 1) (by omega)]
  show (match nextE v B with | none => _ | some x => _) = _
  rw [h]
  simp only
  rw [tell_enough (held_rest hs) B.length (by omega)]
/-- What a buffer has, as an event came. -/
def comeE (e : EvV) (v : Nat → Int) (B : List (Dt × EvV)) : List (Dt × EvV) :=
  if rightP e ∧ ¬ hasP v e.r e.n ∧ hereD B (dotE e) = false ∧ B.length < 64 then putD B (dotE e) e else B
theorem held_come {e : EvV} {v : Nat → Int} {B : List (Dt × EvV)} (h : heldB B) (he : e.okV) : heldB (comeE e v B) := by
  unfold comeE; split
  · rename_i hc
    refine ⟨sorted_put h.1 _ _, fun x hx => ?_⟩
    rcases (mem_put h.1 (dotE e) e x.1 x.2).1 hx with ⟨h1, h2⟩ | h1
    · exact ⟨by rw [h1, h2], h2 ▸ he, h2 ▸ hc.1⟩
    · exact h.2 _ h1.2
  · exact h
theorem len_come {e : EvV} {v : Nat → Int} {B : List (Dt × EvV)} : (comeE e v B).length ≤ B.length + 1 := by
  unfold comeE; split
  · exact len_put_le _ _ _
  · omega
theorem told_len {v : Nat → Int} {B : List (Dt × EvV)} (hs : heldB B) : (toldE v B).1.length + (toldE v B).2.length ≤ B.length := by
  have key : ∀ k v B, heldB B → (tellE k v B).1.length + (tellE k v B).2.length ≤ B.length := by
    intro k
    induction k with
    | zero =>
      intro v B hs
      show 0 + (restE v B).length ≤ _
      have h1 : (leftE v B).length ≤ B.length := List.length_filter_le _ _
      unfold restE; split
      · rw [len_rem]; split <;> omega
      · omega
    | succ k ih =>
      intro v B hs
      show (match nextE v B with | none => ([], restE v B) | some x => _).1.length + (match nextE v B with | none => ([], restE v B) | some x => _).2.length ≤ _
      cases hn : nextE v B with
      | none =>
        show 0 + (restE v B).length ≤ _
        have h1 : (leftE v B).length ≤ B.length := List.length_filter_le _ _
        unfold restE; rw [hn]; simp only; omega
      | some x =>
        have h1 := rest_lt hn hs
        have h2 := ih (setV v x.2) (restE v B) (held_rest hs)
        simp only [List.length_cons]; omega
  exact key _ v B hs
def ofM (w0 : World) (F : Nat → Prop) (β b : Nat) (v : Nat → Int) (C : List (Dt × EvV)) : Env :=
  [(0, .ex (ptr β)), (5, .ex (ptr b)), (1000, heap (fun b => F b ∨ w0.heap.size ≤ b) [bagCE β C, obj b (vList v)])]
abbrev rowEv (B : Option Addr) (n cap : Nat) (xs : List Value) : Chunk := rowC 86 26 B n cap xs
def ofE (w0 : World) (F : Nat → Prop) (β b : Nat) (v : Nat → Int) (C : List (Dt × EvV)) (out : List EvV) (O : Option Addr) (oc : Nat) : Env :=
  [(0, .ex (ptr β)), (5, .ex (ptr b)), (9, .ex (.slice O out.length oc)), (1000, heap (fun b => F b ∨ w0.heap.size ≤ b) [bagCE β C, obj b (vList v), rowEv O out.length oc (out.flatMap EvV.enc)])]
theorem offer_fn (β : Nat) (B : List (Dt × EvV)) (hB : heldB B) (hl : B.length ≤ 64) (e : EvV) (he : e.okV) (v : Nat → Int) (hv : okV v) :
    SpcC Try.prog 38 [.ex (ptr β), .ex (aggE e), .ex (aggV v)] (bagCE β B) (fun _ : Option Addr × Nat => True) (fun x => .ex (.slice x.1 (toldE v (comeE e v B)).1.length x.2))
      (fun x => sepC (bagCE β (toldE v (comeE e v B)).2) (rowEv x.1 (toldE v (comeE e v B)).1.length x.2 ((toldE v (comeE e v B)).1.flatMap EvV.enc))) := by
  have hC := held_come (e := e) (v := v) hB he
  have hCl := len_come (e := e) (v := v) (B := B)
  refine SpcC.intro Try.func38 rfl (Nat.le_of_ble_eq_true rfl) fun w0 F => ?_
  have hI := kept_below F w0
  have hA := Own.kept F w0
  repeat (refine J.seq (J.region mixed hI (by kernel_rfl) ?_))
  refine Plan.boxC (key := 1000) rfl rfl rfl (by intro _ e; cases e; decide) rfl rfl hA fun a => ?_
  refine Plan.boxC (key := 1000) rfl rfl rfl (by intro _ e; cases e; decide) rfl rfl hA fun b => ?_
  repeat (refine Plan.assign rfl rfl rfl rfl ?_)
  refine J.regroup (H' := [bagCE β B, obj a e.enc, obj b (vList v)]) (key := 1000) rfl (Ent.refl (allC [bagCE β B, obj a e.enc, obj b (vList v)])) ?_
  refine J.seq (J.seq (J.region mixed hI (by kernel_rfl) ?_))
  repeat (first | refine Plan.move rfl rfl rfl rfl ?_ | refine Plan.eqlPtr rfl rfl rfl rfl (by kernel_rfl) ?_)
  refine J.condF rfl ?_
  refine J.skip ?_
  have hI0 := hI
  have hA0 := hA
  refine J.frame (key := 1000) 1 rfl rfl fun hAa => ?_
  have hI1 := framed_I (β := a) (cs := e.enc) hI0
  have hA1 := framed_own (β := a) (cs := e.enc) hA0
  refine J.frameC (key := 1000) 0 rfl rfl fun F0 hAF => ?_
  have hI := framedC_I (c := bagCE β B) (F := F0) hI1
  have hA := framedC_own (c := bagCE β B) (F := F0) hA1
  refine J.seq (J.loose2 [(0, ptr β), (1, ptr β), (2, ptr β), (3, ptr a), (4, aggD e.r e.n), (5, .tuple #[aggE (valD B (dotE e) ev0), .bool (hereD B (dotE e))]), (6, .tuple #[aggE (valD B (dotE e) ev0), .bool (hereD B (dotE e))]), (7, aggE (valD B (dotE e) ev0)), (8, .bool (hereD B (dotE e)))] [(0, .ex (ptr β)), (4, .ex (ptr a))] mixed hI rfl rfl rfl (by kernel_rfl) (by kernel_rfl) (by kernel_rfl) rfl rfl (fun ⟨_, _, h⟩ => h) (fun _ _ _ _ h => h) (by repeat (first | exact Weak.nil | refine Weak.cons rfl (Sub.refl _) ?_)) ?_ ?_)
  · refine Gives.cons [(0, .ex (ptr β)), (4, .ex (ptr a))] (by kernel_rfl) rfl (by kernel_rfl) (Plan.move rfl rfl rfl rfl (Plan.gives rfl)) ?_
    refine Gives.cons [(15, .ex (ptr β)), (0, .ex (ptr β)), (4, .ex (ptr a))] (by kernel_rfl) rfl (by kernel_rfl) (Plan.nilOk rfl rfl rfl rfl (Plan.gives rfl)) ?_
    refine Gives.cons [(15, .ex (ptr β)), (16, .ex (ptr β)), (0, .ex (ptr β)), (4, .ex (ptr a))] (by kernel_rfl) rfl (by kernel_rfl) (Plan.fieldC rfl rfl rfl rfl (by exact Try.underlying80) rfl (by kernel_rfl) rfl (Plan.gives rfl)) ?_
    refine Gives.cons [(0, .ex (ptr β)), (4, .ex (ptr a))] (by kernel_rfl) rfl (by kernel_rfl) (Plan.fieldC rfl rfl rfl rfl (by exact Try.underlying86) rfl (by kernel_rfl) rfl (Plan.gives rfl)) ?_
    refine Gives.cons [(18, .ex (ptr a)), (0, .ex (ptr β)), (4, .ex (ptr a))] (by kernel_rfl) rfl (by kernel_rfl) (Plan.loadAggI (vs := [vi e.r, vi e.n]) rfl rfl rfl rfl (fun w h => framed_cell (off := 0) rfl w h.1) Try.underlying28 rfl (by kernel_rfl) (Plan.gives rfl)) ?_
    refine Gives.cons [(15, .ex (ptr β)), (16, .ex (ptr β)), (17, .ex (ptr β)), (18, .ex (ptr a)), (19, .ex (aggD e.r e.n)), (0, .ex (ptr β)), (4, .ex (ptr a))] (by kernel_rfl) rfl (by kernel_rfl) (Plan.callRI (B := 0) rfl rfl rfl (get_fnE β B hB.1 (by omega) (dotE e)) Try.func59 rfl rfl (fun _ _ => Nat.zero_le _) (Opnds.cons rfl (Sub.refl _) (Opnds.cons rfl (Sub.refl _) Opnds.nil)) (fun w h => ⟨F0, h.2⟩) (Plan.weakE [(20, .ex (.tuple #[aggE (valD B (dotE e) ev0), .bool (hereD B (dotE e))]))] (Weak.cons rfl Sub.tupEx Weak.nil) (Plan.gives rfl))) ?_
    refine Gives.cons [(15, .ex (ptr β)), (16, .ex (ptr β)), (17, .ex (ptr β)), (18, .ex (ptr a)), (19, .ex (aggD e.r e.n)), (20, .ex (.tuple #[aggE (valD B (dotE e) ev0), .bool (hereD B (dotE e))])), (0, .ex (ptr β)), (4, .ex (ptr a))] (by kernel_rfl) rfl (by kernel_rfl) (Plan.move rfl rfl rfl rfl (Plan.gives rfl)) ?_
    refine Gives.cons [(15, .ex (ptr β)), (16, .ex (ptr β)), (17, .ex (ptr β)), (18, .ex (ptr a)), (19, .ex (aggD e.r e.n)), (20, .ex (.tuple #[aggE (valD B (dotE e) ev0), .bool (hereD B (dotE e))])), (14, .ex (.tuple #[aggE (valD B (dotE e) ev0), .bool (hereD B (dotE e))])), (0, .ex (ptr β)), (4, .ex (ptr a))] (by kernel_rfl) rfl (by kernel_rfl) (Plan.extractEx rfl rfl rfl rfl rfl (Plan.gives rfl)) ?_
    exact Gives.cons [(15, .ex (ptr β)), (16, .ex (ptr β)), (17, .ex (ptr β)), (18, .ex (ptr a)), (19, .ex (aggD e.r e.n)), (20, .ex (.tuple #[aggE (valD B (dotE e) ev0), .bool (hereD B (dotE e))])), (14, .ex (.tuple #[aggE (valD B (dotE e) ev0), .bool (hereD B (dotE e))])), (0, .ex (ptr β)), (4, .ex (ptr a))] (by kernel_rfl) rfl (by kernel_rfl) (Plan.extractEx rfl rfl rfl rfl rfl (Plan.gives rfl)) Gives.nil
  repeat (refine Plan.assign rfl rfl rfl rfl ?_)
  refine Plan.allocC (key := 1000) (z := .agg ev0.enc.toArray) rfl rfl rfl (by intro _ e; cases e; decide) (by kernel_rfl) rfl hA fun c => ?_
  refine Plan.storeC (key := 1000) (q := 1) (off := 0) rfl rfl rfl rfl rfl rfl (fun u hu => encE_one _ u hu) (by show _ = some (EvV.enc _).toArray.size; kernel_rfl) rfl hA rfl (obj_pat (Nat.le_of_ble_eq_true rfl)) ?_
  repeat (refine Plan.assign rfl rfl rfl rfl ?_)
  refine J.unframeC (key := 1000) hAF rfl ?_
  refine J.unframe (key := 1000) hAa rfl ?_
  have hI := hI0
  have hA := hA0
  refine J.regroup (key := 1000) [bagCE β B, obj a e.enc, obj b (vList v)] rfl (Ent.pickC [2, 3, 0] rfl rfl) ?_
  refine J.seqMid (σ := Unit) (fun _ => ofM w0 F β b v (comeE e v B)) (fun _ => True) ?_ ?_
  · repeat (refine J.seq (J.region mixed hI (by kernel_rfl) ?_))
    refine Plan.loadAggC (key := 1000) (q := 1) (vs := e.enc) rfl rfl rfl rfl rfl rfl obj_whole Try.underlying86 rfl (by rw [encE]; kernel_rfl) (by decide) ?_
    refine Plan.call (B := 0) rfl rfl rfl (right_fn e he) Try.func60 rfl rfl (fun _ _ => Nat.zero_le _) (by repeat (first | exact Opnds.nil | refine Opnds.cons rfl (by exact Sub.refl _) ?_)) ?_
    by_cases hR : rightP e
    rotate_left
    · have hc : comeE e v B = B := by unfold comeE; rw [if_neg (fun h => hR h.1)]
      rw [hc]
      refine Plan.boolv (y := false) (decide_eq_false hR) ?_
      repeat (first | refine Plan.move rfl rfl rfl rfl ?_ | refine Plan.skip rfl rfl ?_ | refine Plan.pick rfl rfl rfl rfl rfl ?_ | refine J.condF rfl ?_ | refine J.skip ?_)
      refine Nrm.mid () trivial (Weak.cons rfl (Sub.refl _) (Weak.cons rfl (Sub.refl _) (Weak.cons rfl (Sub.heap (Ent.pickC [0, 2] rfl rfl)) Weak.nil)))
    refine Plan.boolv (y := true) (decide_eq_true hR) ?_
    repeat (refine Plan.move rfl rfl rfl rfl ?_)
    refine Plan.loadAggC (key := 1000) (q := 2) (vs := vList v) rfl rfl rfl rfl rfl rfl obj_whole Try.underlying42 rfl (by kernel_rfl) (by decide) ?_
    repeat (refine Plan.fieldC rfl rfl rfl rfl (by exact Try.underlying86) rfl (by kernel_rfl) (by exact (rfl : _ = 0)) ?_)
    refine Plan.loadAggC (key := 1000) (q := 1) (off := 0) (vs := [vi e.r, vi e.n]) rfl rfl rfl rfl rfl rfl (obj_reads rfl) Try.underlying28 rfl (by kernel_rfl) (by decide) ?_
    refine Plan.call (B := 0) rfl rfl rfl (has_fn v e.r e.n) Try.func50 rfl rfl (fun _ _ => Nat.zero_le _) (by repeat (first | exact Opnds.nil | refine Opnds.cons rfl (by exact Sub.refl _) ?_)) ?_
    by_cases hH : hasP v e.r e.n
    · have hc : comeE e v B = B := by unfold comeE; rw [if_neg (fun h => h.2.1 hH)]
      rw [hc]
      refine Plan.boolv (y := true) (decide_eq_true hH) ?_
      repeat (first | refine Plan.move rfl rfl rfl rfl ?_ | refine Plan.skip rfl rfl ?_ | refine Plan.pick rfl rfl rfl rfl rfl ?_ | refine Plan.un rfl rfl rfl rfl rfl ?_ | refine J.condF rfl ?_ | refine J.skip ?_)
      refine Nrm.mid () trivial (Weak.cons rfl (Sub.refl _) (Weak.cons rfl (Sub.refl _) (Weak.cons rfl (Sub.heap (Ent.pickC [0, 2] rfl rfl)) Weak.nil)))
    refine Plan.boolv (y := false) (decide_eq_false hH) ?_
    repeat (first | refine Plan.move rfl rfl rfl rfl ?_ | refine Plan.pick rfl rfl rfl rfl rfl ?_ | refine Plan.un rfl rfl rfl rfl rfl ?_)
    cases hh : hereD B (dotE e) with
    | true =>
      have hc : comeE e v B = B := by unfold comeE; rw [if_neg (fun h => by have := h.2.2.1; rw [hh] at this; cases this)]
      rw [hc]
      repeat (first | refine Plan.skip rfl rfl ?_ | refine Plan.pick rfl rfl rfl rfl rfl ?_ | refine J.condF rfl ?_ | refine J.skip ?_)
      refine Nrm.mid () trivial (Weak.cons rfl (Sub.refl _) (Weak.cons rfl (Sub.refl _) (Weak.cons rfl (Sub.heap (Ent.pickC [0, 2] rfl rfl)) Weak.nil)))
    | false =>
      repeat (first | refine Plan.move rfl rfl rfl rfl ?_ | refine Plan.nilOk rfl rfl rfl rfl ?_ | refine Plan.fieldC rfl rfl rfl rfl (by first | exact Try.underlying86 | exact Try.underlying80) rfl (by kernel_rfl) (by exact (rfl : _ = 0)) ?_)
      refine Plan.callR (key := 1000) (B := 0) (q := 0) rfl rfl rfl (len_fnE β B) Try.func61 rfl rfl (fun _ _ => Nat.zero_le _) (by repeat (first | exact Opnds.nil | refine Opnds.cons rfl (by exact Sub.refl _) ?_)) rfl rfl (by decide) ?_
      repeat (first | refine Plan.pick rfl rfl rfl rfl rfl ?_ | (refine Plan.ints rfl rfl rfl rfl rfl rfl ?_; (skip)))
      by_cases hL : B.length < 64
      · have hc : comeE e v B = putD B (dotE e) e := by unfold comeE; rw [if_pos ⟨hR, hH, hh, hL⟩]
        rw [hc]
        refine Plan.boolv (y := true) (decide_eq_true (by omega)) ?_
        repeat (first | refine Plan.move rfl rfl rfl rfl ?_ | refine Plan.nilOk rfl rfl rfl rfl ?_ | refine Plan.fieldC rfl rfl rfl rfl (by first | exact Try.underlying86 | exact Try.underlying80) rfl (by kernel_rfl) (by exact (rfl : _ = 0)) ?_ | refine J.region mixed hI (by kernel_rfl) ?_ | refine J.condT rfl ?_)
        refine Plan.loadAggC (key := 1000) (q := 1) (off := 0) (vs := [vi e.r, vi e.n]) rfl rfl rfl rfl rfl rfl (obj_reads rfl) Try.underlying28 rfl (by kernel_rfl) (by decide) ?_
        refine Plan.loadAggC (key := 1000) (q := 1) (vs := e.enc) rfl rfl rfl rfl rfl rfl obj_whole Try.underlying86 rfl (by rw [encE]; kernel_rfl) (by decide) ?_
        refine Plan.callC (key := 1000) (q := 0) rfl rfl rfl (put_fnE β B hB.1 (by omega) (dotE e) e) Try.func62 rfl rfl (by intro _ e; cases e; decide) (by repeat (first | exact Opnds.nil | refine Opnds.cons rfl (by exact Sub.refl _) ?_)) rfl hA rfl ?_
        intro _ _
        repeat (fail)
        refine Nrm.mid () trivial (Weak.cons rfl (Sub.refl _) (Weak.cons rfl (Sub.refl _) (Weak.cons rfl (Sub.heap (Ent.pickC [0, 2] rfl rfl)) Weak.nil)))
      · have hc : comeE e v B = B := by unfold comeE; rw [if_neg (fun h => hL h.2.2.2)]
        rw [hc]
        refine Plan.boolv (y := false) (decide_eq_false (by omega)) ?_
        repeat (first | refine J.condF rfl ?_ | refine J.skip ?_)
        refine Nrm.mid () trivial (Weak.cons rfl (Sub.refl _) (Weak.cons rfl (Sub.refl _) (Weak.cons rfl (Sub.heap (Ent.pickC [0, 2] rfl rfl)) Weak.nil)))
  intro _ _
  obtain ⟨C, hCe⟩ : ∃ C, C = comeE e v B := ⟨_, rfl⟩
  rw [← hCe] at hC hCl ⊢
  repeat (first | refine Plan.assign rfl rfl rfl rfl ?_ | refine J.seq (J.region mixed hI (by kernel_rfl) ?_))
  refine J.nilRow (key := 1000) 86 26 rfl ?_
  refine J.block (J.loop (fun s : (Nat → Int) × List (Dt × EvV) × List EvV × Option Addr × Nat => ofE w0 F β b s.1 s.2.1 s.2.2.1 s.2.2.2.1 s.2.2.2.2) (fun s => okV s.1 ∧ heldB s.2.1 ∧ s.2.2.1.length + s.2.1.length ≤ 65 ∧ toldE v C = (s.2.2.1 ++ (toldE s.1 s.2.1).1, (toldE s.1 s.2.1).2)) (fun s => s.2.1.length) (v, C, [], none, 0) ⟨hv, hC, by simp only [List.length_nil]; omega, rfl⟩ ?_ ?_)
  · repeat (first | exact Weak.nil | refine Weak.cons rfl (Sub.refl _) ?_)
  rintro ⟨u, K, out, O, oc⟩ ⟨hu, hK, hol, hinv⟩
  simp only at hu hK hol hinv
  change J _ _ _ _ _ (ofE w0 F β b u K out O oc)
  refine J.block ?_
  repeat (first | refine Plan.move rfl rfl rfl rfl ?_ | refine J.seq (J.region mixed hI (by kernel_rfl) ?_))
  refine Plan.loadAggC (key := 1000) (q := 1) (vs := vList u) rfl rfl rfl rfl rfl rfl obj_whole Try.underlying42 rfl (by kernel_rfl) (by decide) ?_
  refine Plan.callC (key := 1000) (q := 0) rfl rfl rfl (next_fn β K hK (by omega) u hu) Try.func63 rfl rfl (by intro _ e; cases e; decide) (by repeat (first | exact Opnds.nil | refine Opnds.cons rfl (by exact Sub.refl _) ?_)) rfl hA rfl ?_
  intro _ _
  cases hn : nextE u K with
  | none =>
    have hT : toldE v C = (out, restE u K) := by rw [hinv, told_none hK hn, List.append_nil]
    rw [hT]
    repeat (first | refine Plan.move rfl rfl rfl rfl ?_ | refine Plan.extract rfl rfl rfl rfl rfl ?_)
    refine Plan.allocC (key := 1000) (z := .agg ev0.enc.toArray) rfl rfl rfl (by intro _ e; cases e; decide) (by kernel_rfl) rfl hA fun c => ?_
    refine Plan.storeC (key := 1000) (q := 3) (off := 0) rfl rfl rfl rfl rfl rfl (fun u hu => encE_one _ u hu) (by show _ = some (EvV.enc _).toArray.size; kernel_rfl) rfl hA rfl (obj_pat (Nat.le_of_ble_eq_true rfl)) ?_
    repeat (first | refine Plan.move rfl rfl rfl rfl ?_ | refine Plan.assign rfl rfl rfl rfl ?_ | refine Plan.un rfl rfl rfl rfl rfl ?_ | refine J.seq (J.region mixed hI (by kernel_rfl) ?_) | refine J.seq (J.seq (J.region mixed hI (by kernel_rfl) ?_)) | refine J.condT rfl ?_)
    exact J.ret (Nrm.retC1 (key := 1000) (O, oc) rfl rfl rfl trivial (Sub.refl _) ((Ent.pickC [0, 2] rfl rfl).trans (Ent.sep (Ent.refl _) Ent.one)))
  | some x =>
    have hxm : x ∈ leftE u K := List.mem_of_find?_eq_some hn
    obtain ⟨hxd, hxo, hxr⟩ := (held_left hK).2 x hxm
    have hr0 : 0 ≤ x.2.r ∧ x.2.r < 16 := ⟨hxr.1.1, hxr.1.2.1⟩
    have hlt := rest_lt hn hK
    have hts := told_some hK hn
    have hgx : (Option.map (fun y : Dt × EvV => y.2) (some x)).getD ev0 = x.2 := rfl
    rw [hgx]
    repeat (first | refine Plan.move rfl rfl rfl rfl ?_ | refine Plan.extract rfl rfl rfl rfl rfl ?_)
    refine Plan.allocC (key := 1000) (z := .agg ev0.enc.toArray) rfl rfl rfl (by intro _ e; cases e; decide) (by kernel_rfl) rfl hA fun c => ?_
    refine Plan.storeC (key := 1000) (q := 3) (off := 0) rfl rfl rfl rfl rfl rfl (fun u hu => encE_one x.2 u hu) (by show _ = some x.2.enc.toArray.size; kernel_rfl) rfl hA rfl (obj_pat (Nat.le_of_ble_eq_true rfl)) ?_
    repeat (first | refine Plan.move rfl rfl rfl rfl ?_ | refine Plan.assign rfl rfl rfl rfl ?_ | refine Plan.un rfl rfl rfl rfl rfl ?_ | refine J.seq (J.region mixed hI (by kernel_rfl) ?_) | refine J.seq (J.seq (J.region mixed hI (by kernel_rfl) ?_)) | refine J.condF rfl ?_ | refine J.skip ?_)
    refine Plan.loadAggC (key := 1000) (q := 3) (off := 0) (vs := x.2.enc) rfl rfl rfl rfl rfl rfl (obj_reads rfl) Try.underlying86 rfl (by rw [encE]; kernel_rfl) (by decide) ?_
    refine Plan.lit (B := 0) rfl rfl rfl eltE rfl (fun _ _ => Nat.zero_le _) rfl (fun v hv => by rw [List.mem_singleton.1 hv]; rfl) (by decide) ?_
    refine Plan.appendC (key := 1000) (q := 2) (news := x.2.enc) rfl rfl rfl rfl rfl Sub.own eltE (by intro _ e; cases e; decide) rfl hA rfl (encE_one x.2) (by rw [flatMap_length _ 26 encE, encE]; omega) fun O' m' oc' hm' => ?_
    have hm2 : m' = (out ++ [x.2]).length := by rw [flatMap_length _ 26 encE, encE] at hm'; rw [List.length_append]; show m' = _ + 1; omega
    subst hm2
    have hrow : out.flatMap EvV.enc ++ x.2.enc = (out ++ [x.2]).flatMap EvV.enc := by simp only [List.flatMap_append, List.flatMap_cons, List.flatMap_nil, List.append_nil]
    rw [hrow]
    repeat (first | refine Plan.assign rfl rfl rfl rfl ?_ | refine Plan.fieldC rfl rfl rfl rfl (by first | exact Try.underlying86 | exact Try.underlying28) rfl (by kernel_rfl) (by exact (rfl : _ = 0)) ?_ | refine J.region mixed hI (by kernel_rfl) ?_)
    refine Plan.loadC (key := 1000) (q := 3) (off := 0) rfl rfl rfl rfl rfl rfl (obj_reads1 rfl) Try.underlying3 rfl (by decide) ?_
    repeat (refine Plan.fieldC rfl rfl rfl rfl (by first | exact Try.underlying86 | exact Try.underlying28) rfl (by kernel_rfl) (by first | exact (rfl : _ = 0) | exact (rfl : _ = 1)) ?_)
    refine Plan.loadC (key := 1000) (q := 3) (off := 1) rfl rfl rfl rfl rfl rfl (obj_reads1 rfl) Try.underlying3 rfl (by decide) ?_
    refine Plan.indexArr (off := x.2.r.toNat) (len := 16) (sz := 1) rfl rfl rfl rfl rfl Try.underlying42 (by kernel_rfl) hr0.1 (by omega) (by simp) ?_
    refine Plan.storeC (key := 1000) (q := 1) rfl rfl rfl rfl rfl rfl (by simp [Value.cells, Value.oneCell']) (by kernel_rfl) rfl hA rfl (obj_pat1 (show x.2.r.toNat < 16 by omega)) ?_
    have hset : (vList u).set x.2.r.toNat (vi x.2.n) = vList (setV u x.2) := set_vL u x.2.n (by omega)
    rw [hset]
    refine Nrm.next (ok := fun s : (Nat → Int) × List (Dt × EvV) × List EvV × Option Addr × Nat => okV s.1 ∧ heldB s.2.1 ∧ s.2.2.1.length + s.2.1.length ≤ 65 ∧ toldE v C = (s.2.2.1 ++ (toldE s.1 s.2.1).1, (toldE s.1 s.2.1).2)) (s := (u, K, out, O, oc)) (setV u x.2, restE u K, out ++ [x.2], O', oc') ⟨okV_set hu hxo, held_rest hK, by simp only [List.length_append, List.length_cons, List.length_nil]; omega, by simp only; rw [hinv, hts, List.append_assoc]; rfl⟩ (by simp only; omega) ?_
    exact Weak.cons rfl (Sub.refl _) (Weak.cons rfl (Sub.refl _) (Weak.cons rfl (Sub.refl _) (Weak.cons rfl (Sub.heap (Ent.pickC [0, 1, 2] rfl rfl)) Weak.nil)))
end Go.Proofs.Ytkhcjedlopiicaa
