/-
  The model's bags: Put.
-/
import Derived.Test.YtkhcjedlopiicaaBagRef
import Derived.Test.YtkhcjedlopiicaaBagOrder
set_option linter.unusedSimpArgs false
set_option linter.unusedVariables false
set_option maxRecDepth 20000
namespace Go.Proofs.Ytkhcjedlopiicaa
open Go.Free Go.RowKit Go.Proofs
set_option maxHeartbeats 8000000

def outP (l : List (Dt × Int)) (d : Dt) (x : Int) (i : Nat) : List (Dt × Int) := if posD l d < i then insD (l.take i) (posD l d) (d, x) else l.take i
theorem outP_lt {l : List (Dt × Int)} {d : Dt} {x : Int} {i : Nat} (h : i < l.length) (hp : i < posD l d) : outP l d x (i + 1) = outP l d x i ++ [l[i]] := by
  unfold outP
  rw [if_neg (by omega), if_neg (by omega), List.take_succ_eq_append_getElem h]
theorem outP_eq {l : List (Dt × Int)} {d : Dt} {x : Int} {i : Nat} (h : i < l.length) (hp : i = posD l d) : outP l d x (i + 1) = outP l d x i ++ [(d, x)] ++ [l[i]] := by
  unfold outP
  rw [if_pos (by omega), if_neg (by omega), List.take_succ_eq_append_getElem h]
  unfold insD
  rw [← hp, List.take_left' (by rw [List.length_take]; omega), List.drop_left' (by rw [List.length_take]; omega)]
  simp
theorem outP_gt {l : List (Dt × Int)} {d : Dt} {x : Int} {i : Nat} (h : i < l.length) (hp : posD l d < i) : outP l d x (i + 1) = outP l d x i ++ [l[i]] := by
  unfold outP
  rw [if_pos (by omega), if_pos (by omega), List.take_succ_eq_append_getElem h]
  unfold insD
  rw [List.take_append_of_le_length (by rw [List.length_take]; omega), List.drop_append_of_le_length (by rw [List.length_take]; omega)]
  simp
theorem outP_len {l : List (Dt × Int)} {d : Dt} {x : Int} {i : Nat} : (outP l d x i).length ≤ i + 1 := by
  unfold outP; split
  · rw [insD_length, List.length_take]; omega
  · rw [List.length_take]; omega
theorem put_rem {l : List (Dt × Int)} (h : sortedD l) (d : Dt) (x : Int) : putD (remD l d) d x = putD l d x := by
  refine sorted_ext (sorted_put (sorted_rem h d) d x) (sorted_put h d x) fun e y => ?_
  rw [mem_put (sorted_rem h d), mem_put h, mem_rem h]
  constructor
  · rintro (h1 | ⟨h1, _, h2⟩)
    · exact .inl h1
    · exact .inr ⟨h1, h2⟩
  · rintro (h1 | ⟨h1, h2⟩)
    · exact .inl h1
    · exact .inr ⟨h1, h1, h2⟩
def rpE (w0 : World) (F : Nat → Prop) (β γ : Nat) (B : Option Addr) (cap : Nat) (l : List (Dt × Int)) (d : Dt) (x : Int) (i : Nat) (dn : Bool) (O : Option Addr) (oc : Nat) (out : List (Dt × Int)) : Env :=
  [(0, .ex (ptr β)), (2, .ex (vi x)), (4, .ex (ptr γ)), (6, .ex (.slice O out.length oc)), (7, .ex (.bool dn)), (16, .ex (vi l.length)), (17, .ex (vi i)),
   (1000, heap (fun b => F b ∨ w0.heap.size ≤ b) [obj β [.slice B l.length cap], rowR B l.length cap (l.flatMap itI), obj γ [vi d.1, vi d.2], rowR O out.length oc (out.flatMap itI)])]
theorem refPut_fn (β : Nat) (l0 : List (Dt × Int)) (hs0 : sortedD l0) (hl0 : l0.length ≤ 1000000) (hok0 : ∀ x ∈ l0, okI x) (d : Dt) (hd : okD d) (x : Int) :
    SpcC Try.prog 23 [.ex (ptr β), .ex (aggD d.1 d.2), .ex (vi x)] (refC β l0) (fun _ : Unit => True) (fun _ => Fa.any) (fun _ => refC β (putD l0 d x)) := by
  refine SpcC.intro Try.func23 rfl (Nat.le_of_ble_eq_true rfl) fun w0 F => ?_
  have hI := kept_below F w0
  have hA := Own.kept F w0
  rw [← put_rem hs0]
  repeat (refine J.seq (J.region mixed hI (by kernel_rfl) ?_))
  refine Plan.boxC (key := 1000) rfl rfl rfl (by intro _ e; cases e; decide) rfl rfl hA fun γ => ?_
  repeat (first | refine Plan.move rfl rfl rfl rfl ?_ | refine J.seq (J.region mixed hI (by kernel_rfl) ?_))
  refine Plan.loadAggC (key := 1000) (q := 1) (vs := [vi d.1, vi d.2]) rfl rfl rfl rfl rfl rfl (obj_reads rfl) Try.underlying28 rfl (by kernel_rfl) (by decide) ?_
  refine Plan.callC (key := 1000) (q := 0) rfl rfl rfl (refRemove_fn β l0 hs0 hl0 hok0 d hd) Try.func25 rfl rfl (by intro _ e; cases e; decide) (by repeat (first | exact Opnds.nil | refine Opnds.cons rfl (by exact Sub.refl _) ?_)) rfl hA rfl ?_
  intro _ _
  have hs := sorted_rem hs0 d
  have hl : (remD l0 d).length ≤ 1000000 := by rw [len_rem]; split <;> omega
  have hok : ∀ x ∈ remD l0 d, okI x := fun y hy => hok0 y ((mem_rem hs0 d y.1 y.2).1 hy).2
  have hnh : hereD (remD l0 d) d = false := by rw [here_rem hs0]; simp
  obtain ⟨l, hl'⟩ : ∃ l, l = remD l0 d := ⟨_, rfl⟩
  rw [← hl'] at hs hl hok hnh ⊢
  have hpl := posD_le l d
  have hput : putD l d x = insD l (posD l d) (d, x) := by unfold putD; rw [hnh]; rfl
  rw [hput]
  refine J.exC (key := 1000) (q := 0) rfl rfl fun xx => ?_
  refine J.sepC (key := 1000) (q := 0) rfl rfl ?_
  obtain ⟨B, cap⟩ := xx
  dsimp only
  refine J.regroup (key := 1000) [obj β [.slice B l.length cap], rowR B l.length cap (l.flatMap itI), obj γ [vi d.1, vi d.2]] rfl (Ent.pickC [0, 2, 1] rfl rfl) ?_
  repeat (first | refine Plan.move rfl rfl rfl rfl ?_ | refine Plan.assign rfl rfl rfl rfl ?_ | refine Plan.nilOk rfl rfl rfl rfl ?_ | refine Plan.fieldC rfl rfl rfl rfl (by first | exact Try.underlying86 | exact Try.underlying48) rfl (by kernel_rfl) (by exact (rfl : _ = 0)) ?_ | refine Plan.loadC (key := 1000) (q := 0) rfl rfl rfl rfl rfl rfl (obj_reads1 rfl) (by first | exact Try.underlying3 | exact Try.underlying22) (by rfl) (by decide) ?_ | refine J.seq (J.region mixed hI (by kernel_rfl) ?_) | refine J.seq (J.seq (J.region mixed hI (by kernel_rfl) ?_)))
  refine Plan.lenE rfl rfl rfl rfl Try.underlying22 ?_
  repeat (refine Plan.move rfl rfl rfl rfl ?_)
  refine J.nilRow (key := 1000) 30 3 rfl ?_
  refine J.block (J.loop (fun s : Nat × Bool × Option Addr × Nat => rpE w0 F β γ B cap l d x s.1 s.2.1 s.2.2.1 s.2.2.2 (outP l d x s.1)) (fun s => s.1 ≤ l.length ∧ s.2.1 = decide (posD l d < s.1)) (fun s => l.length - s.1) (0, false, none, 0) ⟨Nat.zero_le _, (decide_eq_false (by simp)).symm⟩ ?_ ?_)
  · have h0 : outP l d x 0 = [] := by unfold outP; rw [if_neg (by omega)]; rfl
    simp only
    rw [h0]
    repeat (first | exact Weak.nil | refine Weak.cons rfl (Sub.refl _) ?_)
  rintro ⟨i, dn, O, oc⟩ ⟨hi, hdn⟩
  simp only at hi hdn
  change J _ _ _ _ _ (rpE w0 F β γ B cap l d x i dn O oc (outP l d x i))
  have hol := outP_len (l := l) (d := d) (x := x) (i := i)
  repeat (first | (refine Plan.ints rfl rfl rfl rfl rfl rfl ?_; (skip)) | refine J.seq (J.region mixed hI (by kernel_rfl) ?_))
  refine J.seq (J.condD rfl (fun hc => ?_) (fun hc => ?_))
  · have hlt : i < l.length := by omega
    have hxi : l[i]? = some l[i] := List.getElem?_eq_getElem hlt
    refine J.factC (key := 1000) (q := 1) rfl rfl (fun w F h => row_room h) fun hrm => ?_
    obtain ⟨g, rfl⟩ : ∃ g, B = some ⟨g, 0, none⟩ := by
      cases B with
      | none => have := (hrm.2.2.2.1 rfl).1; omega
      | some ad => exact ⟨ad.block, by rw [← hrm.2.2.2.2 ad rfl]⟩
    have hat : (l.flatMap itI).drop (i * 3) = itI l[i] ++ (l.drop (i + 1)).flatMap itI := by have := flat_at itLI l hlt []; rwa [List.append_nil, List.append_nil] at this
    have hrd : ((l.flatMap itI).drop (i * 3)).take 2 = [vi l[i].1.1, vi l[i].1.2] := by rw [hat]; rfl
    have hra : ((l.flatMap itI).drop (i * 3)).take 3 = itI l[i] := by rw [hat]; rfl
    have hbef : dlt d l[i].1 ↔ posD l d ≤ i := by
      constructor
      · intro h
        rcases Nat.lt_or_ge i (posD l d) with h1 | h1
        · exact absurd (dlt_trans h ((posD_lt hs hxi).1 h1)) (dlt_irr _)
        · exact h1
      · intro h
        rcases dlt_tri d l[i].1 with h1 | h1 | h1
        · exact h1
        · exact absurd (List.getElem_mem hlt) (fun hm => (here_not hs).1 hnh l[i].2 (by rw [h1]; exact hm))
        · have := (posD_lt hs hxi).2 h1; omega
    repeat (refine J.skip ?_)
    refine J.seq (J.block ?_)
    repeat (first | refine Plan.move rfl rfl rfl rfl ?_ | refine Plan.assign rfl rfl rfl rfl ?_ | refine Plan.un rfl rfl rfl rfl rfl ?_ | refine J.seq (J.region mixed hI (by kernel_rfl) ?_) | refine J.seq (J.seq (J.region mixed hI (by kernel_rfl) ?_)))
    cases dn with
    | true =>
      have hp : posD l d < i := of_decide_eq_true hdn.symm
      have hst := outP_gt (x := x) hlt hp
      repeat (first | refine Plan.move rfl rfl rfl rfl ?_ | refine Plan.skip rfl rfl ?_ | refine Plan.pick rfl rfl rfl rfl rfl ?_ | refine Plan.nilOk rfl rfl rfl rfl ?_ | refine Plan.fieldC rfl rfl rfl rfl (by first | exact Try.underlying86 | exact Try.underlying48) rfl (by kernel_rfl) (by exact (rfl : _ = 0)) ?_ | refine Plan.loadC (key := 1000) (q := 0) rfl rfl rfl rfl rfl rfl (obj_reads1 rfl) (by first | exact Try.underlying3 | exact Try.underlying22) (by rfl) (by decide) ?_ | refine J.region mixed hI (by kernel_rfl) ?_ | refine J.condF rfl ?_ | refine J.skip ?_)
      refine Plan.indexC (off := i * 3) rfl rfl rfl rfl rfl eltRef hlt (by omega) ?_
      refine Plan.loadAggC (key := 1000) (q := 1) (off := i * 3) (vs := itI l[i]) rfl rfl rfl rfl rfl rfl (row_reads hra) Try.underlying30 rfl (by kernel_rfl) (by decide) ?_
      refine Plan.lit (B := 0) rfl rfl rfl eltRef rfl (fun _ _ => Nat.zero_le _) rfl (fun v hv => by rw [List.mem_singleton.1 hv]; rfl) (by decide) ?_
      refine Plan.appendC (key := 1000) (q := 3) (news := itI l[i]) rfl rfl rfl rfl rfl Sub.own eltRef (by intro _ e; cases e; decide) rfl hA rfl (itOneI l[i]) (by simp only [flat_len itLI, itLI, List.length_append, List.length_cons, List.length_nil]; omega) fun O1 m1 oc1 hm1 => ?_
      have hk1 : m1 = (outP l d x i ++ [l[i]]).length := by rw [flat_len itLI, itLI] at hm1; simp only [List.length_append, List.length_cons, List.length_nil] at hm1 ⊢; omega
      subst hk1
      have hrow1 : (outP l d x i).flatMap itI ++ itI l[i] = (outP l d x i ++ [l[i]]).flatMap itI := by simp only [List.flatMap_append, List.flatMap_cons, List.flatMap_nil, List.append_nil]
      rw [hrow1]
      repeat (first | refine Plan.move rfl rfl rfl rfl ?_ | refine Plan.assign rfl rfl rfl rfl ?_ | (refine Plan.ints rfl rfl rfl rfl rfl rfl ?_; (refine Plan.int (i64r (by omega)) ?_)) | refine J.region mixed hI (by kernel_rfl) ?_)
      refine Plan.int (y := ((i + 1 : Nat) : Int)) (by omega) ?_
      repeat (fail)
      refine Nrm.next (i + 1, true, O1, oc1) ⟨by simp only; omega, by simp only; exact (decide_eq_true (by omega)).symm⟩ (by simp only; omega) ?_
      simp only
      rw [hst]
      repeat (first | exact Weak.nil | refine Weak.cons rfl (Sub.refl _) ?_)
    | false =>
      have hp : ¬ posD l d < i := of_decide_eq_false hdn.symm
      repeat (fail)
      refine Plan.loadAggC (key := 1000) (q := 2) (vs := [vi d.1, vi d.2]) rfl rfl rfl rfl rfl rfl (obj_reads rfl) Try.underlying28 rfl (by kernel_rfl) (by decide) ?_
      repeat (first | refine Plan.move rfl rfl rfl rfl ?_ | refine Plan.nilOk rfl rfl rfl rfl ?_ | refine Plan.fieldC rfl rfl rfl rfl (by first | exact Try.underlying86 | exact Try.underlying48) rfl (by kernel_rfl) (by exact (rfl : _ = 0)) ?_ | refine Plan.loadC (key := 1000) (q := 0) rfl rfl rfl rfl rfl rfl (obj_reads1 rfl) (by first | exact Try.underlying3 | exact Try.underlying22) (by rfl) (by decide) ?_)
      refine Plan.indexC (off := i * 3) rfl rfl rfl rfl rfl eltRef hlt (by omega) ?_
      refine Plan.fieldC (off := i * 3) rfl rfl rfl rfl (by exact Try.underlying33) rfl (by kernel_rfl) rfl ?_
      refine Plan.loadAggC (key := 1000) (q := 1) (off := i * 3) (vs := [vi l[i].1.1, vi l[i].1.2]) rfl rfl rfl rfl rfl rfl (row_reads hrd) Try.underlying28 rfl (by kernel_rfl) (by decide) ?_
      refine Plan.call (B := 0) rfl rfl rfl (before_fn d l[i].1) Try.func18 rfl rfl (fun _ _ => Nat.zero_le _) (by repeat (first | exact Opnds.nil | refine Opnds.cons rfl (by exact Sub.refl _) ?_)) ?_
      by_cases hb : dlt d l[i].1
      · have hpi : i = posD l d := by have := hbef.1 hb; omega
        have hst := outP_eq (x := x) hlt hpi
        refine Plan.boolv (y := true) (decide_eq_true hb) ?_
        repeat (first | refine Plan.move rfl rfl rfl rfl ?_ | refine Plan.pick rfl rfl rfl rfl rfl ?_ | refine J.seq (J.region mixed hI (by kernel_rfl) ?_) | refine J.condT rfl ?_)
        refine Plan.loadAggC (key := 1000) (q := 2) (vs := [vi d.1, vi d.2]) rfl rfl rfl rfl rfl rfl (obj_reads rfl) Try.underlying28 rfl (by kernel_rfl) (by decide) ?_
        repeat (refine Plan.move rfl rfl rfl rfl ?_)
        refine Plan.build rfl rfl rfl (Parts.cons rfl (Parts.cons rfl Parts.nil)) (cells := (itI (d, x)).toArray) (by kernel_rfl) ?_
        refine Plan.lit (B := 0) rfl rfl rfl eltRef rfl (fun _ _ => Nat.zero_le _) rfl (fun v hv => by rw [List.mem_singleton.1 hv]; rfl) (by decide) ?_
        refine Plan.appendC (key := 1000) (q := 3) (news := itI (d, x)) rfl rfl rfl rfl rfl Sub.own eltRef (by intro _ e; cases e; decide) rfl hA rfl (itOneI (d, x)) (by simp only [flat_len itLI, itLI, List.length_append, List.length_cons, List.length_nil]; omega) fun O1 m1 oc1 hm1 => ?_
        have hk1 : m1 = (outP l d x i ++ [(d, x)]).length := by rw [flat_len itLI, itLI] at hm1; simp only [List.length_append, List.length_cons, List.length_nil] at hm1 ⊢; omega
        subst hk1
        have hrow1 : (outP l d x i).flatMap itI ++ itI (d, x) = (outP l d x i ++ [(d, x)]).flatMap itI := by simp only [List.flatMap_append, List.flatMap_cons, List.flatMap_nil, List.append_nil]
        rw [hrow1]
        repeat (first | refine Plan.move rfl rfl rfl rfl ?_ | refine Plan.assign rfl rfl rfl rfl ?_ | refine Plan.nilOk rfl rfl rfl rfl ?_ | refine Plan.fieldC rfl rfl rfl rfl (by first | exact Try.underlying86 | exact Try.underlying48) rfl (by kernel_rfl) (by exact (rfl : _ = 0)) ?_ | refine Plan.loadC (key := 1000) (q := 0) rfl rfl rfl rfl rfl rfl (obj_reads1 rfl) (by first | exact Try.underlying3 | exact Try.underlying22) (by rfl) (by decide) ?_ | refine J.region mixed hI (by kernel_rfl) ?_)
        refine Plan.indexC (off := i * 3) rfl rfl rfl rfl rfl eltRef hlt (by omega) ?_
        refine Plan.loadAggC (key := 1000) (q := 1) (off := i * 3) (vs := itI l[i]) rfl rfl rfl rfl rfl rfl (row_reads hra) Try.underlying30 rfl (by kernel_rfl) (by decide) ?_
        refine Plan.lit (B := 0) rfl rfl rfl eltRef rfl (fun _ _ => Nat.zero_le _) rfl (fun v hv => by rw [List.mem_singleton.1 hv]; rfl) (by decide) ?_
        refine Plan.appendC (key := 1000) (q := 3) (news := itI l[i]) rfl rfl rfl rfl rfl Sub.own eltRef (by intro _ e; cases e; decide) rfl hA rfl (itOneI l[i]) (by simp only [flat_len itLI, itLI, List.length_append, List.length_cons, List.length_nil]; omega) fun O2 m2 oc2 hm2 => ?_
        have hk2 : m2 = (outP l d x i ++ [(d, x)] ++ [l[i]]).length := by rw [flat_len itLI, itLI] at hm2; simp only [List.length_append, List.length_cons, List.length_nil] at hm2 ⊢; omega
        subst hk2
        have hrow2 : (outP l d x i ++ [(d, x)]).flatMap itI ++ itI l[i] = (outP l d x i ++ [(d, x)] ++ [l[i]]).flatMap itI := by simp only [List.flatMap_append, List.flatMap_cons, List.flatMap_nil, List.append_nil]
        rw [hrow2]
        repeat (first | refine Plan.move rfl rfl rfl rfl ?_ | refine Plan.assign rfl rfl rfl rfl ?_ | (refine Plan.ints rfl rfl rfl rfl rfl rfl ?_; (refine Plan.int (i64r (by omega)) ?_)) | refine J.region mixed hI (by kernel_rfl) ?_)
        refine Plan.int (y := ((i + 1 : Nat) : Int)) (by omega) ?_
        repeat (fail)
        refine Nrm.next (i + 1, true, O2, oc2) ⟨by simp only; omega, by simp only; exact (decide_eq_true (by omega)).symm⟩ (by simp only; omega) ?_
        simp only
        rw [hst]
        repeat (first | exact Weak.nil | refine Weak.cons rfl (Sub.refl _) ?_)
      · have hpi : i < posD l d := Nat.lt_of_not_le fun h => hb (hbef.2 h)
        have hst := outP_lt (x := x) hlt hpi
        refine Plan.boolv (y := false) (decide_eq_false hb) ?_
        repeat (first | refine Plan.move rfl rfl rfl rfl ?_ | refine Plan.pick rfl rfl rfl rfl rfl ?_ | refine Plan.nilOk rfl rfl rfl rfl ?_ | refine Plan.fieldC rfl rfl rfl rfl (by first | exact Try.underlying86 | exact Try.underlying48) rfl (by kernel_rfl) (by exact (rfl : _ = 0)) ?_ | refine Plan.loadC (key := 1000) (q := 0) rfl rfl rfl rfl rfl rfl (obj_reads1 rfl) (by first | exact Try.underlying3 | exact Try.underlying22) (by rfl) (by decide) ?_ | refine J.region mixed hI (by kernel_rfl) ?_ | refine J.condF rfl ?_ | refine J.skip ?_)
        refine Plan.indexC (off := i * 3) rfl rfl rfl rfl rfl eltRef hlt (by omega) ?_
        refine Plan.loadAggC (key := 1000) (q := 1) (off := i * 3) (vs := itI l[i]) rfl rfl rfl rfl rfl rfl (row_reads hra) Try.underlying30 rfl (by kernel_rfl) (by decide) ?_
        refine Plan.lit (B := 0) rfl rfl rfl eltRef rfl (fun _ _ => Nat.zero_le _) rfl (fun v hv => by rw [List.mem_singleton.1 hv]; rfl) (by decide) ?_
        refine Plan.appendC (key := 1000) (q := 3) (news := itI l[i]) rfl rfl rfl rfl rfl Sub.own eltRef (by intro _ e; cases e; decide) rfl hA rfl (itOneI l[i]) (by simp only [flat_len itLI, itLI, List.length_append, List.length_cons, List.length_nil]; omega) fun O1 m1 oc1 hm1 => ?_
        have hk1 : m1 = (outP l d x i ++ [l[i]]).length := by rw [flat_len itLI, itLI] at hm1; simp only [List.length_append, List.length_cons, List.length_nil] at hm1 ⊢; omega
        subst hk1
        have hrow1 : (outP l d x i).flatMap itI ++ itI l[i] = (outP l d x i ++ [l[i]]).flatMap itI := by simp only [List.flatMap_append, List.flatMap_cons, List.flatMap_nil, List.append_nil]
        rw [hrow1]
        repeat (first | refine Plan.move rfl rfl rfl rfl ?_ | refine Plan.assign rfl rfl rfl rfl ?_ | (refine Plan.ints rfl rfl rfl rfl rfl rfl ?_; (refine Plan.int (i64r (by omega)) ?_)) | refine J.region mixed hI (by kernel_rfl) ?_)
        refine Plan.int (y := ((i + 1 : Nat) : Int)) (by omega) ?_
        repeat (fail)
        refine Nrm.next (i + 1, false, O1, oc1) ⟨by simp only; omega, by simp only; exact (decide_eq_false (by omega)).symm⟩ (by simp only; omega) ?_
        simp only
        rw [hst]
        repeat (first | exact Weak.nil | refine Weak.cons rfl (Sub.refl _) ?_)
  have hie : i = l.length := by omega
  subst hie
  refine J.exit ?_
  cases dn with
  | true =>
    have hp : posD l d < l.length := of_decide_eq_true hdn.symm
    have ho : outP l d x l.length = insD l (posD l d) (d, x) := by unfold outP; rw [if_pos hp, List.take_length]
    rw [ho]
    repeat (first | refine Plan.move rfl rfl rfl rfl ?_ | refine Plan.un rfl rfl rfl rfl rfl ?_ | refine Plan.nilOk rfl rfl rfl rfl ?_ | refine Plan.fieldC rfl rfl rfl rfl (by first | exact Try.underlying86 | exact Try.underlying48) rfl (by kernel_rfl) (by exact (rfl : _ = 0)) ?_ | refine J.region mixed hI (by kernel_rfl) ?_ | refine J.seq (J.seq (J.region mixed hI (by kernel_rfl) ?_)) | refine J.condF rfl ?_ | refine J.skip ?_)
    refine Plan.storeC (key := 1000) (q := 0) rfl rfl rfl rfl rfl rfl (by simp [Value.cells, Value.oneCell', str]) (by kernel_rfl) rfl hA rfl (obj_pat1 (Nat.le_of_ble_eq_true rfl)) ?_
    exact Nrm.retC0 (key := 1000) () rfl rfl rfl trivial ((Ent.pickC [0, 3] rfl rfl).trans (ref_close (B := O) (cap := oc))) (.inl rfl)
  | false =>
    have hp : ¬ posD l d < l.length := of_decide_eq_false hdn.symm
    have ho : outP l d x l.length = l := by unfold outP; rw [if_neg hp, List.take_length]
    have hin : insD l (posD l d) (d, x) = l ++ [(d, x)] := by unfold insD; rw [show posD l d = l.length by omega, List.take_length, List.drop_length]
    rw [ho, hin]
    repeat (first | refine Plan.move rfl rfl rfl rfl ?_ | refine Plan.un rfl rfl rfl rfl rfl ?_ | refine J.region mixed hI (by kernel_rfl) ?_ | refine J.seq (J.seq (J.region mixed hI (by kernel_rfl) ?_)) | refine J.condT rfl ?_)
    refine Plan.loadAggC (key := 1000) (q := 2) (vs := [vi d.1, vi d.2]) rfl rfl rfl rfl rfl rfl (obj_reads rfl) Try.underlying28 rfl (by kernel_rfl) (by decide) ?_
    repeat (refine Plan.move rfl rfl rfl rfl ?_)
    refine Plan.build rfl rfl rfl (Parts.cons rfl (Parts.cons rfl Parts.nil)) (cells := (itI (d, x)).toArray) (by kernel_rfl) ?_
    refine Plan.lit (B := 0) rfl rfl rfl eltRef rfl (fun _ _ => Nat.zero_le _) rfl (fun v hv => by rw [List.mem_singleton.1 hv]; rfl) (by decide) ?_
    refine Plan.appendC (key := 1000) (q := 3) (news := itI (d, x)) rfl rfl rfl rfl rfl Sub.own eltRef (by intro _ e; cases e; decide) rfl hA rfl (itOneI (d, x)) (by simp only [flat_len itLI, itLI, List.length_append, List.length_cons, List.length_nil]; omega) fun O1 m1 oc1 hm1 => ?_
    have hk1 : m1 = (l ++ [(d, x)]).length := by rw [flat_len itLI, itLI] at hm1; simp only [List.length_append, List.length_cons, List.length_nil] at hm1 ⊢; omega
    subst hk1
    have hrow1 : (l).flatMap itI ++ itI (d, x) = (l ++ [(d, x)]).flatMap itI := by simp only [List.flatMap_append, List.flatMap_cons, List.flatMap_nil, List.append_nil]
    rw [hrow1]
    repeat (first | refine Plan.move rfl rfl rfl rfl ?_ | refine Plan.assign rfl rfl rfl rfl ?_ | refine Plan.nilOk rfl rfl rfl rfl ?_ | refine Plan.fieldC rfl rfl rfl rfl (by first | exact Try.underlying86 | exact Try.underlying48) rfl (by kernel_rfl) (by exact (rfl : _ = 0)) ?_ | refine J.region mixed hI (by kernel_rfl) ?_)
    refine Plan.storeC (key := 1000) (q := 0) rfl rfl rfl rfl rfl rfl (by simp [Value.cells, Value.oneCell', str]) (by kernel_rfl) rfl hA rfl (obj_pat1 (Nat.le_of_ble_eq_true rfl)) ?_
    exact Nrm.retC0 (key := 1000) () rfl rfl rfl trivial ((Ent.pickC [0, 3] rfl rfl).trans (ref_close (B := O1) (cap := oc1))) (.inl rfl)
end Go.Proofs.Ytkhcjedlopiicaa
