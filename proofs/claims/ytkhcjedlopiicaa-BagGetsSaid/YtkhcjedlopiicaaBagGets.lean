/-
  The law BagGets returns true for all arguments.
-/
import Derived.Test.YtkhcjedlopiicaaBagCmp
set_option linter.unusedSimpArgs false
set_option linter.unusedVariables false
set_option maxRecDepth 20000
namespace Go.Proofs.Ytkhcjedlopiicaa
open Go.Free Go.RowKit Go.Proofs
set_option maxHeartbeats 8000000

def gtF (w0 : World) (l : List (Dt × Int)) (d e : Dt) (x : Int) (a b β : Nat) (i : Nat) (B : List (Dt × Int)) : Env :=
  [(0, old w0 (itemsF l)), (3, .ex (vi x)), (5, .ex (ptr a)), (6, .ex (ptr b)), (9, .ex (ptr β)), (32, .ex (vi l.length)), (33, .ex (vi i)), (1000, heap (newB w0) [obj a [vi d.1, vi d.2], obj b [vi e.1, vi e.2], bagCI β B])]
def gtE (w0 : World) (l : List (Dt × Int)) (d e : Dt) (x : Int) (a b β : Nat) (i : Nat) : Env := gtF w0 l d e x a b β i (putAll [] (l.take i))
theorem lawGets (l : List (Dt × Int)) (d e : Dt) (x : Int) (hl : l.length ≤ 9223372036854775807) (hd : okD d) (he : okD e) :
    Spc Try.prog 4 [itemsF l, .ex (aggD d.1 d.2), .ex (aggD e.1 e.2), .ex (vi x)] fun _ => .ex (.bool true) := by
  refine Spc.intro Try.func4 rfl (Nat.le_of_ble_eq_true rfl) fun w0 => ?_
  have hI := hIb w0
  have hA := Own.below w0
  refine J.heap0 1000 (newB w0) ?_
  repeat (refine J.seq (J.region mixed hI (by kernel_rfl) ?_))
  refine Plan.boxC (key := 1000) rfl rfl rfl (by intro _ e; cases e; decide) rfl rfl hA fun a => ?_
  refine Plan.boxC (key := 1000) rfl rfl rfl (by intro _ e; cases e; decide) rfl rfl hA fun b => ?_
  repeat (first | refine Plan.assign rfl rfl rfl rfl ?_ | refine J.seq (J.seq (J.region mixed hI (by kernel_rfl) ?_)))
  refine Plan.call (B := w0.heap.size) rfl rfl rfl (awakeB_fn) Try.func14 rfl rfl (hBb w0) (by repeat (exact Opnds.nil)) ?_
  repeat (first | refine Plan.move rfl rfl rfl rfl ?_ | refine Plan.un rfl rfl rfl rfl rfl ?_)
  refine Plan.lenRow (m := l.length) rfl rfl rfl rfl (Sub.old fun _ h => h) Try.underlying22 (by rw [flat_len itLI]) (by decide) ?_
  repeat (first | refine Plan.pick rfl rfl rfl rfl rfl ?_ | (refine Plan.ints rfl rfl rfl rfl rfl rfl ?_; (skip)))
  refine J.condD rfl (fun hc => ?_) (fun hc => ?_)
  · repeat (refine J.seq (J.region mixed hI (by kernel_rfl) ?_))
    refine Plan.call (B := w0.heap.size) rfl rfl rfl (awakeB_fn) Try.func14 rfl rfl (hBb w0) (by repeat (exact Opnds.nil)) ?_
    repeat (refine Plan.assign rfl rfl rfl rfl ?_)
    exact J.ret (Nrm.ret1 rfl (fun _ h => h) rfl fun B _ => Sub.refl _)
  have hsm : l.length ≤ 300 := by omega
  repeat (first | refine J.seq (J.region mixed hI (by kernel_rfl) ?_) | refine J.skip ?_)
  refine Plan.callN (key := 1000) rfl rfl rfl (new_fnI) Try.func15 rfl rfl (by intro _ e; cases e; decide) (by repeat (exact Opnds.nil)) rfl hA ?_
  intro β _
  repeat (first | refine Plan.move rfl rfl rfl rfl ?_ | refine Plan.assign rfl rfl rfl rfl ?_ | refine Plan.eqlPtr rfl rfl rfl rfl (by kernel_rfl) ?_ | refine J.seq (J.seq (J.region mixed hI (by kernel_rfl) ?_)) | refine J.condF rfl ?_ | refine J.skip ?_)
  refine Plan.lenRow (m := l.length) rfl rfl rfl rfl (Sub.old fun _ h => h) Try.underlying22 (by rw [flat_len itLI]) (by decide) ?_
  repeat (refine Plan.move rfl rfl rfl rfl ?_)
  refine J.block (J.loop (gtE w0 l d e x a b β) (fun i => i ≤ l.length) (fun i => l.length - i) 0 (Nat.zero_le _) ?_ ?_)
  · repeat (first | exact Weak.nil | refine Weak.cons rfl (Sub.refl _) ?_)
  intro i hi
  repeat (first | (refine Plan.ints rfl rfl rfl rfl rfl rfl ?_; (skip)) | refine J.seq (J.region mixed hI (by kernel_rfl) ?_))
  refine J.seq (J.condD rfl (fun hc => ?_) (fun hc => ?_))
  · have hlt : i < l.length := by omega
    have hx : l[i]? = some l[i] := List.getElem?_eq_getElem hlt
    have hgd : l.getD i it0I = l[i] := by rw [List.getD_eq_getElem?_getD, hx]; rfl
    have hbl := len_putAll ([] : List (Dt × Int)) (l.take i)
    rw [List.length_take, List.length_nil] at hbl
    repeat (refine J.skip ?_)
    refine J.seq (J.block ?_)
    repeat (first | refine Plan.move rfl rfl rfl rfl ?_ | refine Plan.assign rfl rfl rfl rfl ?_ | refine J.seq (J.region mixed hI (by kernel_rfl) ?_) | refine J.region mixed hI (by kernel_rfl) ?_)
    refine Plan.indexAddr itI 3 l it0I rfl rfl rfl rfl (Sub.old fun _ h => h) rfl eltRef itLI (by omega) (by omega) ?_
    rw [Int.toNat_natCast, hgd]
    refine Plan.fieldPtr (us := [vi l[i].1.1, vi l[i].1.2]) rfl rfl rfl rfl (Sub.refl _) Try.underlying30 rfl (by kernel_rfl) rfl ?_
    refine Plan.loadAggP rfl rfl rfl rfl (Sub.refl _) Try.underlying28 rfl (by kernel_rfl) ?_
    repeat (refine Plan.move rfl rfl rfl rfl ?_)
    refine Plan.indexAddr itI 3 l it0I rfl rfl rfl rfl (Sub.old fun _ h => h) rfl eltRef itLI (by omega) (by omega) ?_
    rw [Int.toNat_natCast, hgd]
    refine Plan.fieldPtr (us := [vi l[i].2]) rfl rfl rfl rfl (Sub.refl _) Try.underlying30 rfl (by kernel_rfl) rfl ?_
    refine Plan.load rfl rfl rfl rfl (Sub.refl _) Try.underlying3 rfl ?_
    refine Plan.callC (key := 1000) (q := 2) rfl rfl rfl (put_fnI β (putAll [] (l.take i)) (sorted_putAll sorted_nil _) (by omega) l[i].1 l[i].2) Try.func16 rfl rfl (by intro _ e; cases e; decide) (by repeat (first | exact Opnds.nil | refine Opnds.cons rfl (by exact Sub.refl _) ?_)) rfl hA rfl ?_
    intro _ _
    rw [← putAll_snoc, ← List.take_succ_eq_append_getElem hlt]
    repeat (first | refine Plan.move rfl rfl rfl rfl ?_ | (refine Plan.ints rfl rfl rfl rfl rfl rfl ?_; (refine Plan.int (i64r (by omega)) ?_)) | refine J.region mixed hI (by kernel_rfl) ?_)
    refine Plan.int (y := ((i + 1 : Nat) : Int)) (by omega) ?_
    repeat (fail)
    exact Nrm.next (i + 1) (by omega) (by omega) (by repeat (first | exact Weak.nil | refine Weak.cons rfl (Sub.refl _) ?_))
  have hie : i = l.length := by omega
  subst hie
  refine J.exit ?_
  have hE : gtE w0 l d e x a b β l.length = gtF w0 l d e x a b β l.length (putAll [] l) := by unfold gtE; rw [List.take_length]
  rw [hE]
  have hbl := len_putAll ([] : List (Dt × Int)) l
  rw [List.length_nil] at hbl
  have hbs := sorted_putAll (sorted_nil (α := Int)) l
  obtain ⟨B, hB⟩ : ∃ B, B = putAll [] l := ⟨_, rfl⟩
  rw [← hB] at hbl hbs ⊢
  have hbl2 := len_put_le B d x
  have hbs2 := sorted_put hbs d x
  have hlen := len_put B d x
  have hv1 : valD (putD B d x) d 0 = x := by rw [val_put hbs, if_pos rfl]
  have hh1 : hereD (putD B d x) d = true := by rw [here_put hbs]; simp
  have hv2 : d ≠ e → valD (putD B d x) e 0 = valD B e 0 := fun hne => by rw [val_put hbs, if_neg (Ne.symm hne)]
  have hh2 : d ≠ e → hereD (putD B d x) e = hereD B e := fun hne => by rw [here_put hbs]; simp [Ne.symm hne]
  have hr1 : hereD (remD (putD B d x) d) d = false := by rw [here_rem hbs2]; simp
  repeat (first | refine Plan.move rfl rfl rfl rfl ?_ | refine J.seq (J.region mixed hI (by kernel_rfl) ?_))
  refine Plan.loadAggC (key := 1000) (q := 1) (vs := [vi e.1, vi e.2]) rfl rfl rfl rfl rfl rfl (obj_reads rfl) Try.underlying28 rfl (by kernel_rfl) (by decide) ?_
  refine Plan.callR (key := 1000) (B := 0) (q := 2) rfl rfl rfl (get_fnI β B hbs (by omega) e) Try.func19 rfl rfl (fun _ _ => Nat.zero_le _) (by repeat (first | exact Opnds.nil | refine Opnds.cons rfl (by exact Sub.refl _) ?_)) rfl rfl (by decide) ?_
  repeat (first | refine Plan.move rfl rfl rfl rfl ?_ | refine Plan.assign rfl rfl rfl rfl ?_ | refine Plan.extract rfl rfl rfl rfl rfl ?_ | refine J.seq (J.region mixed hI (by kernel_rfl) ?_))
  refine Plan.callR (key := 1000) (B := 0) (q := 2) rfl rfl rfl (len_fnI β B) Try.func20 rfl rfl (fun _ _ => Nat.zero_le _) (by repeat (first | exact Opnds.nil | refine Opnds.cons rfl (by exact Sub.refl _) ?_)) rfl rfl (by decide) ?_
  repeat (first | refine Plan.move rfl rfl rfl rfl ?_ | refine Plan.assign rfl rfl rfl rfl ?_ | refine J.seq (J.region mixed hI (by kernel_rfl) ?_))
  refine Plan.loadAggC (key := 1000) (q := 0) (vs := [vi d.1, vi d.2]) rfl rfl rfl rfl rfl rfl (obj_reads rfl) Try.underlying28 rfl (by kernel_rfl) (by decide) ?_
  refine Plan.callR (key := 1000) (B := 0) (q := 2) rfl rfl rfl (get_fnI β B hbs (by omega) d) Try.func19 rfl rfl (fun _ _ => Nat.zero_le _) (by repeat (first | exact Opnds.nil | refine Opnds.cons rfl (by exact Sub.refl _) ?_)) rfl rfl (by decide) ?_
  repeat (first | refine Plan.move rfl rfl rfl rfl ?_ | refine Plan.assign rfl rfl rfl rfl ?_ | refine Plan.extract rfl rfl rfl rfl rfl ?_ | refine J.seq (J.region mixed hI (by kernel_rfl) ?_))
  refine Plan.loadAggC (key := 1000) (q := 0) (vs := [vi d.1, vi d.2]) rfl rfl rfl rfl rfl rfl (obj_reads rfl) Try.underlying28 rfl (by kernel_rfl) (by decide) ?_
  repeat (refine Plan.move rfl rfl rfl rfl ?_)
  refine Plan.callC (key := 1000) (q := 2) rfl rfl rfl (put_fnI β B hbs (by omega) d x) Try.func16 rfl rfl (by intro _ e; cases e; decide) (by repeat (first | exact Opnds.nil | refine Opnds.cons rfl (by exact Sub.refl _) ?_)) rfl hA rfl ?_
  intro _ _
  obtain ⟨B', hB'⟩ : ∃ B', B' = putD B d x := ⟨_, rfl⟩
  rw [← hB'] at hbl2 hbs2 hlen hv1 hh1 hv2 hh2 hr1 ⊢
  repeat (first | refine Plan.move rfl rfl rfl rfl ?_ | refine J.seq (J.region mixed hI (by kernel_rfl) ?_))
  refine Plan.loadAggC (key := 1000) (q := 0) (vs := [vi d.1, vi d.2]) rfl rfl rfl rfl rfl rfl (obj_reads rfl) Try.underlying28 rfl (by kernel_rfl) (by decide) ?_
  refine Plan.callR (key := 1000) (B := 0) (q := 2) rfl rfl rfl (get_fnI β B' hbs2 (by omega) d) Try.func19 rfl rfl (fun _ _ => Nat.zero_le _) (by repeat (first | exact Opnds.nil | refine Opnds.cons rfl (by exact Sub.refl _) ?_)) rfl rfl (by decide) ?_
  rw [hv1, hh1]
  repeat (first | refine Plan.move rfl rfl rfl rfl ?_ | refine Plan.assign rfl rfl rfl rfl ?_ | refine Plan.extract rfl rfl rfl rfl rfl ?_ | refine J.seq (J.region mixed hI (by kernel_rfl) ?_))
  refine Plan.loadAggC (key := 1000) (q := 1) (vs := [vi e.1, vi e.2]) rfl rfl rfl rfl rfl rfl (obj_reads rfl) Try.underlying28 rfl (by kernel_rfl) (by decide) ?_
  refine Plan.callR (key := 1000) (B := 0) (q := 2) rfl rfl rfl (get_fnI β B' hbs2 (by omega) e) Try.func19 rfl rfl (fun _ _ => Nat.zero_le _) (by repeat (first | exact Opnds.nil | refine Opnds.cons rfl (by exact Sub.refl _) ?_)) rfl rfl (by decide) ?_
  repeat (first | refine Plan.move rfl rfl rfl rfl ?_ | refine Plan.assign rfl rfl rfl rfl ?_ | refine Plan.extract rfl rfl rfl rfl rfl ?_ | (refine Plan.ints rfl rfl rfl rfl rfl rfl ?_; (skip)) | refine J.seq (J.seq (J.region mixed hI (by kernel_rfl) ?_)))
  refine Plan.boolv (y := false) (by simp) ?_
  repeat (first | refine Plan.move rfl rfl rfl rfl ?_ | refine Plan.pick rfl rfl rfl rfl rfl ?_ | refine Plan.un rfl rfl rfl rfl rfl ?_)
  refine Plan.loadAggC (key := 1000) (q := 0) (vs := [vi d.1, vi d.2]) rfl rfl rfl rfl rfl rfl (obj_reads rfl) Try.underlying28 rfl (by kernel_rfl) (by decide) ?_
  refine Plan.loadAggC (key := 1000) (q := 1) (vs := [vi e.1, vi e.2]) rfl rfl rfl rfl rfl rfl (obj_reads rfl) Try.underlying28 rfl (by kernel_rfl) (by decide) ?_
  refine Plan.neqDt d e rfl rfl rfl rfl rfl hd he ?_
  have hbs3 := sorted_rem hbs2 d
  have hbs4 := sorted_rem hbs3 d
  have hbl3 : (remD B' d).length ≤ B'.length := by rw [len_rem]; split <;> omega
  have hbl4 : (remD (remD B' d) d).length ≤ (remD B' d).length := by rw [len_rem]; split <;> omega
  have hr2 : hereD (remD (remD B' d) d) d = false := by rw [here_rem hbs3]; simp
  by_cases hde : d = e
  · refine Plan.boolv (y := false) (by simp [hde]) ?_
    repeat (first | refine Plan.move rfl rfl rfl rfl ?_ | refine Plan.skip rfl rfl ?_ | refine Plan.pick rfl rfl rfl rfl rfl ?_)
    cases hk : hereD B d with
    | true =>
      rw [hk, if_pos rfl] at hlen
      repeat (refine Plan.move rfl rfl rfl rfl ?_)
      refine Plan.callR (key := 1000) (B := 0) (q := 2) rfl rfl rfl (len_fnI β B') Try.func20 rfl rfl (fun _ _ => Nat.zero_le _) (by repeat (first | exact Opnds.nil | refine Opnds.cons rfl (by exact Sub.refl _) ?_)) rfl rfl (by decide) ?_
      repeat (first | refine Plan.move rfl rfl rfl rfl ?_ | refine Plan.pick rfl rfl rfl rfl rfl ?_ | (refine Plan.ints rfl rfl rfl rfl rfl rfl ?_; (skip)))
      refine Plan.boolv (y := false) (by rw [hlen]; simp) ?_
      repeat (first | refine Plan.move rfl rfl rfl rfl ?_ | refine Plan.skip rfl rfl ?_ | refine Plan.pick rfl rfl rfl rfl rfl ?_ | refine Plan.un rfl rfl rfl rfl rfl ?_ | refine J.seq (J.seq (J.region mixed hI (by kernel_rfl) ?_)) | refine J.condF rfl ?_ | refine J.skip ?_)
      refine Plan.loadAggC (key := 1000) (q := 0) (vs := [vi d.1, vi d.2]) rfl rfl rfl rfl rfl rfl (obj_reads rfl) Try.underlying28 rfl (by kernel_rfl) (by decide) ?_
      refine Plan.callC (key := 1000) (q := 2) rfl rfl rfl (remove_fnI β B' hbs2 (by omega) d) Try.func21 rfl rfl (by intro _ e; cases e; decide) (by repeat (first | exact Opnds.nil | refine Opnds.cons rfl (by exact Sub.refl _) ?_)) rfl hA rfl ?_
      intro _ _
      rw [hh1]
      repeat (first | refine Plan.move rfl rfl rfl rfl ?_ | refine Plan.un rfl rfl rfl rfl rfl ?_)
      refine Plan.loadAggC (key := 1000) (q := 0) (vs := [vi d.1, vi d.2]) rfl rfl rfl rfl rfl rfl (obj_reads rfl) Try.underlying28 rfl (by kernel_rfl) (by decide) ?_
      refine Plan.callC (key := 1000) (q := 2) rfl rfl rfl (remove_fnI β (remD B' d) hbs3 (by omega) d) Try.func21 rfl rfl (by intro _ e; cases e; decide) (by repeat (first | exact Opnds.nil | refine Opnds.cons rfl (by exact Sub.refl _) ?_)) rfl hA rfl ?_
      intro _ _
      rw [hr1]
      repeat (first | refine Plan.move rfl rfl rfl rfl ?_ | refine Plan.pick rfl rfl rfl rfl rfl ?_ | refine J.seq (J.region mixed hI (by kernel_rfl) ?_) | refine J.condF rfl ?_ | refine J.skip ?_)
      refine Plan.loadAggC (key := 1000) (q := 0) (vs := [vi d.1, vi d.2]) rfl rfl rfl rfl rfl rfl (obj_reads rfl) Try.underlying28 rfl (by kernel_rfl) (by decide) ?_
      refine Plan.callR (key := 1000) (B := 0) (q := 2) rfl rfl rfl (get_fnI β (remD (remD B' d) d) hbs4 (by omega) d) Try.func19 rfl rfl (fun _ _ => Nat.zero_le _) (by repeat (first | exact Opnds.nil | refine Opnds.cons rfl (by exact Sub.refl _) ?_)) rfl rfl (by decide) ?_
      rw [hr2]
      repeat (first | refine Plan.move rfl rfl rfl rfl ?_ | refine Plan.assign rfl rfl rfl rfl ?_ | refine Plan.extract rfl rfl rfl rfl rfl ?_ | refine Plan.un rfl rfl rfl rfl rfl ?_ | refine J.seq (J.region mixed hI (by kernel_rfl) ?_))
      exact J.ret (Nrm.ret1 rfl (fun _ h => h) rfl fun B _ => Sub.refl _)
    | false =>
      rw [hk, if_neg (by decide)] at hlen
      repeat (first | refine Plan.move rfl rfl rfl rfl ?_ | refine Plan.skip rfl rfl ?_ | refine Plan.pick rfl rfl rfl rfl rfl ?_ | refine Plan.un rfl rfl rfl rfl rfl ?_)
      refine Plan.callR (key := 1000) (B := 0) (q := 2) rfl rfl rfl (len_fnI β B') Try.func20 rfl rfl (fun _ _ => Nat.zero_le _) (by repeat (first | exact Opnds.nil | refine Opnds.cons rfl (by exact Sub.refl _) ?_)) rfl rfl (by decide) ?_
      repeat (first | refine Plan.move rfl rfl rfl rfl ?_ | refine Plan.pick rfl rfl rfl rfl rfl ?_ | (refine Plan.ints rfl rfl rfl rfl rfl rfl ?_; (first | refine Plan.int (i64r (by omega)) ?_ | skip)))
      refine Plan.boolv (y := false) (by rw [hlen]; simp) ?_
      repeat (first | refine Plan.move rfl rfl rfl rfl ?_ | refine J.seq (J.seq (J.region mixed hI (by kernel_rfl) ?_)) | refine J.condF rfl ?_ | refine J.skip ?_)
      refine Plan.loadAggC (key := 1000) (q := 0) (vs := [vi d.1, vi d.2]) rfl rfl rfl rfl rfl rfl (obj_reads rfl) Try.underlying28 rfl (by kernel_rfl) (by decide) ?_
      refine Plan.callC (key := 1000) (q := 2) rfl rfl rfl (remove_fnI β B' hbs2 (by omega) d) Try.func21 rfl rfl (by intro _ e; cases e; decide) (by repeat (first | exact Opnds.nil | refine Opnds.cons rfl (by exact Sub.refl _) ?_)) rfl hA rfl ?_
      intro _ _
      rw [hh1]
      repeat (first | refine Plan.move rfl rfl rfl rfl ?_ | refine Plan.un rfl rfl rfl rfl rfl ?_)
      refine Plan.loadAggC (key := 1000) (q := 0) (vs := [vi d.1, vi d.2]) rfl rfl rfl rfl rfl rfl (obj_reads rfl) Try.underlying28 rfl (by kernel_rfl) (by decide) ?_
      refine Plan.callC (key := 1000) (q := 2) rfl rfl rfl (remove_fnI β (remD B' d) hbs3 (by omega) d) Try.func21 rfl rfl (by intro _ e; cases e; decide) (by repeat (first | exact Opnds.nil | refine Opnds.cons rfl (by exact Sub.refl _) ?_)) rfl hA rfl ?_
      intro _ _
      rw [hr1]
      repeat (first | refine Plan.move rfl rfl rfl rfl ?_ | refine Plan.pick rfl rfl rfl rfl rfl ?_ | refine J.seq (J.region mixed hI (by kernel_rfl) ?_) | refine J.condF rfl ?_ | refine J.skip ?_)
      refine Plan.loadAggC (key := 1000) (q := 0) (vs := [vi d.1, vi d.2]) rfl rfl rfl rfl rfl rfl (obj_reads rfl) Try.underlying28 rfl (by kernel_rfl) (by decide) ?_
      refine Plan.callR (key := 1000) (B := 0) (q := 2) rfl rfl rfl (get_fnI β (remD (remD B' d) d) hbs4 (by omega) d) Try.func19 rfl rfl (fun _ _ => Nat.zero_le _) (by repeat (first | exact Opnds.nil | refine Opnds.cons rfl (by exact Sub.refl _) ?_)) rfl rfl (by decide) ?_
      rw [hr2]
      repeat (first | refine Plan.move rfl rfl rfl rfl ?_ | refine Plan.assign rfl rfl rfl rfl ?_ | refine Plan.extract rfl rfl rfl rfl rfl ?_ | refine Plan.un rfl rfl rfl rfl rfl ?_ | refine J.seq (J.region mixed hI (by kernel_rfl) ?_))
      exact J.ret (Nrm.ret1 rfl (fun _ h => h) rfl fun B _ => Sub.refl _)
  · refine Plan.boolv (y := true) (by simp [hde]) ?_
    rw [hv2 hde, hh2 hde]
    repeat (first | refine Plan.move rfl rfl rfl rfl ?_ | (refine Plan.ints rfl rfl rfl rfl rfl rfl ?_; (skip)))
    refine Plan.boolv (y := false) (by simp) ?_
    repeat (refine Plan.move rfl rfl rfl rfl ?_)
    refine Plan.bools rfl rfl rfl rfl rfl Try.underlying4 (.inr ⟨rfl, rfl⟩) ?_
    refine Plan.boolv (y := false) (by simp) ?_
    repeat (first | refine Plan.move rfl rfl rfl rfl ?_ | refine Plan.pick rfl rfl rfl rfl rfl ?_)
    cases hk : hereD B d with
    | true =>
      rw [hk, if_pos rfl] at hlen
      repeat (refine Plan.move rfl rfl rfl rfl ?_)
      refine Plan.callR (key := 1000) (B := 0) (q := 2) rfl rfl rfl (len_fnI β B') Try.func20 rfl rfl (fun _ _ => Nat.zero_le _) (by repeat (first | exact Opnds.nil | refine Opnds.cons rfl (by exact Sub.refl _) ?_)) rfl rfl (by decide) ?_
      repeat (first | refine Plan.move rfl rfl rfl rfl ?_ | refine Plan.pick rfl rfl rfl rfl rfl ?_ | (refine Plan.ints rfl rfl rfl rfl rfl rfl ?_; (skip)))
      refine Plan.boolv (y := false) (by rw [hlen]; simp) ?_
      repeat (first | refine Plan.move rfl rfl rfl rfl ?_ | refine Plan.skip rfl rfl ?_ | refine Plan.pick rfl rfl rfl rfl rfl ?_ | refine Plan.un rfl rfl rfl rfl rfl ?_ | refine J.seq (J.seq (J.region mixed hI (by kernel_rfl) ?_)) | refine J.condF rfl ?_ | refine J.skip ?_)
      refine Plan.loadAggC (key := 1000) (q := 0) (vs := [vi d.1, vi d.2]) rfl rfl rfl rfl rfl rfl (obj_reads rfl) Try.underlying28 rfl (by kernel_rfl) (by decide) ?_
      refine Plan.callC (key := 1000) (q := 2) rfl rfl rfl (remove_fnI β B' hbs2 (by omega) d) Try.func21 rfl rfl (by intro _ e; cases e; decide) (by repeat (first | exact Opnds.nil | refine Opnds.cons rfl (by exact Sub.refl _) ?_)) rfl hA rfl ?_
      intro _ _
      rw [hh1]
      repeat (first | refine Plan.move rfl rfl rfl rfl ?_ | refine Plan.un rfl rfl rfl rfl rfl ?_)
      refine Plan.loadAggC (key := 1000) (q := 0) (vs := [vi d.1, vi d.2]) rfl rfl rfl rfl rfl rfl (obj_reads rfl) Try.underlying28 rfl (by kernel_rfl) (by decide) ?_
      refine Plan.callC (key := 1000) (q := 2) rfl rfl rfl (remove_fnI β (remD B' d) hbs3 (by omega) d) Try.func21 rfl rfl (by intro _ e; cases e; decide) (by repeat (first | exact Opnds.nil | refine Opnds.cons rfl (by exact Sub.refl _) ?_)) rfl hA rfl ?_
      intro _ _
      rw [hr1]
      repeat (first | refine Plan.move rfl rfl rfl rfl ?_ | refine Plan.pick rfl rfl rfl rfl rfl ?_ | refine J.seq (J.region mixed hI (by kernel_rfl) ?_) | refine J.condF rfl ?_ | refine J.skip ?_)
      refine Plan.loadAggC (key := 1000) (q := 0) (vs := [vi d.1, vi d.2]) rfl rfl rfl rfl rfl rfl (obj_reads rfl) Try.underlying28 rfl (by kernel_rfl) (by decide) ?_
      refine Plan.callR (key := 1000) (B := 0) (q := 2) rfl rfl rfl (get_fnI β (remD (remD B' d) d) hbs4 (by omega) d) Try.func19 rfl rfl (fun _ _ => Nat.zero_le _) (by repeat (first | exact Opnds.nil | refine Opnds.cons rfl (by exact Sub.refl _) ?_)) rfl rfl (by decide) ?_
      rw [hr2]
      repeat (first | refine Plan.move rfl rfl rfl rfl ?_ | refine Plan.assign rfl rfl rfl rfl ?_ | refine Plan.extract rfl rfl rfl rfl rfl ?_ | refine Plan.un rfl rfl rfl rfl rfl ?_ | refine J.seq (J.region mixed hI (by kernel_rfl) ?_))
      exact J.ret (Nrm.ret1 rfl (fun _ h => h) rfl fun B _ => Sub.refl _)
    | false =>
      rw [hk, if_neg (by decide)] at hlen
      repeat (first | refine Plan.move rfl rfl rfl rfl ?_ | refine Plan.skip rfl rfl ?_ | refine Plan.pick rfl rfl rfl rfl rfl ?_ | refine Plan.un rfl rfl rfl rfl rfl ?_)
      refine Plan.callR (key := 1000) (B := 0) (q := 2) rfl rfl rfl (len_fnI β B') Try.func20 rfl rfl (fun _ _ => Nat.zero_le _) (by repeat (first | exact Opnds.nil | refine Opnds.cons rfl (by exact Sub.refl _) ?_)) rfl rfl (by decide) ?_
      repeat (first | refine Plan.move rfl rfl rfl rfl ?_ | refine Plan.pick rfl rfl rfl rfl rfl ?_ | (refine Plan.ints rfl rfl rfl rfl rfl rfl ?_; (first | refine Plan.int (i64r (by omega)) ?_ | skip)))
      refine Plan.boolv (y := false) (by rw [hlen]; simp) ?_
      repeat (first | refine Plan.move rfl rfl rfl rfl ?_ | refine J.seq (J.seq (J.region mixed hI (by kernel_rfl) ?_)) | refine J.condF rfl ?_ | refine J.skip ?_)
      refine Plan.loadAggC (key := 1000) (q := 0) (vs := [vi d.1, vi d.2]) rfl rfl rfl rfl rfl rfl (obj_reads rfl) Try.underlying28 rfl (by kernel_rfl) (by decide) ?_
      refine Plan.callC (key := 1000) (q := 2) rfl rfl rfl (remove_fnI β B' hbs2 (by omega) d) Try.func21 rfl rfl (by intro _ e; cases e; decide) (by repeat (first | exact Opnds.nil | refine Opnds.cons rfl (by exact Sub.refl _) ?_)) rfl hA rfl ?_
      intro _ _
      rw [hh1]
      repeat (first | refine Plan.move rfl rfl rfl rfl ?_ | refine Plan.un rfl rfl rfl rfl rfl ?_)
      refine Plan.loadAggC (key := 1000) (q := 0) (vs := [vi d.1, vi d.2]) rfl rfl rfl rfl rfl rfl (obj_reads rfl) Try.underlying28 rfl (by kernel_rfl) (by decide) ?_
      refine Plan.callC (key := 1000) (q := 2) rfl rfl rfl (remove_fnI β (remD B' d) hbs3 (by omega) d) Try.func21 rfl rfl (by intro _ e; cases e; decide) (by repeat (first | exact Opnds.nil | refine Opnds.cons rfl (by exact Sub.refl _) ?_)) rfl hA rfl ?_
      intro _ _
      rw [hr1]
      repeat (first | refine Plan.move rfl rfl rfl rfl ?_ | refine Plan.pick rfl rfl rfl rfl rfl ?_ | refine J.seq (J.region mixed hI (by kernel_rfl) ?_) | refine J.condF rfl ?_ | refine J.skip ?_)
      refine Plan.loadAggC (key := 1000) (q := 0) (vs := [vi d.1, vi d.2]) rfl rfl rfl rfl rfl rfl (obj_reads rfl) Try.underlying28 rfl (by kernel_rfl) (by decide) ?_
      refine Plan.callR (key := 1000) (B := 0) (q := 2) rfl rfl rfl (get_fnI β (remD (remD B' d) d) hbs4 (by omega) d) Try.func19 rfl rfl (fun _ _ => Nat.zero_le _) (by repeat (first | exact Opnds.nil | refine Opnds.cons rfl (by exact Sub.refl _) ?_)) rfl rfl (by decide) ?_
      rw [hr2]
      repeat (first | refine Plan.move rfl rfl rfl rfl ?_ | refine Plan.assign rfl rfl rfl rfl ?_ | refine Plan.extract rfl rfl rfl rfl rfl ?_ | refine Plan.un rfl rfl rfl rfl rfl ?_ | refine J.seq (J.region mixed hI (by kernel_rfl) ?_))
      exact J.ret (Nrm.ret1 rfl (fun _ h => h) rfl fun B _ => Sub.refl _)
theorem lawGetsC (ls : List (List Value)) (a b : List Value) (x : Int) (hl : ls.length ≤ 9223372036854775807) (hc : ∀ c ∈ ls, CellsOk kdsItem c) (ha : CellsOk kdsDot a) (hb : CellsOk kdsDot b) (_ : -9223372036854775808 ≤ x ∧ x ≤ 9223372036854775807) :
    Spc Try.prog 4 [row 3 ls.flatten, .ex (.agg a.toArray), .ex (.agg b.toArray), .ex (vi x)] fun _ => .ex (.bool true) := by
  obtain ⟨l, h1, h2, _⟩ := items_of ls hc
  obtain ⟨d, rfl, hd⟩ := dot_of ha
  obtain ⟨e, rfl, he⟩ := dot_of hb
  rw [h2]
  exact lawGets l d e x (by omega) hd he
end Go.Proofs.Ytkhcjedlopiicaa
