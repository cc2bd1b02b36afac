/-
  The law BagPlays returns true for all arguments.
-/
import Derived.Test.YtkhcjedlopiicaaBagPlays0
set_option linter.unusedSimpArgs false
set_option linter.unusedVariables false
set_option maxRecDepth 20000
namespace Go.Proofs.Ytkhcjedlopiicaa
open Go.Free Go.RowKit Go.Proofs
set_option maxHeartbeats 8000000

def plE (w0 : World) (sc : List OpB) (b w : Nat) (i : Nat) (L : List (Dt × Int)) : Env :=
  [(0, old w0 (opsB sc)), (5, .ex (ptr b)), (6, .ex (ptr w)), (30, .ex (vi sc.length)), (31, .ex (vi i)), (1000, heap (newB w0) [bagCI b L, refC w L])]
def plM (w0 : World) (sc : List OpB) (b w ξ : Nat) (i : Nat) (cs : List Value) (L : List (Dt × Int)) : Env :=
  [(0, old w0 (opsB sc)), (5, .ex (ptr b)), (6, .ex (ptr w)), (30, .ex (vi sc.length)), (31, .ex (vi i)), (1000, heap (newB w0) [bagCI b L, refC w L, obj ξ cs])]
def plZ (w0 : World) (sc : List OpB) (w : Nat) (b : Nat) : Env :=
  [(0, old w0 (opsB sc)), (5, .ex (ptr b)), (6, .ex (ptr w)), (1000, heap (newB w0) [bagCI b [], refC w []])]
theorem lawPlaysB (sc : List OpB) (z : Bool) (hl : sc.length ≤ 9223372036854775807) (hok : ∀ o ∈ sc, okD o.d ∧ in64 o.x) :
    Spc Try.prog 6 [opsB sc, .ex (.bool z)] fun _ => .ex (.bool true) := by
  refine Spc.intro Try.func6 rfl (Nat.le_of_ble_eq_true rfl) fun w0 => ?_
  have hI := hIb w0
  have hA := Own.below w0
  refine J.heap0 1000 (newB w0) ?_
  repeat (first | refine Plan.assign rfl rfl rfl rfl ?_ | refine J.seq (J.region mixed hI (by kernel_rfl) ?_) | refine J.seq (J.seq (J.region mixed hI (by kernel_rfl) ?_)))
  refine Plan.call (B := w0.heap.size) rfl rfl rfl (awakeB_fn) Try.func14 rfl rfl (hBb w0) (by repeat (exact Opnds.nil)) ?_
  repeat (first | refine Plan.move rfl rfl rfl rfl ?_ | refine Plan.un rfl rfl rfl rfl rfl ?_)
  refine Plan.lenRow (m := sc.length) rfl rfl rfl rfl (Sub.old fun _ h => h) Try.underlying45 (by rw [flatMap_length _ 20 encB]) (by decide) ?_
  repeat (first | refine Plan.pick rfl rfl rfl rfl rfl ?_ | (refine Plan.ints rfl rfl rfl rfl rfl rfl ?_; (skip)))
  refine J.condD rfl (fun hc => ?_) (fun hc => ?_)
  · repeat (refine J.seq (J.region mixed hI (by kernel_rfl) ?_))
    refine Plan.call (B := w0.heap.size) rfl rfl rfl (awakeB_fn) Try.func14 rfl rfl (hBb w0) (by repeat (exact Opnds.nil)) ?_
    repeat (refine Plan.assign rfl rfl rfl rfl ?_)
    exact J.ret (Nrm.ret1 rfl (fun _ h => h) rfl fun B _ => Sub.refl _)
  have hsm : sc.length ≤ 300 := by omega
  repeat (first | refine J.seq (J.region mixed hI (by kernel_rfl) ?_) | refine J.skip ?_)
  refine Plan.callN (key := 1000) rfl rfl rfl (new_fnI) Try.func15 rfl rfl (by intro _ e; cases e; decide) (by repeat (exact Opnds.nil)) rfl hA ?_
  intro b _
  refine Plan.build rfl rfl rfl Parts.nil (cells := #[.slice none 0 0]) (by kernel_rfl) ?_
  refine Plan.boxC (key := 1000) rfl rfl rfl (by intro _ e; cases e; decide) rfl rfl hA fun w => ?_
  repeat (refine Plan.assign rfl rfl rfl rfl ?_)
  refine J.nilRow (key := 1000) 30 3 rfl ?_
  refine J.regroup (key := 1000) [bagCI b [], refC w []] rfl (Ent.sep (Ent.refl _) ((ref_close (l := []) (B := none) (cap := 0)).trans Ent.addEmp)) ?_
  refine J.seqMid (σ := Nat) (fun b' => plZ w0 sc w b') (fun _ => True) ?_ ?_
  · repeat (first | refine Plan.move rfl rfl rfl rfl ?_ | refine J.seq (J.region mixed hI (by kernel_rfl) ?_))
    cases z with
    | true =>
      repeat (first | refine J.region mixed hI (by kernel_rfl) ?_ | refine J.condT rfl ?_)
      refine Plan.build rfl rfl rfl Parts.nil (cells := #[.slice none 0 0]) (by kernel_rfl) ?_
      refine Plan.boxC (key := 1000) rfl rfl rfl (by intro _ e; cases e; decide) rfl rfl hA fun b' => ?_
      repeat (refine Plan.assign rfl rfl rfl rfl ?_)
      refine Nrm.mid b' trivial (Weak.cons rfl (Sub.refl _) (Weak.cons rfl (Sub.refl _) (Weak.cons rfl (Sub.refl _) (Weak.cons rfl (Sub.heap ?_) Weak.nil))))
      exact (Ent.pickC [2, 1] rfl rfl).trans (Ent.sep (Ent.addEmp.trans ((Ent.sep (Ent.refl _) Ent.nilRow).trans (Ent.ex (none, 0) (Ent.refl _)))) (Ent.refl _))
    | false =>
      repeat (first | refine J.condF rfl ?_ | refine J.skip ?_)
      exact Nrm.mid b trivial (by repeat (first | exact Weak.nil | refine Weak.cons rfl (Sub.refl _) ?_))
  intro b _
  repeat (first | refine Plan.move rfl rfl rfl rfl ?_ | refine Plan.eqlPtr rfl rfl rfl rfl (by kernel_rfl) ?_ | refine J.seq (J.seq (J.region mixed hI (by kernel_rfl) ?_)) | refine J.condF rfl ?_ | refine J.skip ?_)
  refine Plan.lenRow (m := sc.length) rfl rfl rfl rfl (Sub.old fun _ h => h) Try.underlying45 (by rw [flatMap_length _ 20 encB]) (by decide) ?_
  repeat (refine Plan.move rfl rfl rfl rfl ?_)
  refine J.block (J.loop (fun s : Nat × List (Dt × Int) => plE w0 sc b w s.1 s.2) (fun s => s.1 ≤ sc.length ∧ sortedD s.2 ∧ (∀ x ∈ s.2, okI x) ∧ s.2.length ≤ s.1) (fun s => sc.length - s.1) (0, []) ⟨Nat.zero_le _, sorted_nil, by simp, Nat.le_refl _⟩ ?_ ?_)
  · repeat (first | exact Weak.nil | refine Weak.cons rfl (Sub.refl _) ?_)
  rintro ⟨i, L⟩ ⟨hi, hs, hokL, hLl⟩
  simp only at hi hs hokL hLl
  change J _ _ _ _ _ (plE w0 sc b w i L)
  repeat (first | (refine Plan.ints rfl rfl rfl rfl rfl rfl ?_; (skip)) | refine J.seq (J.region mixed hI (by kernel_rfl) ?_))
  refine J.seq (J.condD rfl (fun hc => ?_) (fun hc => ?_))
  · have hlt : i < sc.length := by omega
    have hget : sc.getD i ob0 = sc[i] := by simp [List.getD_eq_getElem?_getD, List.getElem?_eq_getElem hlt]
    obtain ⟨o, ho⟩ : ∃ o, o = sc[i] := ⟨_, rfl⟩
    have hoM : o ∈ sc := by rw [ho]; exact List.getElem_mem hlt
    have hoV := hok o hoM
    rw [← ho] at hget
    have hst := stepB_ok hs hokL hoV
    repeat (refine J.skip ?_)
    refine J.seq (J.block ?_)
    repeat (first | refine Plan.move rfl rfl rfl rfl ?_ | refine Plan.assign rfl rfl rfl rfl ?_ | refine J.seq (J.region mixed hI (by kernel_rfl) ?_))
    refine Plan.indexAddr OpB.enc 20 sc ob0 rfl rfl rfl rfl (Sub.old fun _ h => h) rfl eltOpB encB (by omega) (by omega) ?_
    rw [Int.toNat_natCast, hget]
    refine Plan.loadAggP rfl rfl rfl rfl (Sub.refl _) Try.underlying52 rfl (by rw [encB]; kernel_rfl) ?_
    refine Plan.allocC (key := 1000) (z := .agg ob0.enc.toArray) rfl rfl rfl (by intro _ e; cases e; decide) (by kernel_rfl) rfl hA fun ξ => ?_
    refine Plan.storeC (key := 1000) (q := 2) (off := 0) rfl rfl rfl rfl rfl rfl (fun u hu => encB_one o u hu) (by show _ = some o.enc.toArray.size; kernel_rfl) rfl hA rfl (obj_pat (Nat.le_of_ble_eq_true rfl)) ?_
    refine J.regroup (key := 1000) [bagCI b L, refC w L, obj ξ o.enc] rfl (Ent.refl _) ?_
    refine J.seqMid (σ := Unit) (fun _ => plM w0 sc b w ξ i o.enc (stepB o L)) (fun _ => True) ?_ ?_
    · repeat (first | refine Plan.fieldC rfl rfl rfl rfl (by first | exact Try.underlying86 | exact Try.underlying52) rfl (by kernel_rfl) (by exact (rfl : _ = 0)) ?_ | refine Plan.loadC (key := 1000) (q := 2) rfl rfl rfl rfl rfl rfl (obj_reads1 rfl) (by exact Try.underlying3) (by rfl) (by decide) ?_ | refine J.seq (J.region mixed hI (by kernel_rfl) ?_))
      refine J.block ?_
      repeat (first | refine Plan.assign rfl rfl rfl rfl ?_ | (refine Plan.ints rfl rfl rfl rfl rfl rfl ?_; (skip)) | refine J.seq (J.region mixed hI (by kernel_rfl) ?_))
      refine J.condE rfl (fun k1 => ?_) (fun k1 => ?_)
      · have hS : stepB o L = putD L o.d o.x := by unfold stepB; rw [if_pos k1]
        rw [hS]
        repeat (first | refine Plan.move rfl rfl rfl rfl ?_ | refine Plan.fieldC rfl rfl rfl rfl (by first | exact Try.underlying86 | exact Try.underlying52) rfl (by kernel_rfl) (by exact (rfl : _ = 1)) ?_ | refine J.seq (J.region mixed hI (by kernel_rfl) ?_))
        refine Plan.loadAggC (key := 1000) (q := 2) (off := 1) (vs := [vi o.d.1, vi o.d.2]) rfl rfl rfl rfl rfl rfl (obj_reads rfl) Try.underlying28 rfl (by kernel_rfl) (by decide) ?_
        repeat (first | refine Plan.fieldC rfl rfl rfl rfl (by first | exact Try.underlying86 | exact Try.underlying52) rfl (by kernel_rfl) (by exact (rfl : _ = 3)) ?_ | refine Plan.loadC (key := 1000) (q := 2) rfl rfl rfl rfl rfl rfl (obj_reads1 rfl) (by exact Try.underlying3) (by rfl) (by decide) ?_)
        refine Plan.callC (key := 1000) (q := 0) rfl rfl rfl (put_fnI b L hs (by omega) o.d o.x) Try.func16 rfl rfl (by intro _ e; cases e; decide) (by repeat (first | exact Opnds.nil | refine Opnds.cons rfl (by exact Sub.refl _) ?_)) rfl hA rfl ?_
        intro _ _
        repeat (first | refine Plan.move rfl rfl rfl rfl ?_ | refine Plan.fieldC rfl rfl rfl rfl (by first | exact Try.underlying86 | exact Try.underlying52) rfl (by kernel_rfl) (by exact (rfl : _ = 1)) ?_ | refine J.region mixed hI (by kernel_rfl) ?_)
        refine Plan.loadAggC (key := 1000) (q := 2) (off := 1) (vs := [vi o.d.1, vi o.d.2]) rfl rfl rfl rfl rfl rfl (obj_reads rfl) Try.underlying28 rfl (by kernel_rfl) (by decide) ?_
        repeat (first | refine Plan.fieldC rfl rfl rfl rfl (by first | exact Try.underlying86 | exact Try.underlying52) rfl (by kernel_rfl) (by exact (rfl : _ = 3)) ?_ | refine Plan.loadC (key := 1000) (q := 2) rfl rfl rfl rfl rfl rfl (obj_reads1 rfl) (by exact Try.underlying3) (by rfl) (by decide) ?_)
        refine Plan.callC (key := 1000) (q := 1) rfl rfl rfl (refPut_fn w L hs (by omega) hokL o.d hoV.1 o.x) Try.func23 rfl rfl (by intro _ e; cases e; decide) (by repeat (first | exact Opnds.nil | refine Opnds.cons rfl (by exact Sub.refl _) ?_)) rfl hA rfl ?_
        intro _ _
        repeat (fail)
        exact Nrm.mid () trivial (by repeat (first | exact Weak.nil | refine Weak.cons rfl (Sub.refl _) ?_))
      repeat (first | refine Plan.assign rfl rfl rfl rfl ?_ | (refine Plan.ints rfl rfl rfl rfl rfl rfl ?_; (skip)) | refine J.seq (J.region mixed hI (by kernel_rfl) ?_))
      refine J.condE rfl (fun k2 => ?_) (fun k2 => ?_)
      · have hS : stepB o L = L := by unfold stepB; rw [if_neg k1, if_pos k2]
        rw [hS]
        repeat (first | refine Plan.move rfl rfl rfl rfl ?_ | refine Plan.fieldC rfl rfl rfl rfl (by first | exact Try.underlying86 | exact Try.underlying52) rfl (by kernel_rfl) (by exact (rfl : _ = 1)) ?_ | refine J.seq (J.region mixed hI (by kernel_rfl) ?_))
        refine Plan.loadAggC (key := 1000) (q := 2) (off := 1) (vs := [vi o.d.1, vi o.d.2]) rfl rfl rfl rfl rfl rfl (obj_reads rfl) Try.underlying28 rfl (by kernel_rfl) (by decide) ?_
        refine Plan.callR (key := 1000) (B := 0) (q := 0) rfl rfl rfl (get_fnI b L hs (by omega) o.d) Try.func19 rfl rfl (fun _ _ => Nat.zero_le _) (by repeat (first | exact Opnds.nil | refine Opnds.cons rfl (by exact Sub.refl _) ?_)) rfl rfl (by decide) ?_
        repeat (first | refine Plan.move rfl rfl rfl rfl ?_ | refine Plan.assign rfl rfl rfl rfl ?_ | refine Plan.extract rfl rfl rfl rfl rfl ?_ | refine Plan.fieldC rfl rfl rfl rfl (by first | exact Try.underlying86 | exact Try.underlying52) rfl (by kernel_rfl) (by exact (rfl : _ = 1)) ?_ | refine J.seq (J.region mixed hI (by kernel_rfl) ?_))
        refine Plan.loadAggC (key := 1000) (q := 2) (off := 1) (vs := [vi o.d.1, vi o.d.2]) rfl rfl rfl rfl rfl rfl (obj_reads rfl) Try.underlying28 rfl (by kernel_rfl) (by decide) ?_
        refine Plan.callR (key := 1000) (B := 0) (q := 1) rfl rfl rfl (refGet_fn w L hs (by omega) hokL o.d hoV.1) Try.func24 rfl rfl (fun _ _ => Nat.zero_le _) (by repeat (first | exact Opnds.nil | refine Opnds.cons rfl (by exact Sub.refl _) ?_)) rfl rfl (by decide) ?_
        repeat (first | refine Plan.move rfl rfl rfl rfl ?_ | refine Plan.assign rfl rfl rfl rfl ?_ | refine Plan.extract rfl rfl rfl rfl rfl ?_ | (refine Plan.ints rfl rfl rfl rfl rfl rfl ?_; (skip)) | refine J.seq (J.region mixed hI (by kernel_rfl) ?_))
        refine Plan.boolv (y := false) (by simp) ?_
        repeat (refine Plan.move rfl rfl rfl rfl ?_)
        refine Plan.bools rfl rfl rfl rfl rfl Try.underlying4 (.inr ⟨rfl, rfl⟩) ?_
        refine Plan.boolv (y := false) (by simp) ?_
        repeat (first | refine Plan.pick rfl rfl rfl rfl rfl ?_ | refine J.condF rfl ?_ | refine J.skip ?_)
        exact Nrm.mid () trivial (by repeat (first | exact Weak.nil | refine Weak.cons rfl (Sub.refl _) ?_))
      repeat (first | refine Plan.assign rfl rfl rfl rfl ?_ | (refine Plan.ints rfl rfl rfl rfl rfl rfl ?_; (skip)) | refine J.seq (J.region mixed hI (by kernel_rfl) ?_))
      refine J.condE rfl (fun k3 => ?_) (fun k3 => ?_)
      · have hS : stepB o L = remD L o.d := by unfold stepB; rw [if_neg k1, if_neg k2, if_pos k3]
        rw [hS]
        have hI0 := hI
        have hA0 := hA
        refine J.frame (key := 1000) 2 rfl rfl fun hAξ => ?_
        have hI := framed_I (β := ξ) (cs := o.enc) hI0
        have hA := framed_own (β := ξ) (cs := o.enc) hA0
        refine J.seq (J.loose2 [(4, ptr w), (5, .pointer (some ⟨ξ, 1, none⟩)), (6, aggD o.d.1 o.d.2)] [(6, .ex (ptr w)), (8, .ex (ptr ξ))] mixed hI rfl rfl rfl (by kernel_rfl) (by kernel_rfl) (by kernel_rfl) rfl rfl (fun ⟨_, _, h⟩ => h) (fun _ _ _ _ h => h) (by repeat (first | exact Weak.nil | refine Weak.cons rfl (Sub.refl _) ?_)) ?_ ?_)
        · refine Gives.cons [(6, .ex (ptr w)), (8, .ex (ptr ξ))] (by kernel_rfl) rfl (by kernel_rfl) (Plan.move rfl rfl rfl rfl (Plan.gives rfl)) ?_
          refine Gives.cons [(6, .ex (ptr w)), (8, .ex (ptr ξ))] (by kernel_rfl) rfl (by kernel_rfl) (Plan.fieldC rfl rfl rfl rfl (by exact Try.underlying52) rfl (by kernel_rfl) rfl (Plan.gives rfl)) ?_
          exact Gives.cons [(85, .ex (.pointer (some ⟨ξ, 1, none⟩))), (6, .ex (ptr w)), (8, .ex (ptr ξ))] (by kernel_rfl) rfl (by kernel_rfl) (Plan.loadAggI (vs := [vi o.d.1, vi o.d.2]) rfl rfl rfl rfl (framed_cell rfl) Try.underlying28 rfl (by kernel_rfl) (Plan.gives rfl)) Gives.nil
        repeat (first | refine Plan.move rfl rfl rfl rfl ?_ | refine Plan.fieldC rfl rfl rfl rfl (by first | exact Try.underlying86 | exact Try.underlying52) rfl (by kernel_rfl) (by exact (rfl : _ = 1)) ?_)
        refine Plan.loadAggI (vs := [vi o.d.1, vi o.d.2]) rfl rfl rfl rfl (framed_cell rfl) Try.underlying28 rfl (by kernel_rfl) ?_
        refine Plan.callC (key := 1000) (q := 0) rfl rfl rfl (remove_fnI b L hs (by omega) o.d) Try.func21 rfl rfl (by intro _ e; cases e; decide) (by repeat (first | exact Opnds.nil | refine Opnds.cons rfl (by exact Sub.refl _) ?_)) rfl hA rfl ?_
        intro _ _
        repeat (refine Plan.assign rfl rfl rfl rfl ?_)
        refine Plan.callC (key := 1000) (q := 1) rfl rfl rfl (refRemove_fn w L hs (by omega) hokL o.d hoV.1) Try.func25 rfl rfl (by intro _ e; cases e; decide) (by repeat (first | exact Opnds.nil | refine Opnds.cons rfl (by exact Sub.refl _) ?_)) rfl hA rfl ?_
        intro _ _
        refine Plan.bools rfl rfl rfl rfl rfl Try.underlying4 (.inr ⟨rfl, rfl⟩) ?_
        refine Plan.boolv (y := false) (by simp) ?_
        refine J.unframe (key := 1000) hAξ rfl ?_
        have hI := hI0
        have hA := hA0
        repeat (first | refine J.condF rfl ?_ | refine J.skip ?_)
        exact Nrm.mid () trivial (by repeat (first | exact Weak.nil | refine Weak.cons rfl (Sub.refl _) ?_))
      repeat (first | refine Plan.assign rfl rfl rfl rfl ?_ | (refine Plan.ints rfl rfl rfl rfl rfl rfl ?_; (skip)) | refine J.seq (J.region mixed hI (by kernel_rfl) ?_))
      refine J.condE rfl (fun k4 => ?_) (fun k4 => ?_)
      · have hS : stepB o L = keepI o.v (opP (oddB o.x)) L := by unfold stepB; rw [if_neg k1, if_neg k2, if_neg k3, if_pos k4]
        rw [hS]
        have hI0 := hI
        have hA0 := hA
        refine J.frame (key := 1000) 2 rfl rfl fun hAξ => ?_
        have hI := framed_I (β := ξ) (cs := o.enc) hI0
        have hA := framed_own (β := ξ) (cs := o.enc) hA0
        refine J.seq (J.loose2 [(3, ptr w), (4, .pointer (some ⟨ξ, 4, none⟩)), (5, aggV o.v), (6, .pointer (some ⟨ξ, 3, none⟩)), (7, vi o.x)] [(6, .ex (ptr w)), (8, .ex (ptr ξ))] mixed hI rfl rfl rfl (by kernel_rfl) (by kernel_rfl) (by kernel_rfl) rfl rfl (fun ⟨_, _, h⟩ => h) (fun _ _ _ _ h => h) (by repeat (first | exact Weak.nil | refine Weak.cons rfl (Sub.refl _) ?_)) ?_ ?_)
        · refine Gives.cons [(6, .ex (ptr w)), (8, .ex (ptr ξ))] (by kernel_rfl) rfl (by kernel_rfl) (Plan.move rfl rfl rfl rfl (Plan.gives rfl)) ?_
          refine Gives.cons [(6, .ex (ptr w)), (8, .ex (ptr ξ))] (by kernel_rfl) rfl (by kernel_rfl) (Plan.fieldC rfl rfl rfl rfl (by exact Try.underlying52) rfl (by kernel_rfl) rfl (Plan.gives rfl)) ?_
          refine Gives.cons [(95, .ex (.pointer (some ⟨ξ, 4, none⟩))), (6, .ex (ptr w)), (8, .ex (ptr ξ))] (by kernel_rfl) rfl (by kernel_rfl) (Plan.loadAggI (vs := vList o.v) rfl rfl rfl rfl (framed_cell rfl) Try.underlying42 rfl (by kernel_rfl) (Plan.gives rfl)) ?_
          refine Gives.cons [(6, .ex (ptr w)), (8, .ex (ptr ξ))] (by kernel_rfl) rfl (by kernel_rfl) (Plan.fieldC rfl rfl rfl rfl (by exact Try.underlying52) rfl (by kernel_rfl) rfl (Plan.gives rfl)) ?_
          exact Gives.cons [(97, .ex (.pointer (some ⟨ξ, 3, none⟩))), (6, .ex (ptr w)), (8, .ex (ptr ξ))] (by kernel_rfl) rfl (by kernel_rfl) (Plan.loadI rfl rfl rfl rfl (framed_cell1 rfl) Try.underlying3 rfl (Plan.gives rfl)) Gives.nil
        repeat (refine Plan.move rfl rfl rfl rfl ?_)
        refine Plan.loadAggI (vs := o.enc) rfl rfl rfl rfl (framed_cell rfl) Try.underlying52 rfl (by rw [encB]; kernel_rfl) ?_
        refine Plan.callC (key := 1000) (q := 0) rfl rfl rfl (drops_fn b L (by omega) o) Try.func26 rfl rfl (by intro _ e; cases e; decide) (by repeat (first | exact Opnds.nil | refine Opnds.cons rfl (by exact Sub.refl _) ?_)) rfl hA rfl ?_
        intro _ _
        repeat (refine Plan.assign rfl rfl rfl rfl ?_)
        refine Plan.call (B := 0) rfl rfl rfl (odd_fn o.x) Try.func28 rfl rfl (fun _ _ => Nat.zero_le _) (by repeat (first | exact Opnds.nil | refine Opnds.cons rfl (by exact Sub.refl _) ?_)) ?_
        refine Plan.callC (key := 1000) (q := 1) rfl rfl rfl (refDrop_fn w L (by omega) o.v (oddB o.x)) Try.func27 rfl rfl (by intro _ e; cases e; decide) (by repeat (first | exact Opnds.nil | refine Opnds.cons rfl (by exact Sub.refl _) ?_)) rfl hA rfl ?_
        intro _ _
        repeat ((refine Plan.ints rfl rfl rfl rfl rfl rfl ?_; (skip)))
        refine Plan.boolv (y := false) (by simp) ?_
        refine J.unframe (key := 1000) hAξ rfl ?_
        have hI := hI0
        have hA := hA0
        repeat (first | refine J.condF rfl ?_ | refine J.skip ?_)
        exact Nrm.mid () trivial (by repeat (first | exact Weak.nil | refine Weak.cons rfl (Sub.refl _) ?_))
      · have hS : stepB o L = L := by unfold stepB; rw [if_neg k1, if_neg k2, if_neg k3, if_neg k4]
        rw [hS]
        repeat (refine J.skip ?_)
        exact Nrm.mid () trivial (by repeat (first | exact Weak.nil | refine Weak.cons rfl (Sub.refl _) ?_))
    intro _ _
    obtain ⟨L', hL'⟩ : ∃ L', L' = stepB o L := ⟨_, rfl⟩
    rw [← hL'] at hst ⊢
    refine J.exC (key := 1000) (q := 1) rfl rfl fun p => ?_
    refine J.sepC (key := 1000) (q := 1) rfl rfl ?_
    obtain ⟨B, cap⟩ := p
    dsimp only
    repeat (first | refine Plan.move rfl rfl rfl rfl ?_ | refine J.seq (J.region mixed hI (by kernel_rfl) ?_))
    refine Plan.callR (key := 1000) (B := 0) (q := 0) rfl rfl rfl (len_fnI b L') Try.func20 rfl rfl (fun _ _ => Nat.zero_le _) (by repeat (first | exact Opnds.nil | refine Opnds.cons rfl (by exact Sub.refl _) ?_)) rfl rfl (by decide) ?_
    repeat (first | refine Plan.move rfl rfl rfl rfl ?_ | refine Plan.nilOk rfl rfl rfl rfl ?_ | refine Plan.fieldC rfl rfl rfl rfl (by first | exact Try.underlying86 | exact Try.underlying48) rfl (by kernel_rfl) (by exact (rfl : _ = 0)) ?_ | refine Plan.loadC (key := 1000) (q := 1) rfl rfl rfl rfl rfl rfl (obj_reads1 rfl) (by first | exact Try.underlying3 | exact Try.underlying22) (by rfl) (by decide) ?_)
    refine Plan.lenE rfl rfl rfl rfl Try.underlying22 ?_
    repeat ((refine Plan.ints rfl rfl rfl rfl rfl rfl ?_; (skip)))
    refine Plan.boolv (y := false) (by simp) ?_
    repeat (first | refine Plan.move rfl rfl rfl rfl ?_ | (refine Plan.ints rfl rfl rfl rfl rfl rfl ?_; (refine Plan.int (i64r (by omega)) ?_)) | refine J.region mixed hI (by kernel_rfl) ?_ | refine J.condF rfl ?_ | refine J.skip ?_)
    refine Plan.int (y := ((i + 1 : Nat) : Int)) (by omega) ?_
    repeat (fail)
    refine Nrm.next (ok := fun s : Nat × List (Dt × Int) => s.1 ≤ sc.length ∧ sortedD s.2 ∧ (∀ x ∈ s.2, okI x) ∧ s.2.length ≤ s.1) (s := (i, L)) (i + 1, L') ⟨by simp only; omega, hst.1, hst.2.1, by simp only; omega⟩ (by simp only; omega) ?_
    refine Weak.cons rfl (Sub.refl _) (Weak.cons rfl (Sub.refl _) (Weak.cons rfl (Sub.refl _) (Weak.cons rfl (Sub.refl _) (Weak.cons rfl (Sub.refl _) (Weak.cons rfl (Sub.heap ?_) Weak.nil)))))
    exact (Ent.pickC [0, 1, 3] rfl rfl).trans (Ent.sep (Ent.refl _) (ref_close.trans Ent.addEmp))
  refine J.exit ?_
  refine J.exC (key := 1000) (q := 1) rfl rfl fun p => ?_
  refine J.sepC (key := 1000) (q := 1) rfl rfl ?_
  obtain ⟨B, cap⟩ := p
  dsimp only
  repeat (first | refine Plan.move rfl rfl rfl rfl ?_ | refine J.seq (J.region mixed hI (by kernel_rfl) ?_))
  refine Plan.callR (key := 1000) (B := 0) (q := 0) rfl rfl rfl (items_fnI b L (by omega)) Try.func17 rfl rfl (fun _ _ => Nat.zero_le _) (by repeat (first | exact Opnds.nil | refine Opnds.cons rfl (by exact Sub.refl _) ?_)) rfl rfl (by decide) ?_
  repeat (refine Plan.move rfl rfl rfl rfl ?_)
  refine Plan.nilOk rfl rfl rfl rfl ?_
  refine Plan.fieldC rfl rfl rfl rfl (by exact Try.underlying48) rfl (by kernel_rfl) (by exact (rfl : _ = 0)) ?_
  refine Plan.loadRowC (key := 1000) (q := 1) (q2 := 2) rfl rfl rfl rfl rfl rfl (obj_reads1 rfl) rfl Try.underlying22 (by rfl) (by decide) ?_
  refine Plan.call (B := w0.heap.size) rfl rfl rfl (same_fn L (by omega) hokL) Try.func29 rfl rfl (hBb w0) (by repeat (first | exact Opnds.nil | refine Opnds.cons rfl (by first | exact Sub.refl _ | exact Sub.own) ?_)) ?_
  repeat (refine Plan.assign rfl rfl rfl rfl ?_)
  exact J.ret (Nrm.ret1 rfl (fun _ h => h) rfl fun B _ => Sub.refl _)
def kdsOp9 : List Kd := List.replicate 20 (.int .i64)
theorem opB_of {c : List Value} (h : CellsOk kdsOp9 c) : ∃ o : OpB, c = o.enc ∧ okD o.d ∧ in64 o.x := by
  obtain ⟨_, _, rfl, ⟨k, rfl, hk⟩, _, _, rfl, ⟨r, rfl, hr⟩, _, _, rfl, ⟨n, rfl, hn⟩, _, _, rfl, ⟨x, rfl, hx⟩, h⟩ := h
  obtain ⟨v, rfl⟩ := vv_of (show CellsOk kdsVV _ from h)
  exact ⟨⟨k, (r, n), x, v⟩, rfl, ⟨in64_wf.1 hr, in64_wf.1 hn⟩, in64_wf.1 hx⟩
theorem opsB_of : ∀ (ls : List (List Value)), (∀ c ∈ ls, CellsOk kdsOp9 c) → ∃ sc : List OpB, sc.length = ls.length ∧ ls.flatten = sc.flatMap OpB.enc ∧ ∀ o ∈ sc, okD o.d ∧ in64 o.x
  | [], _ => ⟨[], rfl, rfl, by simp⟩
  | c :: r, h => by
    obtain ⟨o, rfl, ho⟩ := opB_of (h c List.mem_cons_self)
    obtain ⟨sc, h1, h2, h3⟩ := opsB_of r (fun c hc => h c (List.mem_cons_of_mem _ hc))
    exact ⟨o :: sc, by simp [h1], by simp [h2], fun x hx => by rcases List.mem_cons.1 hx with rfl | hx; exact ho; exact h3 x hx⟩
theorem lawPlaysBC (ls : List (List Value)) (z : Bool) (hl : ls.length ≤ 9223372036854775807) (hc : ∀ c ∈ ls, CellsOk kdsOp9 c) :
    Spc Try.prog 6 [row 20 ls.flatten, .ex (.bool z)] fun _ => .ex (.bool true) := by
  obtain ⟨sc, h1, h2, h3⟩ := opsB_of ls hc
  rw [h2]
  exact lawPlaysB sc z (by omega) h3
end Go.Proofs.Ytkhcjedlopiicaa
