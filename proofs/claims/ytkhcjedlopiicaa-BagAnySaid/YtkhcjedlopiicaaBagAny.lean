/-
  The law BagAny returns true for all arguments.
-/
import Derived.Test.YtkhcjedlopiicaaBagOp
import Derived.Test.YtkhcjedlopiicaaBagPlain5
set_option linter.unusedSimpArgs false
set_option linter.unusedVariables false
set_option maxRecDepth 20000
namespace Go.Proofs.Ytkhcjedlopiicaa
open Go.Free Go.RowKit Go.Proofs
set_option maxHeartbeats 8000000

theorem whNilS : WhOkS .nilFunc (fun _ => true) := .inl ⟨rfl, rfl⟩
def stepA (o : OpB) (l : List (Dt × Int)) : List (Dt × Int) := if o.k = 1 then putD l o.d (lowX o.x) else if o.k = 3 then remD l o.d else if o.k = 4 then keepI o.v (fun _ => true) l else l
def okA (x : Dt × Int) : Prop := okD x.1 ∧ 0 ≤ x.2 ∧ x.2 ≤ 63
theorem stepA_ok {o : OpB} {l : List (Dt × Int)} (hs : sortedD l) (hok : ∀ x ∈ l, okA x) (ho : okD o.d) : sortedD (stepA o l) ∧ (∀ x ∈ stepA o l, okA x) ∧ (stepA o l).length ≤ l.length + 1 := by
  have hlow := lowX_le o.x
  unfold stepA
  split
  · refine ⟨sorted_put hs _ _, fun x hx => ?_, len_put_le _ _ _⟩
    rcases (mem_put hs o.d (lowX o.x) x.1 x.2).1 hx with ⟨h1, h2⟩ | h1
    · exact ⟨h1 ▸ ho, by omega, by omega⟩
    · exact hok _ h1.2
  · split
    · refine ⟨sorted_rem hs _, fun x hx => hok _ ((mem_rem hs o.d x.1 x.2).1 hx).2, ?_⟩
      rw [len_rem]; split <;> omega
    · split
      · exact ⟨hs.filter _, fun x hx => hok _ (List.mem_filter.1 hx).1, Nat.le_succ_of_le (List.length_filter_le _ _)⟩
      · exact ⟨hs, hok, Nat.le_succ _⟩
def anE (w0 : World) (sc : List OpB) (a b : Nat) (i : Nat) (L : List (Dt × Int)) : Env :=
  [(0, old w0 (opsB sc)), (3, .ex (ptr a)), (4, .ex (ptr b)), (28, .ex (vi sc.length)), (29, .ex (vi i)), (1000, heap (newB w0) [bagCI a L, bagCS b (mapX zS L)])]
def anZ (K : List (Dt × Int)) (i : Nat) : Env :=
  [(8, row 3 (K.flatMap itI)), (9, row 3 ((mapX zS K).flatMap itS)), (88, .ex (vi K.length)), (89, .ex (vi i))]
theorem lawAny (sc : List OpB) (hl : sc.length ≤ 9223372036854775807) (hok : ∀ o ∈ sc, okD o.d ∧ in64 o.x) :
    Spc Try.prog 7 [opsB sc] fun _ => .ex (.bool true) := by
  refine Spc.intro Try.func7 rfl (Nat.le_of_ble_eq_true rfl) fun w0 => ?_
  have hI := hIb w0
  have hA := Own.below w0
  refine J.heap0 1000 (newB w0) ?_
  repeat (first | refine Plan.assign rfl rfl rfl rfl ?_ | refine J.seq (J.region mixed hI (by kernel_rfl) ?_) | refine J.seq (J.seq (J.region mixed hI (by kernel_rfl) ?_)))
  refine Plan.call (B := w0.heap.size) rfl rfl rfl (awakeB_fn) Try.func14 rfl rfl (hBb w0) (by repeat (exact Opnds.nil)) ?_
  repeat (first | refine Plan.move rfl rfl rfl rfl ?_ | refine Plan.un rfl rfl rfl rfl rfl ?_)
  refine Plan.lenRow (m := sc.length) rfl rfl rfl rfl (Sub.old fun _ h => h) Try.underlying45 (by rw [flatMap_length _ 20 encB]) (by decide) ?_
  repeat (first | refine Plan.pick rfl rfl rfl rfl rfl ?_ | (refine Plan.ints rfl rfl rfl rfl rfl rfl ?_; (skip)))
  refine J.condD rfl (fun hc => ?_) (fun hc => ?_)
  · repeat (refine J.seq (J.region mixed hI (by kernel_rfl) ?_))
    refine Plan.call (B := w0.heap.size) rfl rfl rfl (awakeB_fn) Try.func14 rfl rfl (hBb w0) (by repeat (exact Opnds.nil)) ?_
    repeat (refine Plan.assign rfl rfl rfl rfl ?_)
    exact J.ret (Nrm.ret1 rfl (fun _ h => h) rfl fun B _ => Sub.refl _)
  have hsm : sc.length ≤ 300 := by omega
  repeat (first | refine J.seq (J.region mixed hI (by kernel_rfl) ?_) | refine J.skip ?_)
  refine Plan.callN (key := 1000) rfl rfl rfl (new_fnI) Try.func15 rfl rfl (by intro _ e; cases e; decide) (by repeat (exact Opnds.nil)) rfl hA ?_
  intro a _
  refine Plan.callN (key := 1000) rfl rfl rfl (new_fnS) Try.func30 rfl rfl (by intro _ e; cases e; decide) (by repeat (exact Opnds.nil)) rfl hA ?_
  intro b _
  repeat (first | refine Plan.move rfl rfl rfl rfl ?_ | refine Plan.assign rfl rfl rfl rfl ?_ | refine Plan.pick rfl rfl rfl rfl rfl ?_ | refine Plan.eqlPtr rfl rfl rfl rfl (by kernel_rfl) ?_ | refine J.seq (J.seq (J.region mixed hI (by kernel_rfl) ?_)) | refine J.condF rfl ?_ | refine J.skip ?_)
  refine Plan.lenRow (m := sc.length) rfl rfl rfl rfl (Sub.old fun _ h => h) Try.underlying45 (by rw [flatMap_length _ 20 encB]) (by decide) ?_
  repeat (refine Plan.move rfl rfl rfl rfl ?_)
  refine J.block (J.loop (fun s : Nat × List (Dt × Int) => anE w0 sc a b s.1 s.2) (fun s => s.1 ≤ sc.length ∧ sortedD s.2 ∧ (∀ x ∈ s.2, okA x) ∧ s.2.length ≤ s.1) (fun s => sc.length - s.1) (0, []) ⟨Nat.zero_le _, sorted_nil, by simp, Nat.le_refl _⟩ ?_ ?_)
  · repeat (first | exact Weak.nil | refine Weak.cons rfl (Sub.refl _) ?_)
  rintro ⟨i, L⟩ ⟨hi, hs, hokL, hLl⟩
  simp only at hi hs hokL hLl
  change J _ _ _ _ _ (anE w0 sc a b i L)
  repeat (first | (refine Plan.ints rfl rfl rfl rfl rfl rfl ?_; (skip)) | refine J.seq (J.region mixed hI (by kernel_rfl) ?_))
  refine J.seq (J.condD rfl (fun hc => ?_) (fun hc => ?_))
  · have hlt : i < sc.length := by omega
    have hget : sc.getD i ob0 = sc[i] := by simp [List.getD_eq_getElem?_getD, List.getElem?_eq_getElem hlt]
    obtain ⟨o, ho⟩ : ∃ o, o = sc[i] := ⟨_, rfl⟩
    have hoM : o ∈ sc := by rw [ho]; exact List.getElem_mem hlt
    have hoV := hok o hoM
    rw [← ho] at hget
    have hst := stepA_ok hs hokL hoV.1
    have hlow := lowX_le o.x
    have hsS := sorted_mapX (f := zS) hs
    have hlS := len_mapX zS L
    repeat (refine J.skip ?_)
    refine J.seqMid (σ := Unit) (fun _ => anE w0 sc a b i (stepA o L)) (fun _ => True) (J.block ?_) ?_
    · repeat (first | refine Plan.move rfl rfl rfl rfl ?_ | refine Plan.assign rfl rfl rfl rfl ?_ | refine J.seq (J.region mixed hI (by kernel_rfl) ?_))
      refine Plan.indexAddr OpB.enc 20 sc ob0 rfl rfl rfl rfl (Sub.old fun _ h => h) rfl eltOpB encB (by omega) (by omega) ?_
      rw [Int.toNat_natCast, hget]
      refine Plan.loadAggP rfl rfl rfl rfl (Sub.refl _) Try.underlying52 rfl (by rw [encB]; kernel_rfl) ?_
      refine Plan.allocC (key := 1000) (z := .agg ob0.enc.toArray) rfl rfl rfl (by intro _ e; cases e; decide) (by kernel_rfl) rfl hA fun ξ => ?_
      refine Plan.storeC (key := 1000) (q := 2) (off := 0) rfl rfl rfl rfl rfl rfl (fun u hu => encB_one o u hu) (by show _ = some o.enc.toArray.size; kernel_rfl) rfl hA rfl (obj_pat (Nat.le_of_ble_eq_true rfl)) ?_
      refine J.regroup (key := 1000) [bagCI a L, bagCS b (mapX zS L), obj ξ o.enc] rfl (Ent.refl _) ?_
      refine J.seq (J.region mixed hI (by kernel_rfl) ?_)
      repeat (first | refine Plan.assign rfl rfl rfl rfl ?_ | (refine Plan.ints rfl rfl rfl rfl rfl rfl ?_; (skip)) | refine Plan.fieldC rfl rfl rfl rfl (by first | exact Try.underlying86 | exact Try.underlying52) rfl (by kernel_rfl) (by exact (rfl : _ = 3)) ?_ | refine Plan.loadC (key := 1000) (q := 2) rfl rfl rfl rfl rfl rfl (obj_reads1 rfl) (by exact Try.underlying3) (by rfl) (by decide) ?_)
      refine Plan.int (y := (lowX o.x : Int)) (show IntKind.i64.wrap ((lowX o.x : Nat) : Int) = (lowX o.x : Int) from i64r (by omega)) ?_
      have hdone : ∀ L', L' = stepA o L → Ent (allC [bagCI a L', bagCS b (mapX zS L'), obj ξ o.enc]) (allC [bagCI a (stepA o L), bagCS b (mapX zS (stepA o L))]) := fun L' hL' => by
        subst hL'; exact Ent.pickC [0, 1] rfl rfl
      repeat (first | refine Plan.fieldC rfl rfl rfl rfl (by first | exact Try.underlying86 | exact Try.underlying52) rfl (by kernel_rfl) (by exact (rfl : _ = 0)) ?_ | refine Plan.loadC (key := 1000) (q := 2) rfl rfl rfl rfl rfl rfl (obj_reads1 rfl) (by exact Try.underlying3) (by rfl) (by decide) ?_ | refine J.seq (J.region mixed hI (by kernel_rfl) ?_))
      refine J.block ?_
      repeat (first | refine Plan.assign rfl rfl rfl rfl ?_ | (refine Plan.ints rfl rfl rfl rfl rfl rfl ?_; (skip)) | refine J.seq (J.region mixed hI (by kernel_rfl) ?_))
      refine J.condE rfl (fun k1 => ?_) (fun k1 => ?_)
      · have hS : putD L o.d (lowX o.x) = stepA o L := by unfold stepA; rw [if_pos k1]
        repeat (first | refine Plan.move rfl rfl rfl rfl ?_ | refine Plan.fieldC rfl rfl rfl rfl (by first | exact Try.underlying86 | exact Try.underlying52) rfl (by kernel_rfl) (by exact (rfl : _ = 1)) ?_ | refine J.seq (J.region mixed hI (by kernel_rfl) ?_))
        refine Plan.loadAggC (key := 1000) (q := 2) (off := 1) (vs := [vi o.d.1, vi o.d.2]) rfl rfl rfl rfl rfl rfl (obj_reads rfl) Try.underlying28 rfl (by kernel_rfl) (by decide) ?_
        repeat (refine Plan.move rfl rfl rfl rfl ?_)
        refine Plan.callC (key := 1000) (q := 0) rfl rfl rfl (put_fnI a L hs (by omega) o.d (lowX o.x)) Try.func16 rfl rfl (by intro _ e; cases e; decide) (by repeat (first | exact Opnds.nil | refine Opnds.cons rfl (by exact Sub.refl _) ?_)) rfl hA rfl ?_
        intro _ _
        repeat (first | refine Plan.move rfl rfl rfl rfl ?_ | refine Plan.fieldC rfl rfl rfl rfl (by first | exact Try.underlying86 | exact Try.underlying52) rfl (by kernel_rfl) (by exact (rfl : _ = 1)) ?_ | refine J.region mixed hI (by kernel_rfl) ?_)
        refine Plan.loadAggC (key := 1000) (q := 2) (off := 1) (vs := [vi o.d.1, vi o.d.2]) rfl rfl rfl rfl rfl rfl (obj_reads rfl) Try.underlying28 rfl (by kernel_rfl) (by decide) ?_
        repeat (refine Plan.move rfl rfl rfl rfl ?_)
        refine Plan.makeN (B := 0) (c := lowX o.x) rfl rfl rfl rfl rfl eltB (fun _ _ => Nat.zero_le _) (by omega) ?_
        rw [madeBs]
        refine Plan.convBS (p := List.replicate (lowX o.x) 0) rfl rfl rfl rfl Sub.own Try.underlying61 Try.underlying9 Try.underlying5 ?_
        have hz : List.replicate (lowX o.x) (0 : UInt8) = zS (lowX o.x) := by unfold zS; rw [Int.toNat_natCast]
        rw [hz]
        refine Plan.callC (key := 1000) (q := 1) rfl rfl rfl (put_fnS b (mapX zS L) hsS (by omega) o.d (zS (lowX o.x))) Try.func31 rfl rfl (by intro _ e; cases e; decide) (by repeat (first | exact Opnds.nil | refine Opnds.cons rfl (by exact Sub.refl _) ?_)) rfl hA rfl ?_
        intro _ _
        rw [put_mapX]
        repeat (fail)
        exact Nrm.mid () trivial (Weak.cons rfl (Sub.refl _) (Weak.cons rfl (Sub.refl _) (Weak.cons rfl (Sub.refl _) (Weak.cons rfl (Sub.refl _) (Weak.cons rfl (Sub.refl _) (Weak.cons rfl (Sub.heap (hdone _ hS)) Weak.nil))))))
      repeat (first | refine Plan.assign rfl rfl rfl rfl ?_ | (refine Plan.ints rfl rfl rfl rfl rfl rfl ?_; (skip)) | refine J.seq (J.region mixed hI (by kernel_rfl) ?_))
      refine J.condE rfl (fun k3 => ?_) (fun k3 => ?_)
      · have hS : remD L o.d = stepA o L := by unfold stepA; rw [if_neg k1, if_pos k3]
        have hI0 := hI
        have hA0 := hA
        refine J.frame (key := 1000) 2 rfl rfl fun hAξ => ?_
        have hI := framed_I (β := ξ) (cs := o.enc) hI0
        have hA := framed_own (β := ξ) (cs := o.enc) hA0
        refine J.seq (J.loose2 [(4, ptr b), (5, .pointer (some ⟨ξ, 1, none⟩)), (6, aggD o.d.1 o.d.2)] [(4, .ex (ptr b)), (6, .ex (ptr ξ))] mixed hI rfl rfl rfl (by kernel_rfl) (by kernel_rfl) (by kernel_rfl) rfl rfl (fun ⟨_, _, h⟩ => h) (fun _ _ _ _ h => h) (by repeat (first | exact Weak.nil | refine Weak.cons rfl (Sub.refl _) ?_)) ?_ ?_)
        · refine Gives.cons [(4, .ex (ptr b)), (6, .ex (ptr ξ))] (by kernel_rfl) rfl (by kernel_rfl) (Plan.move rfl rfl rfl rfl (Plan.gives rfl)) ?_
          refine Gives.cons [(4, .ex (ptr b)), (6, .ex (ptr ξ))] (by kernel_rfl) rfl (by kernel_rfl) (Plan.fieldC rfl rfl rfl rfl (by exact Try.underlying52) rfl (by kernel_rfl) rfl (Plan.gives rfl)) ?_
          exact Gives.cons [(62, .ex (.pointer (some ⟨ξ, 1, none⟩))), (4, .ex (ptr b)), (6, .ex (ptr ξ))] (by kernel_rfl) rfl (by kernel_rfl) (Plan.loadAggI (vs := [vi o.d.1, vi o.d.2]) rfl rfl rfl rfl (framed_cell rfl) Try.underlying28 rfl (by kernel_rfl) (Plan.gives rfl)) Gives.nil
        repeat (first | refine Plan.move rfl rfl rfl rfl ?_ | refine Plan.fieldC rfl rfl rfl rfl (by first | exact Try.underlying86 | exact Try.underlying52) rfl (by kernel_rfl) (by exact (rfl : _ = 1)) ?_)
        refine Plan.loadAggI (vs := [vi o.d.1, vi o.d.2]) rfl rfl rfl rfl (framed_cell rfl) Try.underlying28 rfl (by kernel_rfl) ?_
        refine Plan.callC (key := 1000) (q := 0) rfl rfl rfl (remove_fnI a L hs (by omega) o.d) Try.func21 rfl rfl (by intro _ e; cases e; decide) (by repeat (first | exact Opnds.nil | refine Opnds.cons rfl (by exact Sub.refl _) ?_)) rfl hA rfl ?_
        intro _ _
        repeat (refine Plan.assign rfl rfl rfl rfl ?_)
        refine Plan.callC (key := 1000) (q := 1) rfl rfl rfl (remove_fnS b (mapX zS L) hsS (by omega) o.d) Try.func32 rfl rfl (by intro _ e; cases e; decide) (by repeat (first | exact Opnds.nil | refine Opnds.cons rfl (by exact Sub.refl _) ?_)) rfl hA rfl ?_
        intro _ _
        rw [rem_mapX, here_mapX]
        refine Plan.bools rfl rfl rfl rfl rfl Try.underlying4 (.inr ⟨rfl, rfl⟩) ?_
        refine Plan.boolv (y := false) (by simp) ?_
        refine J.unframe (key := 1000) hAξ rfl ?_
        have hI := hI0
        have hA := hA0
        repeat (first | refine J.condF rfl ?_ | refine J.skip ?_)
        exact Nrm.mid () trivial (Weak.cons rfl (Sub.refl _) (Weak.cons rfl (Sub.refl _) (Weak.cons rfl (Sub.refl _) (Weak.cons rfl (Sub.refl _) (Weak.cons rfl (Sub.refl _) (Weak.cons rfl (Sub.heap (hdone _ hS)) Weak.nil))))))
      repeat (first | refine Plan.assign rfl rfl rfl rfl ?_ | (refine Plan.ints rfl rfl rfl rfl rfl rfl ?_; (skip)) | refine J.seq (J.region mixed hI (by kernel_rfl) ?_))
      refine J.condE rfl (fun k4 => ?_) (fun k4 => ?_)
      · have hS : keepI o.v (fun _ => true) L = stepA o L := by unfold stepA; rw [if_neg k1, if_neg k3, if_pos k4]
        have hI0 := hI
        have hA0 := hA
        refine J.frame (key := 1000) 2 rfl rfl fun hAξ => ?_
        have hI := framed_I (β := ξ) (cs := o.enc) hI0
        have hA := framed_own (β := ξ) (cs := o.enc) hA0
        refine J.seq (J.loose2 [(4, ptr b), (5, .pointer (some ⟨ξ, 4, none⟩)), (6, aggV o.v)] [(4, .ex (ptr b)), (6, .ex (ptr ξ))] mixed hI rfl rfl rfl (by kernel_rfl) (by kernel_rfl) (by kernel_rfl) rfl rfl (fun ⟨_, _, h⟩ => h) (fun _ _ _ _ h => h) (by repeat (first | exact Weak.nil | refine Weak.cons rfl (Sub.refl _) ?_)) ?_ ?_)
        · refine Gives.cons [(4, .ex (ptr b)), (6, .ex (ptr ξ))] (by kernel_rfl) rfl (by kernel_rfl) (Plan.move rfl rfl rfl rfl (Plan.gives rfl)) ?_
          refine Gives.cons [(4, .ex (ptr b)), (6, .ex (ptr ξ))] (by kernel_rfl) rfl (by kernel_rfl) (Plan.fieldC rfl rfl rfl rfl (by exact Try.underlying52) rfl (by kernel_rfl) rfl (Plan.gives rfl)) ?_
          exact Gives.cons [(73, .ex (.pointer (some ⟨ξ, 4, none⟩))), (4, .ex (ptr b)), (6, .ex (ptr ξ))] (by kernel_rfl) rfl (by kernel_rfl) (Plan.loadAggI (vs := vList o.v) rfl rfl rfl rfl (framed_cell rfl) Try.underlying42 rfl (by kernel_rfl) (Plan.gives rfl)) Gives.nil
        repeat (first | refine Plan.move rfl rfl rfl rfl ?_ | refine Plan.fieldC rfl rfl rfl rfl (by first | exact Try.underlying86 | exact Try.underlying52) rfl (by kernel_rfl) (by exact (rfl : _ = 4)) ?_)
        refine Plan.loadAggI (vs := vList o.v) rfl rfl rfl rfl (framed_cell rfl) Try.underlying42 rfl (by kernel_rfl) ?_
        refine Plan.callC (key := 1000) (q := 0) rfl rfl rfl (drop_fnI a L (by omega) o.v .nilFunc _ whNil) Try.func22 rfl rfl (by intro _ e; cases e; decide) (by repeat (first | exact Opnds.nil | refine Opnds.cons rfl (by exact Sub.refl _) ?_)) rfl hA rfl ?_
        intro _ _
        repeat (refine Plan.assign rfl rfl rfl rfl ?_)
        refine Plan.callC (key := 1000) (q := 1) rfl rfl rfl (drop_fnS b (mapX zS L) (by omega) o.v .nilFunc _ whNilS) Try.func33 rfl rfl (by intro _ e; cases e; decide) (by repeat (first | exact Opnds.nil | refine Opnds.cons rfl (by exact Sub.refl _) ?_)) rfl hA rfl ?_
        intro _ _
        rw [keep_mapX, len_mapX, len_mapX]
        repeat ((refine Plan.ints rfl rfl rfl rfl rfl rfl ?_; (skip)))
        refine Plan.boolv (y := false) (by simp) ?_
        refine J.unframe (key := 1000) hAξ rfl ?_
        have hI := hI0
        have hA := hA0
        repeat (first | refine J.condF rfl ?_ | refine J.skip ?_)
        exact Nrm.mid () trivial (Weak.cons rfl (Sub.refl _) (Weak.cons rfl (Sub.refl _) (Weak.cons rfl (Sub.refl _) (Weak.cons rfl (Sub.refl _) (Weak.cons rfl (Sub.refl _) (Weak.cons rfl (Sub.heap (hdone _ hS)) Weak.nil))))))
      · have hS : L = stepA o L := by unfold stepA; rw [if_neg k1, if_neg k3, if_neg k4]
        repeat (refine J.skip ?_)
        exact Nrm.mid () trivial (Weak.cons rfl (Sub.refl _) (Weak.cons rfl (Sub.refl _) (Weak.cons rfl (Sub.refl _) (Weak.cons rfl (Sub.refl _) (Weak.cons rfl (Sub.refl _) (Weak.cons rfl (Sub.heap (hdone _ hS)) Weak.nil))))))
    intro _ _
    repeat (first | refine Plan.move rfl rfl rfl rfl ?_ | (refine Plan.ints rfl rfl rfl rfl rfl rfl ?_; (refine Plan.int (i64r (by omega)) ?_)) | refine J.region mixed hI (by kernel_rfl) ?_)
    refine Plan.int (y := ((i + 1 : Nat) : Int)) (by omega) ?_
    repeat (fail)
    exact Nrm.next (ok := fun s : Nat × List (Dt × Int) => s.1 ≤ sc.length ∧ sortedD s.2 ∧ (∀ x ∈ s.2, okA x) ∧ s.2.length ≤ s.1) (s := (i, L)) (i + 1, stepA o L) ⟨by simp only; omega, hst.1, hst.2.1, by simp only; omega⟩ (by simp only; omega) (by repeat (first | exact Weak.nil | refine Weak.cons rfl (Sub.refl _) ?_))
  have hlS := len_mapX zS L
  refine J.exit ?_
  repeat (first | refine Plan.move rfl rfl rfl rfl ?_ | refine J.seq (J.region mixed hI (by kernel_rfl) ?_))
  refine Plan.callR (key := 1000) (B := 0) (q := 0) rfl rfl rfl (items_fnI a L (by omega)) Try.func17 rfl rfl (fun _ _ => Nat.zero_le _) (by repeat (first | exact Opnds.nil | refine Opnds.cons rfl (by exact Sub.refl _) ?_)) rfl rfl (by decide) ?_
  repeat (refine Plan.move rfl rfl rfl rfl ?_)
  refine Plan.callR (key := 1000) (B := 0) (q := 1) rfl rfl rfl (items_fnS b (mapX zS L) (by omega)) Try.func34 rfl rfl (fun _ _ => Nat.zero_le _) (by repeat (first | exact Opnds.nil | refine Opnds.cons rfl (by exact Sub.refl _) ?_)) rfl rfl (by decide) ?_
  repeat (first | refine Plan.move rfl rfl rfl rfl ?_ | refine Plan.assign rfl rfl rfl rfl ?_ | refine J.seq (J.seq (J.region mixed hI (by kernel_rfl) ?_)))
  refine Plan.lenRow (m := L.length) rfl rfl rfl rfl Sub.own Try.underlying31 (by rw [flat_len itLI]) (by decide) ?_
  repeat (refine Plan.move rfl rfl rfl rfl ?_)
  refine Plan.lenRow (m := L.length) rfl rfl rfl rfl Sub.own Try.underlying63 (by rw [flat_len itLS, hlS]) (by decide) ?_
  repeat ((refine Plan.ints rfl rfl rfl rfl rfl rfl ?_; (skip)))
  refine Plan.boolv (y := false) (by simp) ?_
  repeat (first | refine Plan.move rfl rfl rfl rfl ?_ | refine J.seq (J.seq (J.region mixed hI (by kernel_rfl) ?_)) | refine J.condF rfl ?_ | refine J.skip ?_)
  refine Plan.lenRow (m := L.length) rfl rfl rfl rfl Sub.own Try.underlying31 (by rw [flat_len itLI]) (by decide) ?_
  repeat (refine Plan.move rfl rfl rfl rfl ?_)
  refine J.block (J.loop (anZ L) (fun i => i ≤ L.length) (fun i => L.length - i) 0 (Nat.zero_le _) ?_ ?_)
  · exact Weak.cons rfl Sub.own (Weak.cons rfl Sub.own (by repeat (first | exact Weak.nil | refine Weak.cons rfl (Sub.refl _) ?_)))
  intro k hk
  repeat (first | (refine Plan.ints rfl rfl rfl rfl rfl rfl ?_; (skip)) | refine J.seq (J.region mixed hI (by kernel_rfl) ?_))
  refine J.seq (J.condD rfl (fun hc => ?_) (fun hc => ?_))
  · have hlt : k < L.length := by omega
    have hx : L[k]? = some L[k] := List.getElem?_eq_getElem hlt
    have hgd : L.getD k it0I = L[k] := by rw [List.getD_eq_getElem?_getD, hx]; rfl
    have hgS : (mapX zS L).getD k it0S = (L[k].1, zS L[k].2) := by rw [List.getD_eq_getElem?_getD]; unfold mapX; rw [List.getElem?_map, hx]; rfl
    have hki := hokL _ (List.getElem_mem hlt)
    repeat (refine J.skip ?_)
    refine J.seq (J.block ?_)
    repeat (first | refine Plan.move rfl rfl rfl rfl ?_ | refine Plan.assign rfl rfl rfl rfl ?_ | refine J.seq (J.region mixed hI (by kernel_rfl) ?_))
    refine Plan.indexAddr itI 3 L it0I rfl rfl rfl rfl (Sub.refl _) rfl eltItI itLI (by omega) (by omega) ?_
    rw [Int.toNat_natCast, hgd]
    refine Plan.fieldPtr (us := [vi L[k].1.1, vi L[k].1.2]) rfl rfl rfl rfl (Sub.refl _) Try.underlying33 rfl (by kernel_rfl) rfl ?_
    refine Plan.loadAggP rfl rfl rfl rfl (Sub.refl _) Try.underlying28 rfl (by kernel_rfl) ?_
    repeat (refine Plan.move rfl rfl rfl rfl ?_)
    refine Plan.indexAddr itS 3 (mapX zS L) it0S rfl rfl rfl rfl (Sub.refl _) rfl eltItS itLS (by omega) (by omega) ?_
    rw [Int.toNat_natCast, hgS]
    refine Plan.fieldPtr (us := [vi L[k].1.1, vi L[k].1.2]) rfl rfl rfl rfl (Sub.refl _) Try.underlying66 rfl (by kernel_rfl) rfl ?_
    refine Plan.loadAggP rfl rfl rfl rfl (Sub.refl _) Try.underlying28 rfl (by kernel_rfl) ?_
    refine Plan.neqDt L[k].1 L[k].1 rfl rfl rfl rfl rfl hki.1 hki.1 ?_
    refine Plan.boolv (y := false) (by simp) ?_
    repeat (refine Plan.move rfl rfl rfl rfl ?_)
    refine Plan.indexAddr itI 3 L it0I rfl rfl rfl rfl (Sub.refl _) rfl eltItI itLI (by omega) (by omega) ?_
    rw [Int.toNat_natCast, hgd]
    refine Plan.fieldPtr (us := [vi L[k].2]) rfl rfl rfl rfl (Sub.refl _) Try.underlying33 rfl (by kernel_rfl) rfl ?_
    refine Plan.load rfl rfl rfl rfl (Sub.refl _) Try.underlying3 rfl ?_
    repeat (refine Plan.move rfl rfl rfl rfl ?_)
    refine Plan.indexAddr itS 3 (mapX zS L) it0S rfl rfl rfl rfl (Sub.refl _) rfl eltItS itLS (by omega) (by omega) ?_
    rw [Int.toNat_natCast, hgS]
    refine Plan.fieldPtr (us := [str (zS L[k].2)]) rfl rfl rfl rfl (Sub.refl _) Try.underlying66 rfl (by kernel_rfl) rfl ?_
    refine Plan.load rfl rfl rfl rfl (Sub.refl _) Try.underlying9 rfl ?_
    repeat (first | refine Plan.pick rfl rfl rfl rfl rfl ?_ | refine Plan.lenStr rfl rfl rfl rfl Try.underlying9 ?_ | (refine Plan.ints rfl rfl rfl rfl rfl rfl ?_; (skip)))
    have hzl : (((zS L[k].2).length : Nat) : Int) = L[k].2 := by have := hki.2.1; unfold zS; rw [List.length_replicate]; omega
    refine Plan.boolv (y := false) (by rw [hzl]; simp) ?_
    repeat (first | refine Plan.move rfl rfl rfl rfl ?_ | (refine Plan.ints rfl rfl rfl rfl rfl rfl ?_; (refine Plan.int (i64r (by omega)) ?_)) | refine J.region mixed hI (by kernel_rfl) ?_ | refine J.condF rfl ?_ | refine J.skip ?_)
    refine Plan.int (y := ((k + 1 : Nat) : Int)) (by omega) ?_
    repeat (fail)
    exact Nrm.next (k + 1) (by omega) (by omega) (by repeat (first | exact Weak.nil | refine Weak.cons rfl (Sub.refl _) ?_))
  refine J.exit ?_
  repeat (first | refine Plan.assign rfl rfl rfl rfl ?_ | refine J.seq (J.region mixed hI (by kernel_rfl) ?_))
  exact J.ret (Nrm.ret1 rfl (fun _ h => h) rfl fun B _ => Sub.refl _)
theorem lawAnyC (ls : List (List Value)) (hl : ls.length ≤ 9223372036854775807) (hc : ∀ c ∈ ls, CellsOk kdsOp9 c) :
    Spc Try.prog 7 [row 20 ls.flatten] fun _ => .ex (.bool true) := by
  obtain ⟨sc, h1, h2, h3⟩ := opsB_of ls hc
  rw [h2]
  exact lawAny sc (by omega) h3
end Go.Proofs.Ytkhcjedlopiicaa
