/-
  The law BagPlays returns true for all arguments.
-/
import Derived.Test.YtkhcjedlopiicaaBagRef2
import Derived.Test.YtkhcjedlopiicaaBagDrops
set_option linter.unusedSimpArgs false
set_option linter.unusedVariables false
set_option maxRecDepth 20000
namespace Go.Proofs.Ytkhcjedlopiicaa
open Go.Free Go.RowKit Go.Proofs
set_option maxHeartbeats 8000000

structure OpB where
  k : Int
  d : Dt
  x : Int
  v : Nat → Int
def OpB.enc (o : OpB) : List Value := vi o.k :: vi o.d.1 :: vi o.d.2 :: vi o.x :: vList o.v
def ob0 : OpB := ⟨0, (0, 0), 0, fun _ => 0⟩
theorem encB (o : OpB) : o.enc.length = 20 := rfl
abbrev opsB (sc : List OpB) : Fa := row 20 (sc.flatMap OpB.enc)
theorem eltOpB : Elt Try.prog 45 52 (.agg ob0.enc.toArray) 20 160 := Elt.mk' Try.underlying45 (by kernel_rfl) rfl (by decide) (by decide)
theorem encB_one (o : OpB) : ∀ u ∈ o.enc, u.oneCell' = true := by simp [OpB.enc, vList, Value.oneCell']
def stepB (o : OpB) (l : List (Dt × Int)) : List (Dt × Int) := if o.k = 1 then putD l o.d o.x else if o.k = 2 then l else if o.k = 3 then remD l o.d else if o.k = 4 then keepI o.v (opP (oddB o.x)) l else l
theorem stepB_ok {o : OpB} {l : List (Dt × Int)} (hs : sortedD l) (hok : ∀ x ∈ l, okI x) (ho : okD o.d ∧ in64 o.x) : sortedD (stepB o l) ∧ (∀ x ∈ stepB o l, okI x) ∧ (stepB o l).length ≤ l.length + 1 := by
  unfold stepB
  split
  · refine ⟨sorted_put hs _ _, fun x hx => ?_, len_put_le _ _ _⟩
    rcases (mem_put hs o.d o.x x.1 x.2).1 hx with ⟨h1, h2⟩ | h1
    · exact ⟨h1 ▸ ho.1, h2 ▸ ho.2⟩
    · exact hok _ h1.2
  · split
    · exact ⟨hs, hok, Nat.le_succ _⟩
    · split
      · refine ⟨sorted_rem hs _, fun x hx => hok _ ((mem_rem hs o.d x.1 x.2).1 hx).2, ?_⟩
        rw [len_rem]; split <;> omega
      · split
        · exact ⟨sorted_keep hs, fun x hx => hok _ (List.mem_filter.1 hx).1, Nat.le_succ_of_le (List.length_filter_le _ _)⟩
        · exact ⟨hs, hok, Nat.le_succ _⟩
def smE (w0 : World) (L : List (Dt × Int)) (i : Nat) : Env := [(0, old w0 (itemsF L)), (1, old w0 (itemsF L)), (12, .ex (vi L.length)), (13, .ex (vi i))]
theorem same_fn (L : List (Dt × Int)) (hl : L.length ≤ 1000000) (hok : ∀ x ∈ L, okI x) : Spc Try.prog 29 [itemsF L, itemsF L] fun _ => .ex (.bool true) := by
  refine Spc.intro Try.func29 rfl (Nat.le_of_ble_eq_true rfl) fun w0 => ?_
  have hI := hIb w0
  repeat (first | refine Plan.move rfl rfl rfl rfl ?_ | refine Plan.assign rfl rfl rfl rfl ?_ | refine J.seq (J.region mixed hI (by kernel_rfl) ?_) | refine J.seq (J.seq (J.region mixed hI (by kernel_rfl) ?_)))
  refine Plan.lenRow (m := L.length) rfl rfl rfl rfl (Sub.old fun _ h => h) Try.underlying31 (by rw [flat_len itLI]) (by decide) ?_
  repeat (refine Plan.move rfl rfl rfl rfl ?_)
  refine Plan.lenRow (m := L.length) rfl rfl rfl rfl (Sub.old fun _ h => h) Try.underlying22 (by rw [flat_len itLI]) (by decide) ?_
  repeat ((refine Plan.ints rfl rfl rfl rfl rfl rfl ?_; (skip)))
  refine Plan.boolv (y := false) (by simp) ?_
  repeat (first | refine Plan.move rfl rfl rfl rfl ?_ | refine J.seq (J.seq (J.region mixed hI (by kernel_rfl) ?_)) | refine J.condF rfl ?_ | refine J.skip ?_)
  refine Plan.lenRow (m := L.length) rfl rfl rfl rfl (Sub.old fun _ h => h) Try.underlying31 (by rw [flat_len itLI]) (by decide) ?_
  repeat (refine Plan.move rfl rfl rfl rfl ?_)
  refine J.block (J.loop (smE w0 L) (fun i => i ≤ L.length) (fun i => L.length - i) 0 (Nat.zero_le _) ?_ ?_)
  · repeat (first | exact Weak.nil | refine Weak.cons rfl (Sub.refl _) ?_)
  intro i hi
  repeat (first | (refine Plan.ints rfl rfl rfl rfl rfl rfl ?_; (skip)) | refine J.seq (J.region mixed hI (by kernel_rfl) ?_))
  refine J.seq (J.condD rfl (fun hc => ?_) (fun hc => ?_))
  · have hlt : i < L.length := by omega
    have hx : L[i]? = some L[i] := List.getElem?_eq_getElem hlt
    have hgd : L.getD i it0I = L[i] := by rw [List.getD_eq_getElem?_getD, hx]; rfl
    have hki := hok _ (List.getElem_mem hlt)
    repeat (refine J.skip ?_)
    refine J.seq (J.block ?_)
    repeat (first | refine Plan.move rfl rfl rfl rfl ?_ | refine Plan.assign rfl rfl rfl rfl ?_ | refine J.seq (J.region mixed hI (by kernel_rfl) ?_))
    refine Plan.indexAddr itI 3 L it0I rfl rfl rfl rfl (Sub.old fun _ h => h) rfl eltItI itLI (by omega) (by omega) ?_
    rw [Int.toNat_natCast, hgd]
    refine Plan.fieldPtr (us := [vi L[i].1.1, vi L[i].1.2]) rfl rfl rfl rfl (Sub.refl _) Try.underlying33 rfl (by kernel_rfl) rfl ?_
    refine Plan.loadAggP rfl rfl rfl rfl (Sub.refl _) Try.underlying28 rfl (by kernel_rfl) ?_
    repeat (refine Plan.move rfl rfl rfl rfl ?_)
    refine Plan.indexAddr itI 3 L it0I rfl rfl rfl rfl (Sub.old fun _ h => h) rfl eltRef itLI (by omega) (by omega) ?_
    rw [Int.toNat_natCast, hgd]
    refine Plan.fieldPtr (us := [vi L[i].1.1, vi L[i].1.2]) rfl rfl rfl rfl (Sub.refl _) Try.underlying30 rfl (by kernel_rfl) rfl ?_
    refine Plan.loadAggP rfl rfl rfl rfl (Sub.refl _) Try.underlying28 rfl (by kernel_rfl) ?_
    refine Plan.neqDt L[i].1 L[i].1 rfl rfl rfl rfl rfl hki.1 hki.1 ?_
    refine Plan.boolv (y := false) (by simp) ?_
    repeat (refine Plan.move rfl rfl rfl rfl ?_)
    refine Plan.indexAddr itI 3 L it0I rfl rfl rfl rfl (Sub.old fun _ h => h) rfl eltItI itLI (by omega) (by omega) ?_
    rw [Int.toNat_natCast, hgd]
    refine Plan.fieldPtr (us := [vi L[i].2]) rfl rfl rfl rfl (Sub.refl _) Try.underlying33 rfl (by kernel_rfl) rfl ?_
    refine Plan.load rfl rfl rfl rfl (Sub.refl _) Try.underlying3 rfl ?_
    repeat (refine Plan.move rfl rfl rfl rfl ?_)
    refine Plan.indexAddr itI 3 L it0I rfl rfl rfl rfl (Sub.old fun _ h => h) rfl eltRef itLI (by omega) (by omega) ?_
    rw [Int.toNat_natCast, hgd]
    refine Plan.fieldPtr (us := [vi L[i].2]) rfl rfl rfl rfl (Sub.refl _) Try.underlying30 rfl (by kernel_rfl) rfl ?_
    refine Plan.load rfl rfl rfl rfl (Sub.refl _) Try.underlying3 rfl ?_
    repeat (first | refine Plan.pick rfl rfl rfl rfl rfl ?_ | (refine Plan.ints rfl rfl rfl rfl rfl rfl ?_; (skip)))
    refine Plan.boolv (y := false) (by simp) ?_
    repeat (first | refine Plan.move rfl rfl rfl rfl ?_ | (refine Plan.ints rfl rfl rfl rfl rfl rfl ?_; (refine Plan.int (i64r (by omega)) ?_)) | refine J.region mixed hI (by kernel_rfl) ?_ | refine J.condF rfl ?_ | refine J.skip ?_)
    refine Plan.int (y := ((i + 1 : Nat) : Int)) (by omega) ?_
    repeat (fail)
    exact Nrm.next (i + 1) (by omega) (by omega) (by repeat (first | exact Weak.nil | refine Weak.cons rfl (Sub.refl _) ?_))
  refine J.exit ?_
  repeat (first | refine Plan.assign rfl rfl rfl rfl ?_ | refine J.seq (J.region mixed hI (by kernel_rfl) ?_))
  exact J.ret (Nrm.ret1 rfl (fun _ h => h) rfl fun B _ => Sub.refl _)
theorem drops_fn (β : Nat) (L : List (Dt × Int)) (hl : L.length ≤ 1000000) (o : OpB) :
    SpcC Try.prog 26 [.ex (ptr β), .ex (.agg o.enc.toArray)] (bagCI β L) (fun _ : Unit => True) (fun _ => .ex (vi ((L.length - (keepI o.v (opP (oddB o.x)) L).length : Nat) : Int))) (fun _ => bagCI β (keepI o.v (opP (oddB o.x)) L)) := by
  refine SpcC.intro Try.func26 rfl (Nat.le_of_ble_eq_true rfl) fun w0 F => ?_
  have hI := kept_below F w0
  have hA := Own.kept F w0
  repeat (refine J.seq (J.region mixed hI (by kernel_rfl) ?_))
  refine Plan.boxC (key := 1000) rfl rfl rfl (by intro _ e; cases e; decide) rfl rfl hA fun γ => ?_
  repeat (first | refine Plan.assign rfl rfl rfl rfl ?_ | refine Plan.fieldC rfl rfl rfl rfl (by first | exact Try.underlying86 | exact Try.underlying52) rfl (by kernel_rfl) (by exact (rfl : _ = 3)) ?_ | refine Plan.loadC (key := 1000) (q := 1) rfl rfl rfl rfl rfl rfl (obj_reads1 rfl) (by exact Try.underlying3) (by rfl) (by decide) ?_ | refine J.seq (J.seq (J.region mixed hI (by kernel_rfl) ?_)))
  refine Plan.call (B := 0) rfl rfl rfl (odd_fn o.x) Try.func28 rfl rfl (fun _ _ => Nat.zero_le _) (by repeat (first | exact Opnds.nil | refine Opnds.cons rfl (by exact Sub.refl _) ?_)) ?_
  repeat (fail)
  cases hod : oddB o.x with
  | true =>
    repeat (first | refine Plan.move rfl rfl rfl rfl ?_ | refine Plan.fieldC rfl rfl rfl rfl (by first | exact Try.underlying86 | exact Try.underlying52) rfl (by kernel_rfl) (by exact (rfl : _ = 4)) ?_ | refine J.seq (J.region mixed hI (by kernel_rfl) ?_) | refine J.condT rfl ?_)
    refine Plan.loadAggC (key := 1000) (q := 1) (off := 4) (vs := vList o.v) rfl rfl rfl rfl rfl rfl (obj_reads rfl) Try.underlying42 rfl (by kernel_rfl) (by decide) ?_
    refine Plan.callC (key := 1000) (q := 0) rfl rfl rfl (drop_fnI β L hl o.v _ _ whOdd) Try.func22 rfl rfl (by intro _ e; cases e; decide) (by repeat (first | exact Opnds.nil | refine Opnds.cons rfl (by exact Sub.refl _) ?_)) rfl hA rfl ?_
    intro _ _
    repeat (refine Plan.assign rfl rfl rfl rfl ?_)
    exact J.ret (Nrm.retC1 (key := 1000) () rfl rfl rfl trivial (Sub.refl _) Ent.left)
  | false =>
    repeat (first | refine Plan.move rfl rfl rfl rfl ?_ | refine Plan.fieldC rfl rfl rfl rfl (by first | exact Try.underlying86 | exact Try.underlying52) rfl (by kernel_rfl) (by exact (rfl : _ = 4)) ?_ | refine J.seq (J.region mixed hI (by kernel_rfl) ?_) | refine J.condF rfl ?_ | refine J.skip ?_)
    refine Plan.loadAggC (key := 1000) (q := 1) (off := 4) (vs := vList o.v) rfl rfl rfl rfl rfl rfl (obj_reads rfl) Try.underlying42 rfl (by kernel_rfl) (by decide) ?_
    refine Plan.callC (key := 1000) (q := 0) rfl rfl rfl (drop_fnI β L hl o.v .nilFunc _ whNil) Try.func22 rfl rfl (by intro _ e; cases e; decide) (by repeat (first | exact Opnds.nil | refine Opnds.cons rfl (by exact Sub.refl _) ?_)) rfl hA rfl ?_
    intro _ _
    repeat (refine Plan.assign rfl rfl rfl rfl ?_)
    exact J.ret (Nrm.retC1 (key := 1000) () rfl rfl rfl trivial (Sub.refl _) Ent.left)
end Go.Proofs.Ytkhcjedlopiicaa
