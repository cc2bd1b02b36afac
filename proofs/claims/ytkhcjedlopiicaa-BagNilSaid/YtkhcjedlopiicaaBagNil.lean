/-
  The law BagNil returns true for all arguments.
-/
import Derived.Test.YtkhcjedlopiicaaBagPlays
set_option linter.unusedSimpArgs false
set_option linter.unusedVariables false
set_option maxRecDepth 20000
namespace Go.Proofs.Ytkhcjedlopiicaa
open Go.Free Go.RowKit Go.Proofs
set_option maxHeartbeats 8000000

theorem drops_nil (o : OpB) : Spc Try.prog 26 [.ex (.pointer none), .ex (.agg o.enc.toArray)] fun _ => .ex (vi 0) := by
  refine Spc.intro Try.func26 rfl (Nat.le_of_ble_eq_true rfl) fun w0 => ?_
  have hI := hIb w0
  have hA := Own.below w0
  refine J.heap0 1000 (newB w0) ?_
  repeat (refine J.seq (J.region mixed hI (by kernel_rfl) ?_))
  refine Plan.boxC (key := 1000) rfl rfl rfl (by intro _ e; cases e; decide) rfl rfl hA fun γ => ?_
  repeat (first | refine Plan.assign rfl rfl rfl rfl ?_ | refine Plan.fieldC rfl rfl rfl rfl (by first | exact Try.underlying86 | exact Try.underlying52) rfl (by kernel_rfl) (by exact (rfl : _ = 3)) ?_ | refine Plan.loadC (key := 1000) (q := 0) rfl rfl rfl rfl rfl rfl (obj_reads1 rfl) (by exact Try.underlying3) (by rfl) (by decide) ?_ | refine J.seq (J.seq (J.region mixed hI (by kernel_rfl) ?_)))
  refine Plan.call (B := 0) rfl rfl rfl (odd_fn o.x) Try.func28 rfl rfl (fun _ _ => Nat.zero_le _) (by repeat (first | exact Opnds.nil | refine Opnds.cons rfl (by exact Sub.refl _) ?_)) ?_
  repeat (fail)
  cases hod : oddB o.x with
  | true =>
    repeat (first | refine Plan.move rfl rfl rfl rfl ?_ | refine Plan.fieldC rfl rfl rfl rfl (by first | exact Try.underlying86 | exact Try.underlying52) rfl (by kernel_rfl) (by exact (rfl : _ = 4)) ?_ | refine J.seq (J.region mixed hI (by kernel_rfl) ?_) | refine J.condT rfl ?_)
    refine Plan.loadAggC (key := 1000) (q := 0) (off := 4) (vs := vList o.v) rfl rfl rfl rfl rfl rfl (obj_reads rfl) Try.underlying42 rfl (by kernel_rfl) (by decide) ?_
    refine Plan.call (B := 0) rfl rfl rfl (drop_nilI o.v (.func (.func 28) #[] #[])) Try.func22 rfl rfl (fun _ _ => Nat.zero_le _) (by repeat (first | exact Opnds.nil | refine Opnds.cons rfl (by exact Sub.refl _) ?_)) ?_
    repeat (refine Plan.assign rfl rfl rfl rfl ?_)
    exact J.ret (Nrm.ret1 rfl (fun _ h => h) rfl fun B _ => Sub.refl _)
  | false =>
    repeat (first | refine Plan.move rfl rfl rfl rfl ?_ | refine Plan.fieldC rfl rfl rfl rfl (by first | exact Try.underlying86 | exact Try.underlying52) rfl (by kernel_rfl) (by exact (rfl : _ = 4)) ?_ | refine J.seq (J.region mixed hI (by kernel_rfl) ?_) | refine J.condF rfl ?_ | refine J.skip ?_)
    refine Plan.loadAggC (key := 1000) (q := 0) (off := 4) (vs := vList o.v) rfl rfl rfl rfl rfl rfl (obj_reads rfl) Try.underlying42 rfl (by kernel_rfl) (by decide) ?_
    refine Plan.call (B := 0) rfl rfl rfl (drop_nilI o.v .nilFunc) Try.func22 rfl rfl (fun _ _ => Nat.zero_le _) (by repeat (first | exact Opnds.nil | refine Opnds.cons rfl (by exact Sub.refl _) ?_)) ?_
    repeat (refine Plan.assign rfl rfl rfl rfl ?_)
    exact J.ret (Nrm.ret1 rfl (fun _ h => h) rfl fun B _ => Sub.refl _)
def niD (w0 : World) (l : List (Dt × Int)) (a w : Nat) (i : Nat) (B : List (Dt × Int)) : Env :=
  [(1, old w0 (itemsF l)), (8, .ex (ptr a)), (9, .ex (ptr w)), (64, .ex (vi l.length)), (65, .ex (vi i)), (1000, heap (newB w0) [bagCI a B, refC w B])]
def niE (w0 : World) (l : List (Dt × Int)) (a w : Nat) (i : Nat) : Env := niD w0 l a w i (putAll [] (l.take i))
def niF (w0 : World) (L : List (Dt × Int)) (a w : Nat) (B1 : Option Addr) (c1 : Nat) (i : Nat) (ys : List Value) : Env :=
  [(8, .ex (ptr a)), (9, .ex (ptr w)), (11, .ex (.slice B1 L.length c1)), (96, .ex (vi L.length)), (97, .ex (vi i)), (1000, heap (newB w0) [bagCI a L, refC w L, rowII B1 L.length c1 ys])]
theorem lawNilB (o : OpB) (l : List (Dt × Int)) (hl : l.length ≤ 9223372036854775807) (hok : ∀ x ∈ l, okI x) :
    Spc Try.prog 8 [.ex (.agg o.enc.toArray), itemsF l] fun _ => .ex (.bool true) := by
  refine Spc.intro Try.func8 rfl (Nat.le_of_ble_eq_true rfl) fun w0 => ?_
  have hI := hIb w0
  have hA := Own.below w0
  refine J.heap0 1000 (newB w0) ?_
  repeat (refine J.seq (J.region mixed hI (by kernel_rfl) ?_))
  refine Plan.boxC (key := 1000) rfl rfl rfl (by intro _ e; cases e; decide) rfl rfl hA fun ξ => ?_
  repeat (first | refine Plan.assign rfl rfl rfl rfl ?_ | refine J.seq (J.seq (J.region mixed hI (by kernel_rfl) ?_)))
  refine Plan.call (B := w0.heap.size) rfl rfl rfl (awakeB_fn) Try.func14 rfl rfl (hBb w0) (by repeat (exact Opnds.nil)) ?_
  repeat (first | refine Plan.move rfl rfl rfl rfl ?_ | refine Plan.un rfl rfl rfl rfl rfl ?_)
  refine Plan.lenRow (m := l.length) rfl rfl rfl rfl (Sub.old fun _ h => h) Try.underlying22 (by rw [flat_len itLI]) (by decide) ?_
  repeat (first | refine Plan.pick rfl rfl rfl rfl rfl ?_ | (refine Plan.ints rfl rfl rfl rfl rfl rfl ?_; (skip)))
  refine J.condD rfl (fun hc => ?_) (fun hc => ?_)
  · repeat (refine J.seq (J.region mixed hI (by kernel_rfl) ?_))
    refine Plan.call (B := w0.heap.size) rfl rfl rfl (awakeB_fn) Try.func14 rfl rfl (hBb w0) (by repeat (exact Opnds.nil)) ?_
    repeat (refine Plan.assign rfl rfl rfl rfl ?_)
    exact J.ret (Nrm.ret1 rfl (fun _ h => h) rfl fun B _ => Sub.refl _)
  have hsm : l.length ≤ 300 := by omega
  repeat (first | refine Plan.move rfl rfl rfl rfl ?_ | refine Plan.assign rfl rfl rfl rfl ?_ | refine Plan.fieldC rfl rfl rfl rfl (by first | exact Try.underlying86 | exact Try.underlying52) rfl (by kernel_rfl) (by exact (rfl : _ = 1)) ?_ | refine J.seq (J.region mixed hI (by kernel_rfl) ?_) | refine J.skip ?_)
  refine Plan.loadAggC (key := 1000) (q := 0) (off := 1) (vs := [vi o.d.1, vi o.d.2]) rfl rfl rfl rfl rfl rfl (obj_reads rfl) Try.underlying28 rfl (by kernel_rfl) (by decide) ?_
  repeat (first | refine Plan.fieldC rfl rfl rfl rfl (by first | exact Try.underlying86 | exact Try.underlying52) rfl (by kernel_rfl) (by exact (rfl : _ = 3)) ?_ | refine Plan.loadC (key := 1000) (q := 0) rfl rfl rfl rfl rfl rfl (obj_reads1 rfl) (by exact Try.underlying3) (by rfl) (by decide) ?_)
  refine Plan.call (B := 0) rfl rfl rfl (put_nilI o.d o.x) Try.func16 rfl rfl (fun _ _ => Nat.zero_le _) (by repeat (first | exact Opnds.nil | refine Opnds.cons rfl (by exact Sub.refl _) ?_)) ?_
  repeat (first | refine Plan.move rfl rfl rfl rfl ?_ | refine Plan.fieldC rfl rfl rfl rfl (by first | exact Try.underlying86 | exact Try.underlying52) rfl (by kernel_rfl) (by exact (rfl : _ = 1)) ?_ | refine J.seq (J.seq (J.region mixed hI (by kernel_rfl) ?_)))
  refine Plan.loadAggC (key := 1000) (q := 0) (off := 1) (vs := [vi o.d.1, vi o.d.2]) rfl rfl rfl rfl rfl rfl (obj_reads rfl) Try.underlying28 rfl (by kernel_rfl) (by decide) ?_
  refine Plan.call (B := 0) rfl rfl rfl (get_nilI o.d) Try.func19 rfl rfl (fun _ _ => Nat.zero_le _) (by repeat (first | exact Opnds.nil | refine Opnds.cons rfl (by exact Sub.refl _) ?_)) ?_
  repeat (first | refine Plan.move rfl rfl rfl rfl ?_ | refine Plan.assign rfl rfl rfl rfl ?_ | refine Plan.extract rfl rfl rfl rfl rfl ?_ | refine Plan.fieldC rfl rfl rfl rfl (by first | exact Try.underlying86 | exact Try.underlying52) rfl (by kernel_rfl) (by exact (rfl : _ = 1)) ?_ | refine J.seq (J.region mixed hI (by kernel_rfl) ?_))
  refine Plan.loadAggC (key := 1000) (q := 0) (off := 1) (vs := [vi o.d.1, vi o.d.2]) rfl rfl rfl rfl rfl rfl (obj_reads rfl) Try.underlying28 rfl (by kernel_rfl) (by decide) ?_
  refine Plan.call (B := 0) rfl rfl rfl (remove_nilI o.d) Try.func21 rfl rfl (fun _ _ => Nat.zero_le _) (by repeat (first | exact Opnds.nil | refine Opnds.cons rfl (by exact Sub.refl _) ?_)) ?_
  repeat (first | refine Plan.move rfl rfl rfl rfl ?_ | refine Plan.pick rfl rfl rfl rfl rfl ?_)
  refine Plan.loadAggC (key := 1000) (q := 0) (off := 0) (vs := o.enc) rfl rfl rfl rfl rfl rfl (obj_reads rfl) Try.underlying52 rfl (by rw [encB]; kernel_rfl) (by decide) ?_
  refine Plan.call (B := 0) rfl rfl rfl (drops_nil o) Try.func26 rfl rfl (fun _ _ => Nat.zero_le _) (by repeat (first | exact Opnds.nil | refine Opnds.cons rfl (by exact Sub.refl _) ?_)) ?_
  repeat (first | refine Plan.move rfl rfl rfl rfl ?_ | refine Plan.pick rfl rfl rfl rfl rfl ?_ | (refine Plan.ints rfl rfl rfl rfl rfl rfl ?_; (skip)))
  refine Plan.call (B := 0) rfl rfl rfl (items_nilI) Try.func17 rfl rfl (fun _ _ => Nat.zero_le _) (by repeat (first | exact Opnds.nil | refine Opnds.cons rfl (by exact Sub.refl _) ?_)) ?_
  refine Plan.lenRow (m := 0) rfl rfl rfl rfl Sub.own Try.underlying31 rfl (by decide) ?_
  repeat (first | refine Plan.move rfl rfl rfl rfl ?_ | refine Plan.pick rfl rfl rfl rfl rfl ?_ | (refine Plan.ints rfl rfl rfl rfl rfl rfl ?_; (skip)))
  refine Plan.call (B := 0) rfl rfl rfl (len_nilI) Try.func20 rfl rfl (fun _ _ => Nat.zero_le _) (by repeat (first | exact Opnds.nil | refine Opnds.cons rfl (by exact Sub.refl _) ?_)) ?_
  repeat (first | refine Plan.pick rfl rfl rfl rfl rfl ?_ | (refine Plan.ints rfl rfl rfl rfl rfl rfl ?_; (skip)) | refine J.seq (J.region mixed hI (by kernel_rfl) ?_) | refine J.condF rfl ?_ | refine J.skip ?_)
  refine Plan.regroup [] (by kernel_rfl) hI (key := 1000) rfl Ent.emp ?_
  refine Plan.callN (key := 1000) rfl rfl rfl (new_fnI) Try.func15 rfl rfl (by intro _ e; cases e; decide) (by repeat (exact Opnds.nil)) rfl hA ?_
  intro a _
  refine Plan.build rfl rfl rfl Parts.nil (cells := #[.slice none 0 0]) (by kernel_rfl) ?_
  refine Plan.boxC (key := 1000) rfl rfl rfl (by intro _ e; cases e; decide) rfl rfl hA fun w => ?_
  repeat (refine Plan.assign rfl rfl rfl rfl ?_)
  refine J.nilRow (key := 1000) 30 3 rfl ?_
  refine J.regroup (key := 1000) [bagCI a [], refC w []] rfl (Ent.sep (Ent.refl _) ((ref_close (l := []) (B := none) (cap := 0)).trans Ent.addEmp)) ?_
  repeat (first | refine Plan.move rfl rfl rfl rfl ?_ | refine Plan.eqlPtr rfl rfl rfl rfl (by kernel_rfl) ?_ | refine J.seq (J.seq (J.region mixed hI (by kernel_rfl) ?_)) | refine J.condF rfl ?_ | refine J.skip ?_)
  refine Plan.lenRow (m := l.length) rfl rfl rfl rfl (Sub.old fun _ h => h) Try.underlying22 (by rw [flat_len itLI]) (by decide) ?_
  repeat (refine Plan.move rfl rfl rfl rfl ?_)
  refine J.block (J.loop (niE w0 l a w) (fun i => i ≤ l.length) (fun i => l.length - i) 0 (Nat.zero_le _) ?_ ?_)
  · repeat (first | exact Weak.nil | refine Weak.cons rfl (Sub.refl _) ?_)
  intro i hi
  repeat (first | (refine Plan.ints rfl rfl rfl rfl rfl rfl ?_; (skip)) | refine J.seq (J.region mixed hI (by kernel_rfl) ?_))
  refine J.seq (J.condD rfl (fun hc => ?_) (fun hc => ?_))
  · have hlt : i < l.length := by omega
    have hx : l[i]? = some l[i] := List.getElem?_eq_getElem hlt
    have hgd : l.getD i it0I = l[i] := by rw [List.getD_eq_getElem?_getD, hx]; rfl
    have hbl := len_putAll ([] : List (Dt × Int)) (l.take i)
    rw [List.length_take, List.length_nil] at hbl
    have hoi := hok _ (List.getElem_mem hlt)
    have hokB : ∀ x ∈ putAll [] (l.take i), okI x := fun x hx => by
      rcases mem_putAll sorted_nil (e := x.1) (y := x.2) hx with h | h
      · cases h
      · exact hok _ (List.mem_of_mem_take h)
    repeat (refine J.skip ?_)
    refine J.seq (J.block ?_)
    repeat (first | refine Plan.move rfl rfl rfl rfl ?_ | refine Plan.assign rfl rfl rfl rfl ?_ | refine J.seq (J.region mixed hI (by kernel_rfl) ?_))
    refine Plan.indexAddr itI 3 l it0I rfl rfl rfl rfl (Sub.old fun _ h => h) rfl eltRef itLI (by omega) (by omega) ?_
    rw [Int.toNat_natCast, hgd]
    refine Plan.fieldPtr (us := [vi l[i].1.1, vi l[i].1.2]) rfl rfl rfl rfl (Sub.refl _) Try.underlying30 rfl (by kernel_rfl) rfl ?_
    refine Plan.loadAggP rfl rfl rfl rfl (Sub.refl _) Try.underlying28 rfl (by kernel_rfl) ?_
    repeat (refine Plan.move rfl rfl rfl rfl ?_)
    refine Plan.indexAddr itI 3 l it0I rfl rfl rfl rfl (Sub.old fun _ h => h) rfl eltRef itLI (by omega) (by omega) ?_
    rw [Int.toNat_natCast, hgd]
    refine Plan.fieldPtr (us := [vi l[i].2]) rfl rfl rfl rfl (Sub.refl _) Try.underlying30 rfl (by kernel_rfl) rfl ?_
    refine Plan.load rfl rfl rfl rfl (Sub.refl _) Try.underlying3 rfl ?_
    refine Plan.callC (key := 1000) (q := 0) rfl rfl rfl (put_fnI a (putAll [] (l.take i)) (sorted_putAll sorted_nil _) (by omega) l[i].1 l[i].2) Try.func16 rfl rfl (by intro _ e; cases e; decide) (by repeat (first | exact Opnds.nil | refine Opnds.cons rfl (by exact Sub.refl _) ?_)) rfl hA rfl ?_
    intro _ _
    repeat (first | refine Plan.move rfl rfl rfl rfl ?_ | refine J.region mixed hI (by kernel_rfl) ?_)
    refine Plan.indexAddr itI 3 l it0I rfl rfl rfl rfl (Sub.old fun _ h => h) rfl eltRef itLI (by omega) (by omega) ?_
    rw [Int.toNat_natCast, hgd]
    refine Plan.fieldPtr (us := [vi l[i].1.1, vi l[i].1.2]) rfl rfl rfl rfl (Sub.refl _) Try.underlying30 rfl (by kernel_rfl) rfl ?_
    refine Plan.loadAggP rfl rfl rfl rfl (Sub.refl _) Try.underlying28 rfl (by kernel_rfl) ?_
    repeat (refine Plan.move rfl rfl rfl rfl ?_)
    refine Plan.indexAddr itI 3 l it0I rfl rfl rfl rfl (Sub.old fun _ h => h) rfl eltRef itLI (by omega) (by omega) ?_
    rw [Int.toNat_natCast, hgd]
    refine Plan.fieldPtr (us := [vi l[i].2]) rfl rfl rfl rfl (Sub.refl _) Try.underlying30 rfl (by kernel_rfl) rfl ?_
    refine Plan.load rfl rfl rfl rfl (Sub.refl _) Try.underlying3 rfl ?_
    refine Plan.callC (key := 1000) (q := 1) rfl rfl rfl (refPut_fn w (putAll [] (l.take i)) (sorted_putAll sorted_nil _) (by omega) hokB l[i].1 hoi.1 l[i].2) Try.func23 rfl rfl (by intro _ e; cases e; decide) (by repeat (first | exact Opnds.nil | refine Opnds.cons rfl (by exact Sub.refl _) ?_)) rfl hA rfl ?_
    intro _ _
    rw [← putAll_snoc, ← List.take_succ_eq_append_getElem hlt]
    repeat (first | refine Plan.move rfl rfl rfl rfl ?_ | (refine Plan.ints rfl rfl rfl rfl rfl rfl ?_; (refine Plan.int (i64r (by omega)) ?_)) | refine J.region mixed hI (by kernel_rfl) ?_)
    refine Plan.int (y := ((i + 1 : Nat) : Int)) (by omega) ?_
    repeat (fail)
    exact Nrm.next (i + 1) (by omega) (by omega) (by repeat (first | exact Weak.nil | refine Weak.cons rfl (Sub.refl _) ?_))
  have hie : i = l.length := by omega
  subst hie
  refine J.exit ?_
  have hbl := len_putAll ([] : List (Dt × Int)) l
  rw [List.length_nil] at hbl
  have hbs := sorted_putAll (sorted_nil (α := Int)) l
  have hmem : ∀ x ∈ putAll [] l, okI x := fun x hx => by
    rcases mem_putAll sorted_nil (e := x.1) (y := x.2) hx with h | h
    · cases h
    · exact hok _ h
  have hE : niE w0 l a w l.length = niD w0 l a w l.length (putAll [] l) := by unfold niE; rw [List.take_length]
  rw [hE]
  obtain ⟨L, hL⟩ : ∃ L, L = putAll [] l := ⟨_, rfl⟩
  rw [← hL] at hbl hbs hmem ⊢
  repeat (first | refine Plan.move rfl rfl rfl rfl ?_ | refine J.seq (J.region mixed hI (by kernel_rfl) ?_))
  refine Plan.callRO (key := 1000) rfl rfl rfl (items_fnI a L (by omega)) (fun _ => rfl) Try.func17 rfl rfl (by intro _ e; cases e; decide) (by repeat (first | exact Opnds.nil | refine Opnds.cons rfl (by exact Sub.refl _) ?_)) rfl hA Ent.left fun B1 m1 c1 hm1 => ?_
  obtain rfl : m1 = L.length := by rw [flat_len itLI] at hm1; omega
  repeat (first | refine Plan.move rfl rfl rfl rfl ?_ | refine Plan.assign rfl rfl rfl rfl ?_ | refine J.seq (J.seq (J.region mixed hI (by kernel_rfl) ?_)))
  refine Plan.lenE rfl rfl rfl rfl Try.underlying31 ?_
  repeat (refine Plan.move rfl rfl rfl rfl ?_)
  refine J.block (J.loop (fun s : Nat × List Value => niF w0 L a w B1 c1 s.1 s.2) (fun s => s.1 ≤ L.length ∧ s.2.length = L.length * 3) (fun s => L.length - s.1) (0, L.flatMap itI) ⟨Nat.zero_le _, flat_len itLI L⟩ ?_ ?_)
  · repeat (first | exact Weak.nil | refine Weak.cons rfl (Sub.refl _) ?_)
  rintro ⟨i, ys⟩ ⟨hi, hys⟩
  simp only at hi hys
  change J _ _ _ _ _ (niF w0 L a w B1 c1 i ys)
  repeat (first | (refine Plan.ints rfl rfl rfl rfl rfl rfl ?_; (skip)) | refine J.seq (J.region mixed hI (by kernel_rfl) ?_))
  refine J.seq (J.condD rfl (fun hc => ?_) (fun hc => ?_))
  · have hlt : i < L.length := by omega
    refine J.factC (key := 1000) (q := 2) rfl rfl (fun w F h => row_room h) fun hrm => ?_
    obtain ⟨g, rfl⟩ : ∃ g, B1 = some ⟨g, 0, none⟩ := by
      cases B1 with
      | none => have := (hrm.2.2.2.1 rfl).1; omega
      | some ad => exact ⟨ad.block, by rw [← hrm.2.2.2.2 ad rfl]⟩
    repeat (refine J.skip ?_)
    refine J.seq (J.block ?_)
    repeat (first | refine Plan.move rfl rfl rfl rfl ?_ | refine Plan.assign rfl rfl rfl rfl ?_ | refine J.seq (J.region mixed hI (by kernel_rfl) ?_) | refine J.region mixed hI (by kernel_rfl) ?_)
    refine Plan.indexC (off := i * 3) rfl rfl rfl rfl rfl eltItI hlt (by omega) ?_
    refine Plan.fieldC (off := i * 3 + 2) rfl rfl rfl rfl (by exact Try.underlying33) rfl (by kernel_rfl) rfl ?_
    refine Plan.storeC (key := 1000) (q := 2) rfl rfl rfl rfl rfl rfl (by simp [Value.cells, Value.oneCell']) (by kernel_rfl) rfl hA rfl (row_pat1 (by rw [hys]; omega)) ?_
    repeat (first | refine Plan.move rfl rfl rfl rfl ?_ | (refine Plan.ints rfl rfl rfl rfl rfl rfl ?_; (refine Plan.int (i64r (by omega)) ?_)) | refine J.region mixed hI (by kernel_rfl) ?_)
    refine Plan.int (y := ((i + 1 : Nat) : Int)) (by omega) ?_
    repeat (fail)
    exact Nrm.next (ok := fun s : Nat × List Value => s.1 ≤ L.length ∧ s.2.length = L.length * 3) (s := (i, ys)) (i + 1, ys.set (i * 3 + 2) (vi (-1))) ⟨by simp only; omega, by simp only; rw [List.length_set]; exact hys⟩ (by simp only; omega) (by repeat (first | exact Weak.nil | refine Weak.cons rfl (Sub.refl _) ?_))
  refine J.exit ?_
  refine J.exC (key := 1000) (q := 1) rfl rfl fun p => ?_
  refine J.sepC (key := 1000) (q := 1) rfl rfl ?_
  obtain ⟨B, cap⟩ := p
  dsimp only
  repeat (first | refine Plan.move rfl rfl rfl rfl ?_ | refine J.seq (J.region mixed hI (by kernel_rfl) ?_))
  refine Plan.callR (key := 1000) (B := 0) (q := 0) rfl rfl rfl (items_fnI a L (by omega)) Try.func17 rfl rfl (fun _ _ => Nat.zero_le _) (by repeat (first | exact Opnds.nil | refine Opnds.cons rfl (by exact Sub.refl _) ?_)) rfl rfl (by decide) ?_
  repeat (refine Plan.move rfl rfl rfl rfl ?_)
  refine Plan.nilOk rfl rfl rfl rfl ?_
  refine Plan.fieldC rfl rfl rfl rfl (by exact Try.underlying48) rfl (by kernel_rfl) (by exact (rfl : _ = 0)) ?_
  refine Plan.loadRowC (key := 1000) (q := 1) (q2 := 3) rfl rfl rfl rfl rfl rfl (obj_reads1 rfl) rfl Try.underlying22 (by rfl) (by decide) ?_
  refine Plan.call (B := w0.heap.size) rfl rfl rfl (same_fn L (by omega) hmem) Try.func29 rfl rfl (hBb w0) (by repeat (first | exact Opnds.nil | refine Opnds.cons rfl (by first | exact Sub.refl _ | exact Sub.own) ?_)) ?_
  repeat (refine Plan.assign rfl rfl rfl rfl ?_)
  exact J.ret (Nrm.ret1 rfl (fun _ h => h) rfl fun B _ => Sub.refl _)
theorem lawNilBC (a : List Value) (ls : List (List Value)) (ha : CellsOk kdsOp9 a) (hl : ls.length ≤ 9223372036854775807) (hc : ∀ c ∈ ls, CellsOk kdsItem c) :
    Spc Try.prog 8 [.ex (.agg a.toArray), row 3 ls.flatten] fun _ => .ex (.bool true) := by
  obtain ⟨l, h1, h2, h3⟩ := items_of ls hc
  obtain ⟨o, rfl, _⟩ := opB_of ha
  rw [h2]
  exact lawNilB o l (by omega) h3
end Go.Proofs.Ytkhcjedlopiicaa
