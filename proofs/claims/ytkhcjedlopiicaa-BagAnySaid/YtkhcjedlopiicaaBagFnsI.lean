/-
  Bags of int: New, Put, Get, Remove.
-/
import Derived.Test.YtkhcjedlopiicaaBagDelI
import Derived.Test.YtkhcjedlopiicaaFreeOwn
set_option linter.unusedSimpArgs false
set_option linter.unusedVariables false
set_option maxRecDepth 20000
namespace Go.Proofs.Ytkhcjedlopiicaa
open Go.Free Go.RowKit Go.Proofs
set_option maxHeartbeats 4000000

theorem bag_closeI {β cap : Nat} {l : List (Dt × Int)} {B : Option Addr} : Ent (allC [obj β [.slice B l.length cap], rowII B l.length cap (l.flatMap itI)]) (bagCI β l) :=
  Ent.ex (B, cap) (Ent.sep (Ent.refl _) Ent.one)
theorem new_fnI : SpcC Try.prog 15 [] emp (fun _ : Nat => True) (fun β => .ex (ptr β)) (fun β => bagCI β []) := by
  refine SpcC.intro Try.func15 rfl (Nat.le_of_ble_eq_true rfl) fun w0 F => ?_
  have hI := kept_below F w0
  have hA := Own.kept F w0
  repeat (first | refine Plan.assign rfl rfl rfl rfl ?_ | refine J.seq (J.region mixed hI (by kernel_rfl) ?_))
  refine Plan.build rfl rfl rfl Parts.nil (cells := #[.slice none 0 0]) (by kernel_rfl) ?_
  refine Plan.boxC (key := 1000) rfl rfl rfl (by intro _ e; cases e; decide) rfl rfl hA fun β => ?_
  repeat (refine Plan.assign rfl rfl rfl rfl ?_)
  refine fun a w h1 h2 h3 => ?_
  refine J.nilRow (key := 1000) 33 3 rfl ?_ a w h1 h2 h3
  exact J.ret (Nrm.retC1 (key := 1000) β rfl rfl rfl trivial (Sub.refl _) (Ent.right.trans (bag_closeI (l := []) (cap := 0) (B := none))))
theorem put_fnI (β : Nat) (l : List (Dt × Int)) (hs : sortedD l) (hl : l.length ≤ 1000000) (d : Dt) (x : Int) :
    SpcC Try.prog 16 [.ex (ptr β), .ex (aggD d.1 d.2), .ex (vi x)] (bagCI β l) (fun _ : Unit => True) (fun _ => Fa.any) (fun _ => bagCI β (putD l d x)) := by
  refine SpcC.introLow Try.func16 rfl (Nat.le_of_ble_eq_true rfl) fun w0 F => ?_
  have hI := kept_below F w0
  have hA := Own.kept F w0
  repeat (refine J.seq (J.region mixed hI (by kernel_rfl) ?_))
  refine Plan.boxP rfl rfl rfl rfl ?_
  repeat (first | refine Plan.move rfl rfl rfl rfl ?_ | refine Plan.eqlPtr rfl rfl rfl rfl (by kernel_rfl) ?_ | refine J.seq (J.region mixed hI (by kernel_rfl) ?_) | refine J.seq (J.seq (J.region mixed hI (by kernel_rfl) ?_)) | refine J.condF rfl ?_ | refine J.skip ?_)
  refine Plan.loadAggP rfl rfl rfl rfl (Sub.refl _) Try.underlying28 rfl (by kernel_rfl) ?_
  refine Plan.callR (key := 1000) (B := 0) (q := 0) rfl rfl rfl (place_fnI β l hs hl d) Try.func44 rfl rfl (fun _ _ => Nat.zero_le _) (by repeat (first | exact Opnds.nil | refine Opnds.cons rfl (by exact Sub.refl _) ?_)) rfl rfl (by decide) ?_
  repeat (first | refine Plan.move rfl rfl rfl rfl ?_ | refine Plan.assign rfl rfl rfl rfl ?_ | refine Plan.extract rfl rfl rfl rfl rfl ?_ | refine J.seq (J.seq (J.region mixed hI (by kernel_rfl) ?_)))
  refine J.exC (key := 1000) (q := 0) rfl rfl fun p => ?_
  refine J.sepC (key := 1000) (q := 0) rfl rfl ?_
  refine J.factC (key := 1000) (q := 1) rfl rfl (fun w F h => row_room h) fun hrm => ?_
  obtain ⟨B, cap⟩ := p
  dsimp only at hrm ⊢
  refine J.cond rfl (fun hh => ?_) (fun hh => ?_)
  · obtain ⟨y, hy, hyd⟩ := here_at hh
    have hlt : posD l d < l.length := (List.getElem?_eq_some_iff.1 hy).1
    obtain ⟨g, rfl⟩ : ∃ g, B = some ⟨g, 0, none⟩ := by
      cases B with
      | none => have := (hrm.2.2.2.1 rfl).1; omega
      | some ad => exact ⟨ad.block, by rw [← hrm.2.2.2.2 ad rfl]⟩
    have hput : putD l d x = l.set (posD l d) (d, x) := by unfold putD; rw [if_pos hh]
    have hsf := set_flat (enc := encTI) itLI l (posD l d) y x hy (posD l d * 3 + 2) rfl
    rw [hyd, ← hput] at hsf
    have hlen : (putD l d x).length = l.length := by rw [hput, List.length_set]
    refine J.unlow (key := 1000) rfl ?_
    repeat (first | refine Plan.move rfl rfl rfl rfl ?_ | refine Plan.nilOk rfl rfl rfl rfl ?_ | refine Plan.fieldC rfl rfl rfl rfl (by first | exact Try.underlying86 | exact Try.underlying50) rfl (by kernel_rfl) (by exact (rfl : _ = 0)) ?_ | refine Plan.loadC (key := 1000) (q := 0) rfl rfl rfl rfl rfl rfl (obj_reads1 rfl) (by first | exact Try.underlying3 | exact Try.underlying31) (by rfl) (by decide) ?_ | refine J.seq (J.region mixed hI (by kernel_rfl) ?_))
    refine Plan.indexC (off := posD l d * 3) rfl rfl rfl rfl rfl eltItI hlt (by omega) ?_
    refine Plan.fieldC (off := posD l d * 3 + 2) rfl rfl rfl rfl (by exact Try.underlying33) rfl (by kernel_rfl) rfl ?_
    refine Plan.storeC (key := 1000) (q := 1) (off := posD l d * 3 + 2) rfl rfl rfl rfl rfl rfl (fun u hu => itOneI (d, x) u (List.mem_cons_of_mem _ (List.mem_cons_of_mem _ hu))) (by kernel_rfl) rfl hA rfl (row_pat (by rw [flat_len itLI]; show posD l d * 3 + 2 + (3 - 2) ≤ _; omega)) ?_
    repeat (fail)
    refine J.ret (Nrm.retC0 (key := 1000) () rfl rfl rfl trivial ?_ (.inr rfl))
    refine Ent.trans (Ent.sep (Ent.refl _) (Ent.sep (Ent.rowEq hsf) (Ent.refl _))) ?_
    have := bag_closeI (β := β) (cap := cap) (l := putD l d x) (B := some ⟨g, 0, none⟩)
    rw [hlen] at this
    exact this
  · have hput : putD l d x = insD l (posD l d) (d, x) := by unfold putD; rw [if_neg (by rw [hh]; decide)]
    have hlen : (putD l d x).length = l.length + 1 := by rw [hput, insD_length]
    refine J.skip ?_
    refine J.loose2 [(0, ptr β)] [(0, .ex (ptr β))] mixed hI rfl rfl rfl (by kernel_rfl) (by kernel_rfl) (by kernel_rfl) rfl rfl (fun ⟨_, _, h⟩ => h) (fun _ _ _ _ h => h) (by repeat (first | exact Weak.nil | refine Weak.cons rfl (Sub.refl _) ?_)) ?_ ?_
    · exact Gives.cons [(0, .ex (ptr β))] (by kernel_rfl) rfl (by kernel_rfl) (Plan.move rfl rfl rfl rfl (Plan.gives rfl)) Gives.nil
    repeat (first | refine Plan.move rfl rfl rfl rfl ?_ | refine Plan.assign rfl rfl rfl rfl ?_ | refine Plan.nilOk rfl rfl rfl rfl ?_ | refine Plan.fieldC rfl rfl rfl rfl (by first | exact Try.underlying86 | exact Try.underlying50) rfl (by kernel_rfl) (by exact (rfl : _ = 0)) ?_ | refine Plan.loadC (key := 1000) (q := 0) rfl rfl rfl rfl rfl rfl (obj_reads1 rfl) (by exact Try.underlying31) (by rfl) (by decide) ?_)
    refine Plan.loadAggP rfl rfl rfl rfl (Sub.refl _) Try.underlying28 rfl (by kernel_rfl) ?_
    repeat (refine Plan.move rfl rfl rfl rfl ?_)
    refine Plan.build rfl rfl rfl (Parts.cons rfl (Parts.cons rfl Parts.nil)) (cells := (itI (d, x)).toArray) (by kernel_rfl) ?_
    refine Plan.litTight (B := w0.heap.size) (m := 1) rfl rfl rfl eltItI rfl (fun w h => h.size) rfl (fun v hv => by rw [List.mem_singleton.1 hv]; rfl) (by decide) ?_
    refine Plan.callOwn (key := 1000) (q := 1) (t := 34) rfl rfl rfl (fun g => insert_fnI B cap g 1 l hl (posD l d) (posD_le l d) (d, x)) Try.func45 rfl rfl (by intro _ e; cases e; decide) rfl (Sub.refl _) (fun g => by repeat (first | exact Opnds.nil | refine Opnds.cons rfl (by exact Sub.refl _) ?_)) rfl hA (fun b hb => .inr hb) rfl fun y _ => ?_
    repeat (first | refine Plan.nilOk rfl rfl rfl rfl ?_ | refine Plan.fieldC rfl rfl rfl rfl (by first | exact Try.underlying86 | exact Try.underlying50) rfl (by kernel_rfl) (by exact (rfl : _ = 0)) ?_)
    refine Plan.storeC (key := 1000) (q := 0) rfl rfl rfl rfl rfl rfl (by simp [Value.cells, Value.oneCell', str]) (by kernel_rfl) rfl hA rfl (obj_pat1 (Nat.le_of_ble_eq_true rfl)) ?_
    rw [← hput, ← hlen]
    exact Nrm.retC0 (key := 1000) () rfl rfl rfl trivial (bag_closeI (B := y.1) (cap := y.2)) (.inl rfl)
theorem get_fnI (β : Nat) (l : List (Dt × Int)) (hs : sortedD l) (hl : l.length ≤ 1000000) (d : Dt) :
    SpcR Try.prog 19 [.ex (ptr β), .ex (aggD d.1 d.2)] (bagCI β l) fun _ => .tup [.ex (vi (valD l d 0)), .ex (.bool (hereD l d))] := by
  refine SpcR.intro Try.func19 rfl (Nat.le_of_ble_eq_true rfl) fun w0 => ?_
  have hI := hIb w0
  repeat (refine J.seq (J.region mixed hI (by kernel_rfl) ?_))
  refine Plan.boxP rfl rfl rfl rfl ?_
  repeat (first | refine Plan.move rfl rfl rfl rfl ?_ | refine Plan.assign rfl rfl rfl rfl ?_ | refine J.seq (J.region mixed hI (by kernel_rfl) ?_))
  refine Plan.loadAggP rfl rfl rfl rfl (Sub.refl _) Try.underlying28 rfl (by kernel_rfl) ?_
  refine Plan.callR (key := 1000) (B := 0) (q := 0) rfl rfl rfl (place_fnI β l hs hl d) Try.func44 rfl rfl (fun _ _ => Nat.zero_le _) (by repeat (first | exact Opnds.nil | refine Opnds.cons rfl (by exact Sub.refl _) ?_)) rfl rfl (by decide) ?_
  repeat (first | refine Plan.move rfl rfl rfl rfl ?_ | refine Plan.assign rfl rfl rfl rfl ?_ | refine Plan.extract rfl rfl rfl rfl rfl ?_ | refine Plan.un rfl rfl rfl rfl rfl ?_ | refine J.seq (J.seq (J.region mixed hI (by kernel_rfl) ?_)))
  refine J.exC (key := 1000) (q := 0) rfl rfl fun p => ?_
  refine J.sepC (key := 1000) (q := 0) rfl rfl ?_
  obtain ⟨B, cap⟩ := p
  dsimp only
  refine J.cond (b := !hereD l d) rfl (fun hh => ?_) (fun hh => ?_)
  · have hh' : hereD l d = false := by simpa using hh
    have hv : valD l d 0 = 0 := by unfold valD; rw [hh']; rfl
    rw [hv, hh']
    repeat (first | refine Plan.move rfl rfl rfl rfl ?_ | refine Plan.assign rfl rfl rfl rfl ?_ | refine J.seq (J.region mixed hI (by kernel_rfl) ?_))
    exact J.ret (Nrm.ret2 rfl (fun _ h => h) fun B hB => ⟨_, rfl, Ress.cons rfl (by exact Sub.refl _) (Ress.cons rfl (by exact Sub.refl _) Ress.nil)⟩)
  · have hh' : hereD l d = true := by simpa using hh
    obtain ⟨y, hy, hyd⟩ := here_at hh'
    have hlt : posD l d < l.length := (List.getElem?_eq_some_iff.1 hy).1
    have hv : valD l d 0 = y.2 := by unfold valD; rw [hh', hy]; rfl
    have hgd : l.getD (posD l d) it0I = y := by rw [List.getD_eq_getElem?_getD, hy]; rfl
    rw [hv, hh']
    repeat (first | refine Plan.move rfl rfl rfl rfl ?_ | refine J.seq (J.region mixed hI (by kernel_rfl) ?_) | refine J.skip ?_)
    refine Plan.nilOk rfl rfl rfl rfl ?_
    refine Plan.fieldC rfl rfl rfl rfl (by exact Try.underlying50) rfl (by kernel_rfl) (by exact (rfl : _ = 0)) ?_
    refine Plan.loadRowC (key := 1000) (q := 0) (q2 := 1) rfl rfl rfl rfl rfl rfl (obj_reads1 rfl) rfl Try.underlying31 (by rfl) (by decide) ?_
    repeat (refine Plan.move rfl rfl rfl rfl ?_)
    refine Plan.indexAddr itI 3 l it0I rfl rfl rfl rfl (Sub.refl _) rfl eltItI itLI (by omega) (by omega) ?_
    rw [Int.toNat_natCast, hgd]
    refine Plan.fieldPtr (us := [vi y.2]) rfl rfl rfl rfl (Sub.refl _) Try.underlying33 rfl (by kernel_rfl) rfl ?_
    refine Plan.load rfl rfl rfl rfl (Sub.refl _) Try.underlying3 rfl ?_
    repeat (refine Plan.assign rfl rfl rfl rfl ?_)
    exact J.ret (Nrm.ret2 rfl (fun _ h => h) fun B hB => ⟨_, rfl, Ress.cons rfl (by exact Sub.refl _) (Ress.cons rfl (by exact Sub.refl _) Ress.nil)⟩)
theorem remove_fnI (β : Nat) (l : List (Dt × Int)) (hs : sortedD l) (hl : l.length ≤ 1000000) (d : Dt) :
    SpcC Try.prog 21 [.ex (ptr β), .ex (aggD d.1 d.2)] (bagCI β l) (fun _ : Unit => True) (fun _ => .ex (.bool (hereD l d))) (fun _ => bagCI β (remD l d)) := by
  refine SpcC.intro Try.func21 rfl (Nat.le_of_ble_eq_true rfl) fun w0 F => ?_
  have hI := kept_below F w0
  have hA := Own.kept F w0
  repeat (refine J.seq (J.region mixed hI (by kernel_rfl) ?_))
  refine Plan.boxP rfl rfl rfl rfl ?_
  repeat (first | refine Plan.move rfl rfl rfl rfl ?_ | refine Plan.assign rfl rfl rfl rfl ?_ | refine J.seq (J.region mixed hI (by kernel_rfl) ?_))
  refine Plan.loadAggP rfl rfl rfl rfl (Sub.refl _) Try.underlying28 rfl (by kernel_rfl) ?_
  refine Plan.callR (key := 1000) (B := 0) (q := 0) rfl rfl rfl (place_fnI β l hs hl d) Try.func44 rfl rfl (fun _ _ => Nat.zero_le _) (by repeat (first | exact Opnds.nil | refine Opnds.cons rfl (by exact Sub.refl _) ?_)) rfl rfl (by decide) ?_
  repeat (first | refine Plan.move rfl rfl rfl rfl ?_ | refine Plan.assign rfl rfl rfl rfl ?_ | refine Plan.extract rfl rfl rfl rfl rfl ?_ | refine J.seq (J.seq (J.region mixed hI (by kernel_rfl) ?_)))
  refine J.cond (b := hereD l d) rfl (fun hh => ?_) (fun hh => ?_)
  · obtain ⟨y, hy, hyd⟩ := here_at hh
    have hlt : posD l d < l.length := (List.getElem?_eq_some_iff.1 hy).1
    have hrem : remD l d = l.eraseIdx (posD l d) := by unfold remD; rw [if_pos hh]
    have hlen : (remD l d).length = l.length - 1 := by rw [hrem, List.length_eraseIdx, if_pos hlt]
    refine J.exC (key := 1000) (q := 0) rfl rfl fun p => ?_
    refine J.sepC (key := 1000) (q := 0) rfl rfl ?_
    refine J.factC (key := 1000) (q := 1) rfl rfl (fun w F h => row_room h) fun hrm => ?_
    obtain ⟨B, cap⟩ := p
    dsimp only at hrm ⊢
    obtain ⟨g, rfl⟩ : ∃ g, B = some ⟨g, 0, none⟩ := by
      cases B with
      | none => have := (hrm.2.2.2.1 rfl).1; omega
      | some ad => exact ⟨ad.block, by rw [← hrm.2.2.2.2 ad rfl]⟩
    repeat (first | refine Plan.move rfl rfl rfl rfl ?_ | (refine Plan.ints rfl rfl rfl rfl rfl rfl ?_; (refine Plan.int (i64r (by omega)) ?_)) | refine Plan.nilOk rfl rfl rfl rfl ?_ | refine Plan.fieldC rfl rfl rfl rfl (by first | exact Try.underlying86 | exact Try.underlying50) rfl (by kernel_rfl) (by exact (rfl : _ = 0)) ?_ | refine Plan.loadC (key := 1000) (q := 0) rfl rfl rfl rfl rfl rfl (obj_reads1 rfl) (by first | exact Try.underlying3 | exact Try.underlying31) (by rfl) (by decide) ?_ | refine J.region mixed hI (by kernel_rfl) ?_)
    refine Plan.int (y := ((posD l d + 1 : Nat) : Int)) (by omega) ?_
    refine Plan.callC (key := 1000) (q := 1) rfl rfl rfl (delete_fnI g cap l (posD l d) hlt hl) Try.func47 rfl rfl (by intro _ e; cases e; decide) (by repeat (first | exact Opnds.nil | refine Opnds.cons rfl (by exact Sub.refl _) ?_)) rfl hA rfl ?_
    intro _ _
    repeat (first | refine Plan.nilOk rfl rfl rfl rfl ?_ | refine Plan.fieldC rfl rfl rfl rfl (by first | exact Try.underlying86 | exact Try.underlying50) rfl (by kernel_rfl) (by exact (rfl : _ = 0)) ?_)
    refine Plan.storeC (key := 1000) (q := 0) rfl rfl rfl rfl rfl rfl (by simp [Value.cells, Value.oneCell', str]) (by kernel_rfl) rfl hA rfl (obj_pat1 (Nat.le_of_ble_eq_true rfl)) ?_
    rw [← hrem, ← hlen, hh]
    repeat (first | refine Plan.move rfl rfl rfl rfl ?_ | refine Plan.assign rfl rfl rfl rfl ?_ | refine J.seq (J.region mixed hI (by kernel_rfl) ?_))
    exact J.ret (Nrm.retC1 (key := 1000) () rfl rfl rfl trivial (Sub.refl _) (bag_closeI (B := some ⟨g, 0, none⟩) (cap := cap)))
  · have hrem : remD l d = l := by unfold remD; rw [hh]; rfl
    rw [hrem, hh]
    repeat (first | refine Plan.move rfl rfl rfl rfl ?_ | refine Plan.assign rfl rfl rfl rfl ?_ | refine J.seq (J.region mixed hI (by kernel_rfl) ?_) | refine J.skip ?_)
    exact J.ret (Nrm.retC1 (key := 1000) () rfl rfl rfl trivial (Sub.refl _) Ent.one)
end Go.Proofs.Ytkhcjedlopiicaa
