/-
  Laid together: RgaLaws, RgaAwake, RgaUnlike, RgaTurn, RgaOrder.
-/
import Derived.Test.YtfglecmimoeinaaROrdG

section
set_option linter.unusedSimpArgs false
set_option linter.unusedVariables false
set_option maxRecDepth 20000
namespace Go.Proofs.Ytfglecmimoeinaa
open Go.Free Go.RowKit Go.Proofs Go.Free.Sorts
set_option maxHeartbeats 8000000

theorem formedEv (zs : Array Value) (h : zs.size = kdsEvent.length) : (Value.agg zs).formed Try.prog 41 = true := by
  have hc : Try.prog.cellsOf 41 = 26 := by kernel_rfl
  unfold Value.formed
  rw [Try.underlying41]
  simp only [hc, h]
  rfl
def seE (w0 : World) (L : List EvV) (i : Nat) : Env := [(0, old w0 (row 26 (evsC L))), (1, old w0 (row 26 (evsC L))), (12, .ex (vi L.length)), (13, .ex (vi i))]
theorem sameE_fn (L : List EvV) (hl : L.length ≤ 1000000) (hok : ∀ x ∈ L, x.okV) : Spc Try.prog 13 [row 26 (evsC L), row 26 (evsC L)] fun _ => .ex (.bool true) := by
  refine Spc.intro Try.func13 rfl (Nat.le_of_ble_eq_true rfl) fun w0 => ?_
  have hI := hIb w0
  repeat (first | refine Plan.move rfl rfl rfl rfl ?_ | refine Plan.assign rfl rfl rfl rfl ?_ | refine J.seq (J.region mixed hI (by kernel_rfl) ?_) | refine J.seq (J.seq (J.region mixed hI (by kernel_rfl) ?_)))
  refine Plan.lenRow (m := L.length) rfl rfl rfl rfl (Sub.old fun _ h => h) Try.underlying22 (by rw [evs_len]) (by decide) ?_
  repeat (refine Plan.move rfl rfl rfl rfl ?_)
  refine Plan.lenRow (m := L.length) rfl rfl rfl rfl (Sub.old fun _ h => h) Try.underlying22 (by rw [evs_len]) (by decide) ?_
  repeat ((refine Plan.ints rfl rfl rfl rfl rfl rfl ?_; (skip)))
  refine Plan.boolv (y := false) (by simp) ?_
  repeat (first | refine Plan.move rfl rfl rfl rfl ?_ | refine J.seq (J.seq (J.region mixed hI (by kernel_rfl) ?_)) | refine J.condF rfl ?_ | refine J.skip ?_)
  refine Plan.lenRow (m := L.length) rfl rfl rfl rfl (Sub.old fun _ h => h) Try.underlying22 (by rw [evs_len]) (by decide) ?_
  repeat (refine Plan.move rfl rfl rfl rfl ?_)
  refine J.block (J.loop (seE w0 L) (fun i => i ≤ L.length) (fun i => L.length - i) 0 (Nat.zero_le _) ?_ ?_)
  · repeat (first | exact Weak.nil | refine Weak.cons rfl (Sub.refl _) ?_)
  intro i hi
  repeat (first | (refine Plan.ints rfl rfl rfl rfl rfl rfl ?_; (skip)) | refine J.seq (J.region mixed hI (by kernel_rfl) ?_))
  refine J.seq (J.condD rfl (fun hc => ?_) (fun hc => ?_))
  · have hlt : i < L.length := by omega
    have hx : L[i]? = some L[i] := List.getElem?_eq_getElem hlt
    have hgd : L.getD i ev0 = L[i] := by rw [List.getD_eq_getElem?_getD, hx]; rfl
    have hki := hok _ (List.getElem_mem hlt)
    repeat (refine J.skip ?_)
    refine J.seq (J.block ?_)
    repeat (first | refine Plan.move rfl rfl rfl rfl ?_ | refine Plan.assign rfl rfl rfl rfl ?_ | refine J.seq (J.region mixed hI (by kernel_rfl) ?_))
    refine Plan.indexAddr EvV.enc 26 L ev0 rfl rfl rfl rfl (Sub.old fun _ h => h) rfl eltE encE (by omega) (by omega) ?_
    rw [Int.toNat_natCast, hgd]
    refine Plan.loadAggP rfl rfl rfl rfl (Sub.refl _) Try.underlying41 rfl (by rw [encE]; kernel_rfl) ?_
    repeat (refine Plan.move rfl rfl rfl rfl ?_)
    refine Plan.indexAddr EvV.enc 26 L ev0 rfl rfl rfl rfl (Sub.old fun _ h => h) rfl eltE encE (by omega) (by omega) ?_
    rw [Int.toNat_natCast, hgd]
    refine Plan.loadAggP rfl rfl rfl rfl (Sub.refl _) Try.underlying41 rfl (by rw [encE]; kernel_rfl) ?_
    refine Plan.eqAgg (m := 9) (l := kdsEvent) (xs := L[i].enc) (ys := L[i].enc) (r := true) (v := false) rfl rfl rfl rfl rfl (by decide) (by kernel_rfl) (by kernel_rfl) (by kernel_rfl) (enc_ok hki) (enc_ok hki) formedEv (by simp) (.inr ⟨rfl, rfl⟩) ?_
    repeat (first | refine Plan.move rfl rfl rfl rfl ?_ | (refine Plan.ints rfl rfl rfl rfl rfl rfl ?_; (refine Plan.int (i64r (by omega)) ?_)) | refine J.region mixed hI (by kernel_rfl) ?_ | refine J.condF rfl ?_ | refine J.skip ?_)
    refine Plan.int (y := ((i + 1 : Nat) : Int)) (by omega) ?_
    repeat (fail)
    exact Nrm.next (i + 1) (by omega) (by omega) (by repeat (first | exact Weak.nil | refine Weak.cons rfl (Sub.refl _) ?_))
  refine J.exit ?_
  repeat (first | refine Plan.assign rfl rfl rfl rfl ?_ | refine J.seq (J.region mixed hI (by kernel_rfl) ?_))
  exact J.ret (Nrm.ret1 rfl (fun _ h => h) rfl fun B _ => Sub.refl _)

def anchorM (items : List EvV) (p : Int) : (Int × Int) × Int := if p < 0 ∨ p > items.length then ((0, 0), 7) else if p = 0 then ((0, 0), 0) else (((items.getD (p - 1).toNat ev0).r, (items.getD (p - 1).toNat ev0).n), 0)
theorem items_len (key : List UInt8) (L : List EvV) : (itemsM key L).length ≤ L.length := Nat.le_trans (List.length_filter_le _ _) (order_len key L)
theorem anchor_fn (L : List EvV) (hl : L.length ≤ 1000000) (hok : ∀ e ∈ L, e.okV) (key : List UInt8) (p : Int) : Spc Try.prog 11 [row 26 (evsC L), .ex (str key), .ex (vi p)] fun _ => .tup [.ex (aggD (anchorM (itemsM key L) p).1.1 (anchorM (itemsM key L) p).1.2), .ex (vi (anchorM (itemsM key L) p).2)] := by
  refine Spc.intro Try.func11 rfl (Nat.le_of_ble_eq_true rfl) fun w0 => ?_
  have hI := hIb w0
  have hA := Own.below w0
  have hil := items_len key L
  refine J.heap0 1000 (newB w0) ?_
  refine J.seq (J.region mixed hI (by kernel_rfl) ?_)
  refine Plan.allocC (key := 1000) (z := aggD 0 0) rfl rfl rfl (by intro _ e; cases e; decide) (by kernel_rfl) rfl hA fun ξ => ?_
  repeat (refine Plan.assign rfl rfl rfl rfl ?_)
  refine J.seq (J.region mixed hI (by kernel_rfl) ?_)
  repeat (refine Plan.move rfl rfl rfl rfl ?_)
  refine Plan.call (B := w0.heap.size) rfl rfl rfl (items_fn L hl hok key) Try.func16 rfl rfl (hBb w0) (by repeat (first | exact Opnds.nil | refine Opnds.cons rfl (by first | exact Sub.refl _ | exact Sub.old (fun _ h => h)) ?_)) ?_
  repeat (refine Plan.assign rfl rfl rfl rfl ?_)
  obtain ⟨items, hit⟩ : ∃ items, items = itemsM key L := ⟨_, rfl⟩
  rw [← hit] at hil ⊢
  refine J.seq (J.block ?_)
  refine J.seq (J.region mixed hI (by kernel_rfl) ?_)
  repeat (first | refine Plan.move rfl rfl rfl rfl ?_ | (refine Plan.ints rfl rfl rfl rfl rfl rfl ?_; (skip)))
  by_cases h1 : p < 0
  · refine Plan.boolv (y := true) (decide_eq_true h1) ?_
    repeat (first | refine Plan.assign rfl rfl rfl rfl ?_ | refine Plan.skip rfl rfl ?_ | refine Plan.pick rfl rfl rfl rfl rfl ?_)
    refine J.condT rfl ?_
    have ha : anchorM items p = ((0, 0), 7) := by unfold anchorM; rw [if_pos (.inl h1)]
    rw [ha]
    refine J.seq (J.region mixed hI (by kernel_rfl) ?_)
    refine Plan.build (cells := #[vi 0, vi 0]) rfl rfl (ps := []) rfl Parts.nil (by kernel_rfl) ?_
    refine Plan.storeC (key := 1000) (q := 0) (off := 0) rfl rfl rfl rfl rfl rfl (by simp [Value.cells, Value.oneCell']) (by kernel_rfl) rfl hA rfl (obj_pat (Nat.le_of_ble_eq_true rfl)) ?_
    repeat (refine Plan.assign rfl rfl rfl rfl ?_)
    exact J.ret (Nrm.retCT (key := 1000) (q := 0) rfl (fun _ h => h) rfl rfl rfl obj_whole Try.underlying26 rfl (by kernel_rfl) fun B _ => ⟨_, _, rfl, rfl, Sub.refl _⟩)
  refine Plan.boolv (y := false) (decide_eq_false h1) ?_
  repeat (refine Plan.move rfl rfl rfl rfl ?_)
  refine Plan.lenRow (m := items.length) rfl rfl rfl rfl Sub.own Try.underlying22 (by rw [evs_len]) (by decide) ?_
  repeat (first | refine Plan.assign rfl rfl rfl rfl ?_ | refine Plan.pick rfl rfl rfl rfl rfl ?_ | (refine Plan.ints rfl rfl rfl rfl rfl rfl ?_; (skip)))
  by_cases h2 : p > items.length
  · refine Plan.boolv (y := true) (decide_eq_true h2) ?_
    repeat (fail)
    refine J.condT rfl ?_
    have ha : anchorM items p = ((0, 0), 7) := by unfold anchorM; rw [if_pos (.inr h2)]
    rw [ha]
    refine J.seq (J.region mixed hI (by kernel_rfl) ?_)
    refine Plan.build (cells := #[vi 0, vi 0]) rfl rfl (ps := []) rfl Parts.nil (by kernel_rfl) ?_
    refine Plan.storeC (key := 1000) (q := 0) (off := 0) rfl rfl rfl rfl rfl rfl (by simp [Value.cells, Value.oneCell']) (by kernel_rfl) rfl hA rfl (obj_pat (Nat.le_of_ble_eq_true rfl)) ?_
    repeat (refine Plan.assign rfl rfl rfl rfl ?_)
    exact J.ret (Nrm.retCT (key := 1000) (q := 0) rfl (fun _ h => h) rfl rfl rfl obj_whole Try.underlying26 rfl (by kernel_rfl) fun B _ => ⟨_, _, rfl, rfl, Sub.refl _⟩)
  refine Plan.boolv (y := false) (decide_eq_false h2) ?_
  repeat (fail)
  refine J.condF rfl ?_
  refine J.seq (J.region mixed hI (by kernel_rfl) ?_)
  repeat (first | refine Plan.move rfl rfl rfl rfl ?_ | refine Plan.assign rfl rfl rfl rfl ?_ | (refine Plan.ints rfl rfl rfl rfl rfl rfl ?_; (skip)))
  by_cases h3 : p = 0
  · refine Plan.boolv (y := true) (decide_eq_true h3) ?_
    repeat (fail)
    refine J.condT rfl ?_
    have ha : anchorM items p = ((0, 0), 0) := by unfold anchorM; rw [if_neg (by omega), if_pos h3]
    rw [ha]
    refine J.seq (J.region mixed hI (by kernel_rfl) ?_)
    refine Plan.build (cells := #[vi 0, vi 0]) rfl rfl (ps := []) rfl Parts.nil (by kernel_rfl) ?_
    refine Plan.storeC (key := 1000) (q := 0) (off := 0) rfl rfl rfl rfl rfl rfl (by simp [Value.cells, Value.oneCell']) (by kernel_rfl) rfl hA rfl (obj_pat (Nat.le_of_ble_eq_true rfl)) ?_
    repeat (refine Plan.assign rfl rfl rfl rfl ?_)
    exact J.ret (Nrm.retCT (key := 1000) (q := 0) rfl (fun _ h => h) rfl rfl rfl obj_whole Try.underlying26 rfl (by kernel_rfl) fun B _ => ⟨_, _, rfl, rfl, Sub.refl _⟩)
  refine Plan.boolv (y := false) (decide_eq_false h3) ?_
  repeat (fail)
  refine J.condF rfl ?_
  refine J.skip ?_
  have ha : anchorM items p = (((items.getD (p - 1).toNat ev0).r, (items.getD (p - 1).toNat ev0).n), 0) := by unfold anchorM; rw [if_neg (by omega), if_neg h3]
  rw [ha]
  refine J.seq (J.region mixed hI (by kernel_rfl) ?_)
  repeat (first | refine Plan.move rfl rfl rfl rfl ?_ | (refine Plan.ints rfl rfl rfl rfl rfl rfl ?_; (refine Plan.int (i64r (by omega)) ?_)))
  refine Plan.int (y := p - 1) (by omega) ?_
  refine Plan.indexAddr EvV.enc 26 items ev0 rfl rfl rfl rfl Sub.own rfl eltE encE (by omega) (by omega) ?_
  refine Plan.fieldPtr (us := [vi (items.getD (p - 1).toNat ev0).r, vi (items.getD (p - 1).toNat ev0).n]) rfl rfl rfl rfl (Sub.refl _) Try.underlying41 rfl (by kernel_rfl) rfl ?_
  refine Plan.loadAggP rfl rfl rfl rfl (Sub.refl _) Try.underlying26 rfl (by kernel_rfl) ?_
  refine Plan.storeC (key := 1000) (q := 0) (off := 0) rfl rfl rfl rfl rfl rfl (by simp [Value.cells, Value.oneCell']) (by kernel_rfl) rfl hA rfl (obj_pat (Nat.le_of_ble_eq_true rfl)) ?_
  repeat (refine Plan.assign rfl rfl rfl rfl ?_)
  exact J.ret (Nrm.retCT (key := 1000) (q := 0) rfl (fun _ h => h) rfl rfl rfl obj_whole Try.underlying26 rfl (by kernel_rfl) fun B _ => ⟨_, _, rfl, rfl, Sub.refl _⟩)
end Go.Proofs.Ytfglecmimoeinaa
end

section
set_option linter.unusedSimpArgs false
set_option linter.unusedVariables false
set_option maxRecDepth 20000
namespace Go.Proofs.Ytfglecmimoeinaa
open Go.Free Go.RowKit Go.Proofs Go.Free.Sorts
set_option maxHeartbeats 8000000

def evP : EvV := ⟨0, 1, 0, fun _ => 0, 9, [107], [], [], 0, 0, 0⟩
theorem evP_ok : evP.okV := by refine ⟨?_, ?_, ?_, fun i _ => ?_, ?_, ?_, ?_, ?_, ?_, ?_, ?_⟩ <;> simp [evP, in64]
theorem evP_order : orderM [107] [evP] = [evP] := by
  have h1 : nodesM [107] [evP] = [evP] := by unfold nodesM; rw [List.filter_cons_of_pos (by simp [evP])]; rfl
  unfold orderM
  rw [h1]
  have hp : parM [evP] evP = none := by unfold parM; rw [if_pos ⟨rfl, rfl⟩]
  have h2 : kidsM [evP] none = [0] := by
    unfold kidsM
    have : List.range [evP].length = [0] := rfl
    rw [this, List.filter_cons_of_pos (by simp [hp])]; rfl
  have h3 : kidsM [evP] (some 0) = [] := by
    unfold kidsM
    have : List.range [evP].length = [0] := rfl
    rw [this, List.filter_cons_of_neg (by simp [hp])]; rfl
  show List.map _ (undM [evP] 2 none) = _
  have h4 : undM [evP] 1 (some 0) = [] := by
    show List.flatMap _ (sortK _ (kidsM [evP] (some 0))) = _
    rw [h3]; unfold sortK; rw [List.mergeSort_nil]; rfl
  show List.map _ (List.flatMap _ (sortK _ (kidsM [evP] none))) = _
  rw [h2]
  unfold sortK
  rw [List.mergeSort_singleton, List.flatMap_cons, h4]
  rfl
theorem evP_items : itemsM [107] [evP] = [evP] := by
  unfold itemsM
  rw [evP_order]
  have : endedB [evP] evP = false := by
    unfold endedB
    simp [endsP, evP]
  unfold keepE
  rw [List.filter_cons_of_pos (by rw [this]; rfl)]
  rfl
theorem flat_ev (e : EvV) : flat [.agg e.enc.toArray] = evsC [e] := by simp [flat, Value.cells]
theorem awakeP_fn : Spc Try.prog 9 [] fun _ => .ex (.bool true) := by
  refine Spc.intro Try.func9 rfl (Nat.le_of_ble_eq_true rfl) fun w0 => ?_
  have hI := hIb w0
  have hA := Own.below w0
  have hok : ∀ e ∈ [evP], e.okV := fun e he => by rw [List.mem_singleton.1 he]; exact evP_ok
  have han := anchor_fn [evP] (by decide) hok [107] 1
  have hae : anchorM (itemsM [107] [evP]) 1 = ((0, 1), 0) := by rw [evP_items]; decide
  rw [hae] at han
  have hor := order_fn [evP] (by decide) hok [107]
  rw [evP_order] at hor
  refine J.heap0 1000 (newB w0) ?_
  refine J.seq (J.region mixed hI (by kernel_rfl) ?_)
  repeat (refine Plan.assign rfl rfl rfl rfl ?_)
  refine J.seq (J.region mixed hI (by kernel_rfl) ?_)
  refine Plan.build (cells := #[vi 0, vi 1]) rfl rfl (ps := [(1, _)]) rfl (Parts.cons rfl Parts.nil) (by kernel_rfl) ?_
  refine Plan.build (cells := evP.op.toArray) rfl rfl (ps := [(0, _), (1, _)]) rfl (Parts.cons rfl (Parts.cons rfl Parts.nil)) (by kernel_rfl) ?_
  refine Plan.build (cells := evP.enc.toArray) rfl rfl (ps := [(0, _), (3, _)]) rfl (Parts.cons rfl (Parts.cons rfl Parts.nil)) (by kernel_rfl) ?_
  refine Plan.litC (key := 1000) (vs := [aggE evP]) rfl rfl rfl eltE rfl (by intro _ e; cases e; decide) rfl hA rfl (by simp [Value.cells, EvV.enc]) (by decide) fun B m cap hm => ?_
  rw [flat_ev evP]
  repeat (refine Plan.assign rfl rfl rfl rfl ?_)
  refine J.seq (J.region mixed hI (by kernel_rfl) ?_)
  repeat (refine Plan.move rfl rfl rfl rfl ?_)
  refine Plan.seeC (t := 9) (key := 1000) (q := 0) (xs := evsC [evP]) (by kernel_rfl) hI rfl rfl rfl (fun w F hh => row_rowH hh) ?_
  refine Plan.call (B := w0.heap.size) rfl rfl rfl han Try.func11 rfl rfl (hBb w0) (by repeat (first | exact Opnds.nil | refine Opnds.cons rfl (by exact Sub.refl _) ?_)) ?_
  repeat (first | refine Plan.move rfl rfl rfl rfl ?_ | refine Plan.extract rfl rfl rfl rfl rfl ?_)
  refine Plan.allocC (key := 1000) (z := aggD 0 0) rfl rfl rfl (by intro _ e; cases e; decide) (by kernel_rfl) rfl hA fun ξ => ?_
  refine Plan.storeC (key := 1000) (q := 1) (off := 0) rfl rfl rfl rfl rfl rfl (by simp [Value.cells, Value.oneCell']) (by kernel_rfl) rfl hA rfl (obj_pat (Nat.le_of_ble_eq_true rfl)) ?_
  repeat (refine Plan.assign rfl rfl rfl rfl ?_)
  refine J.seeC (t := 1) (key := 1000) (q := 0) rfl rfl rfl (fun w F h => row_rowH h) ?_
  refine J.seq (J.region mixed hI (by kernel_rfl) ?_)
  repeat (refine Plan.move rfl rfl rfl rfl ?_)
  refine Plan.call (B := w0.heap.size) rfl rfl rfl hor Try.func14 rfl rfl (hBb w0) (by repeat (first | exact Opnds.nil | refine Opnds.cons rfl (by exact Sub.refl _) ?_)) ?_
  refine Plan.lenRow (m := 1) rfl rfl rfl rfl Sub.own Try.underlying22 rfl (by decide) ?_
  repeat (first | refine Plan.move rfl rfl rfl rfl ?_ | (refine Plan.ints rfl rfl rfl rfl rfl rfl ?_; (skip)))
  refine Plan.boolv (y := true) (by decide) ?_
  repeat (fail)
  refine Plan.loadAggC (key := 1000) (q := 1) (vs := [vi 0, vi 1]) rfl rfl rfl rfl rfl rfl obj_whole Try.underlying26 rfl (by kernel_rfl) (by decide) ?_
  repeat (refine Plan.move rfl rfl rfl rfl ?_)
  refine Plan.indexAddr EvV.enc 26 [evP] ev0 rfl rfl rfl rfl (Sub.refl _) rfl eltE encE (by omega) (by decide) ?_
  refine Plan.fieldPtr (us := [vi 0, vi 1]) rfl rfl rfl rfl (Sub.refl _) Try.underlying41 rfl (by kernel_rfl) rfl ?_
  refine Plan.loadAggP rfl rfl rfl rfl (Sub.refl _) Try.underlying26 rfl (by kernel_rfl) ?_
  refine Plan.eqlDt (0, 1) (0, 1) rfl rfl rfl rfl rfl ⟨by simp [in64], by simp [in64]⟩ ⟨by simp [in64], by simp [in64]⟩ ?_
  refine Plan.boolv (y := true) (by decide) ?_
  repeat (first | refine Plan.move rfl rfl rfl rfl ?_ | refine Plan.assign rfl rfl rfl rfl ?_ | refine Plan.pick rfl rfl rfl rfl rfl ?_ | (refine Plan.ints rfl rfl rfl rfl rfl rfl ?_; (skip)))
  refine Plan.boolv (y := true) (by decide) ?_
  repeat (fail)
  exact J.ret (Nrm.ret1 rfl (fun _ h => h) rfl fun B _ => Sub.refl _)
def fewP (L : List EvV) : Prop := L.length ≤ 60 ∧ ∀ e ∈ L, e.key.length ≤ 1000
instance (L : List EvV) : Decidable (fewP L) := by unfold fewP; infer_instance
def feE (w0 : World) (L : List EvV) (i : Nat) : Env := [(0, old w0 (row 26 (evsC L))), (8, .ex (vi L.length)), (9, .ex (vi i))]
theorem few_fn (L : List EvV) (hl : L.length ≤ 9223372036854775807) (hok : ∀ e ∈ L, e.okV) : Spc Try.prog 10 [row 26 (evsC L)] fun _ => .ex (.bool (decide (fewP L))) := by
  refine Spc.intro Try.func10 rfl (Nat.le_of_ble_eq_true rfl) fun w0 => ?_
  have hI := hIb w0
  refine J.seq (J.region mixed hI (by kernel_rfl) ?_)
  repeat (refine Plan.assign rfl rfl rfl rfl ?_)
  refine J.seq (J.seq (J.region mixed hI (by kernel_rfl) ?_))
  repeat (refine Plan.move rfl rfl rfl rfl ?_)
  refine Plan.lenRow (m := L.length) rfl rfl rfl rfl (Sub.old fun _ h => h) Try.underlying22 (by rw [evs_len]) (by decide) ?_
  repeat ((refine Plan.ints rfl rfl rfl rfl rfl rfl ?_; (skip)))
  refine J.condD rfl (fun h1 => ?_) (fun h1 => ?_)
  · refine J.seq (J.region mixed hI (by kernel_rfl) ?_)
    repeat (refine Plan.assign rfl rfl rfl rfl ?_)
    rw [decide_eq_false (show ¬ fewP L from fun h => by have := h.1; omega)]
    exact J.ret (Nrm.ret1 rfl (fun _ h => h) rfl fun B _ => Sub.refl _)
  refine J.skip ?_
  refine J.seq (J.seq (J.region mixed hI (by kernel_rfl) ?_))
  repeat (refine Plan.move rfl rfl rfl rfl ?_)
  refine Plan.lenRow (m := L.length) rfl rfl rfl rfl (Sub.old fun _ h => h) Try.underlying22 (by rw [evs_len]) (by decide) ?_
  repeat (refine Plan.move rfl rfl rfl rfl ?_)
  refine J.block (J.loop (feE w0 L) (fun i => i ≤ L.length ∧ ∀ j (hj : j < L.length), j < i → L[j].key.length ≤ 1000) (fun i => L.length - i) 0 ⟨Nat.zero_le _, fun j _ h => by omega⟩ ?_ ?_)
  · repeat (first | exact Weak.nil | refine Weak.cons rfl (Sub.refl _) ?_)
  rintro i ⟨hi, hall⟩
  refine J.seq (J.region mixed hI (by kernel_rfl) ?_)
  repeat ((refine Plan.ints rfl rfl rfl rfl rfl rfl ?_; (skip)))
  refine J.seq (J.condD rfl (fun hc => ?_) (fun hc => ?_))
  · have hlt : i < L.length := by omega
    have hki := hok _ (List.getElem_mem hlt)
    have hkl := hki.2.2.2.2.2.1
    refine J.skip ?_
    refine J.seq (J.block ?_)
    refine J.seq (J.region mixed hI (by kernel_rfl) ?_)
    repeat (first | refine Plan.move rfl rfl rfl rfl ?_ | refine Plan.assign rfl rfl rfl rfl ?_)
    refine J.seq (J.region mixed hI (by kernel_rfl) ?_)
    repeat (refine Plan.move rfl rfl rfl rfl ?_)
    refine Plan.indexAddr EvV.enc 26 L ev0 rfl rfl rfl rfl (Sub.old fun _ h => h) rfl eltE encE (by omega) (by omega) ?_
    rw [Int.toNat_natCast, getD_at hlt]
    refine Plan.fieldPtr (us := L[i].op) rfl rfl rfl rfl (Sub.refl _) Try.underlying41 rfl (by kernel_rfl) rfl ?_
    refine Plan.fieldPtr (us := [str L[i].key]) rfl rfl rfl rfl (Sub.refl _) Try.underlying39 rfl (by kernel_rfl) rfl ?_
    refine Plan.load rfl rfl rfl rfl (Sub.refl _) Try.underlying9 rfl ?_
    repeat (first | refine Plan.lenStr rfl rfl rfl rfl Try.underlying9 ?_ | (refine Plan.ints rfl rfl rfl rfl rfl rfl ?_; (skip)))
    refine J.condD rfl (fun h2 => ?_) (fun h2 => ?_)
    · refine J.seq (J.region mixed hI (by kernel_rfl) ?_)
      repeat (refine Plan.assign rfl rfl rfl rfl ?_)
      rw [decide_eq_false (show ¬ fewP L from fun h => by have := h.2 _ (List.getElem_mem hlt); omega)]
      exact J.ret (Nrm.ret1 rfl (fun _ h => h) rfl fun B _ => Sub.refl _)
    refine J.skip ?_
    refine J.region mixed hI (by kernel_rfl) ?_
    repeat (first | refine Plan.move rfl rfl rfl rfl ?_ | (refine Plan.ints rfl rfl rfl rfl rfl rfl ?_; (refine Plan.int (i64r (by omega)) ?_)))
    refine Plan.int (y := ((i + 1 : Nat) : Int)) (by omega) ?_
    repeat (fail)
    refine Nrm.next (i + 1) ⟨hlt, fun j hj hji => ?_⟩ (by omega) (by repeat (first | exact Weak.nil | refine Weak.cons rfl (Sub.refl _) ?_))
    by_cases hj2 : j < i
    · exact hall j hj hj2
    · have : j = i := by omega
      subst this; omega
  have hie : i = L.length := by omega
  subst hie
  refine J.exit ?_
  refine J.seq (J.region mixed hI (by kernel_rfl) ?_)
  repeat (refine Plan.assign rfl rfl rfl rfl ?_)
  rw [decide_eq_true (show fewP L from ⟨by omega, fun e he => by obtain ⟨j, hj, rfl⟩ := List.getElem_of_mem he; exact hall j hj hj⟩)]
  exact J.ret (Nrm.ret1 rfl (fun _ h => h) rfl fun B _ => Sub.refl _)
end Go.Proofs.Ytfglecmimoeinaa
end

section
set_option linter.unusedSimpArgs false
set_option linter.unusedVariables false
set_option maxRecDepth 20000
namespace Go.Proofs.Ytfglecmimoeinaa
open Go.Free Go.RowKit Go.Proofs Go.Free.Sorts
set_option maxHeartbeats 8000000

instance (L : List EvV) : Decidable (unlikeM L) := by unfold unlikeM; infer_instance
def ulE (w0 : World) (L : List EvV) (i : Nat) : Env := [(0, old w0 (row 26 (evsC L))), (6, .ex (vi L.length)), (7, .ex (vi i))]
def ulK (w0 : World) (L : List EvV) (i k : Nat) : Env := [(0, old w0 (row 26 (evsC L))), (6, .ex (vi L.length)), (7, .ex (vi i)), (3, .ex (vi i)), (4, .ex (vi k))]
theorem unlike_fn (L : List EvV) (hl : L.length ≤ 1000000) (hok : ∀ e ∈ L, e.okV) : Spc Try.prog 18 [row 26 (evsC L)] fun _ => .ex (.bool (decide (unlikeM L))) := by
  refine Spc.intro Try.func18 rfl (Nat.le_of_ble_eq_true rfl) fun w0 => ?_
  have hI := hIb w0
  refine J.seq (J.region mixed hI (by kernel_rfl) ?_)
  repeat (refine Plan.assign rfl rfl rfl rfl ?_)
  refine J.seq (J.seq (J.region mixed hI (by kernel_rfl) ?_))
  repeat (refine Plan.move rfl rfl rfl rfl ?_)
  refine Plan.lenRow (m := L.length) rfl rfl rfl rfl (Sub.old fun _ h => h) Try.underlying22 (by rw [evs_len]) (by decide) ?_
  repeat (refine Plan.move rfl rfl rfl rfl ?_)
  refine J.block (J.loop (ulE w0 L) (fun i => i ≤ L.length ∧ ∀ i' (hi : i' < L.length), i' < i → ∀ k (hk : k < i'), dotOf L[k] ≠ dotOf L[i']) (fun i => L.length - i) 0 ⟨Nat.zero_le _, fun i' _ h => by omega⟩ ?_ ?_)
  · repeat (first | exact Weak.nil | refine Weak.cons rfl (Sub.refl _) ?_)
  rintro i ⟨hi, hall⟩
  refine J.seq (J.region mixed hI (by kernel_rfl) ?_)
  repeat ((refine Plan.ints rfl rfl rfl rfl rfl rfl ?_; (skip)))
  refine J.seq (J.condD rfl (fun hc => ?_) (fun hc => ?_))
  · have hlt : i < L.length := by omega
    have hx := hok _ (List.getElem_mem hlt)
    refine J.skip ?_
    refine J.seq (J.block ?_)
    refine J.seq (J.region mixed hI (by kernel_rfl) ?_)
    repeat (first | refine Plan.move rfl rfl rfl rfl ?_ | refine Plan.assign rfl rfl rfl rfl ?_)
    refine J.seq (J.region mixed hI (by kernel_rfl) ?_)
    repeat (refine Plan.assign rfl rfl rfl rfl ?_)
    refine J.block (J.loop (ulK w0 L i) (fun k => k ≤ i ∧ ∀ k' (hk : k' < L.length), k' < k → dotOf L[k'] ≠ dotOf L[i]) (fun k => i - k) 0 ⟨Nat.zero_le _, fun k' _ h => by omega⟩ ?_ ?_)
    · repeat (first | exact Weak.nil | refine Weak.cons rfl (Sub.refl _) ?_)
    rintro k ⟨hk, hallk⟩
    refine J.seq (J.seq (J.region mixed hI (by kernel_rfl) ?_))
    repeat (first | refine Plan.move rfl rfl rfl rfl ?_ | (refine Plan.ints rfl rfl rfl rfl rfl rfl ?_; (skip)))
    refine J.condD rfl (fun hc2 => ?_) (fun hc2 => ?_)
    · have hkl : k < L.length := by omega
      have hy := hok _ (List.getElem_mem hkl)
      refine J.skip ?_
      refine J.seq (J.block ?_)
      refine J.seq (J.region mixed hI (by kernel_rfl) ?_)
      repeat (refine Plan.move rfl rfl rfl rfl ?_)
      refine Plan.indexAddr EvV.enc 26 L ev0 rfl rfl rfl rfl (Sub.old fun _ h => h) rfl eltE encE (by omega) (by omega) ?_
      rw [Int.toNat_natCast, getD_at hlt]
      refine Plan.fieldPtr (us := [vi L[i].r, vi L[i].n]) rfl rfl rfl rfl (Sub.refl _) Try.underlying41 rfl (by kernel_rfl) rfl ?_
      refine Plan.loadAggP rfl rfl rfl rfl (Sub.refl _) Try.underlying26 rfl (by kernel_rfl) ?_
      repeat (refine Plan.move rfl rfl rfl rfl ?_)
      refine Plan.indexAddr EvV.enc 26 L ev0 rfl rfl rfl rfl (Sub.old fun _ h => h) rfl eltE encE (by omega) (by omega) ?_
      rw [Int.toNat_natCast, getD_at hkl]
      refine Plan.fieldPtr (us := [vi L[k].r, vi L[k].n]) rfl rfl rfl rfl (Sub.refl _) Try.underlying41 rfl (by kernel_rfl) rfl ?_
      refine Plan.loadAggP rfl rfl rfl rfl (Sub.refl _) Try.underlying26 rfl (by kernel_rfl) ?_
      refine Plan.eqlDt (L[i].r, L[i].n) (L[k].r, L[k].n) rfl rfl rfl rfl rfl ⟨hx.1, hx.2.1⟩ ⟨hy.1, hy.2.1⟩ ?_
      refine J.condD rfl (fun hd => ?_) (fun hd => ?_)
      · refine J.seq (J.region mixed hI (by kernel_rfl) ?_)
        repeat (refine Plan.assign rfl rfl rfl rfl ?_)
        rw [decide_eq_false (show ¬ unlikeM L from fun h => by
          have := List.pairwise_iff_getElem.1 h k i hkl hlt (by omega)
          exact this hd.symm)]
        exact J.ret (Nrm.ret1 rfl (fun _ h => h) rfl fun B _ => Sub.refl _)
      · refine J.skip ?_
        refine J.region mixed hI (by kernel_rfl) ?_
        repeat (first | refine Plan.move rfl rfl rfl rfl ?_ | refine Plan.assign rfl rfl rfl rfl ?_ | (refine Plan.ints rfl rfl rfl rfl rfl rfl ?_; (refine Plan.int (i64r (by omega)) ?_)))
        refine Plan.int (y := ((k + 1 : Nat) : Int)) (by omega) ?_
        repeat (fail)
        refine Nrm.next (k + 1) ⟨by omega, fun k' hk' hkk => ?_⟩ (by omega) (by repeat (first | exact Weak.nil | refine Weak.cons rfl (Sub.refl _) ?_))
        by_cases hj2 : k' < k
        · exact hallk k' hk' hj2
        · have : k' = k := by omega
          subst this; exact fun e => hd e.symm
    · have hke : k = i := by omega
      subst hke
      refine J.exit ?_
      refine J.region mixed hI (by kernel_rfl) ?_
      repeat (first | refine Plan.move rfl rfl rfl rfl ?_ | (refine Plan.ints rfl rfl rfl rfl rfl rfl ?_; (refine Plan.int (i64r (by omega)) ?_)))
      refine Plan.int (y := ((k + 1 : Nat) : Int)) (by omega) ?_
      repeat (fail)
      refine Nrm.next (k + 1) ⟨by omega, fun i' hi' hik k' hk' => ?_⟩ (by omega) (by repeat (first | exact Weak.nil | refine Weak.cons rfl (Sub.refl _) ?_))
      by_cases hj2 : i' < k
      · exact hall i' hi' hj2 k' hk'
      · have : i' = k := by omega
        subst this; exact hallk k' (by omega) hk'
  have hie : i = L.length := by omega
  subst hie
  refine J.exit ?_
  refine J.seq (J.region mixed hI (by kernel_rfl) ?_)
  repeat (refine Plan.assign rfl rfl rfl rfl ?_)
  rw [decide_eq_true (show unlikeM L from List.pairwise_iff_getElem.2 fun k i hk hi hki => hall i hi hi k hki)]
  exact J.ret (Nrm.ret1 rfl (fun _ h => h) rfl fun B _ => Sub.refl _)
end Go.Proofs.Ytfglecmimoeinaa
end

section
set_option linter.unusedSimpArgs false
set_option linter.unusedVariables false
set_option maxRecDepth 20000
namespace Go.Proofs.Ytfglecmimoeinaa
open Go.Free Go.RowKit Go.Proofs Go.Free.Sorts
theorem order_dots {key : List UInt8} {L : List EvV} (hu : unlikeM L) {K : Nat} (hK : (nodesM key L).length < K) : orderM key L = undD (nodesM key L) K none := by
  unfold orderM
  have hm := mu_le (nodesM key L) none
  rw [und_enough ((nodesM key L).length + 1) K none (by omega) (by omega)]
  exact und_events (unlike_filter hu _) K none (fun i h => by cases h)
theorem order_mem {key : List UInt8} {L M : List EvV} (hl : unlikeM L) (hm : unlikeM M) (h : ∀ v, v ∈ L ↔ v ∈ M) : orderM key L = orderM key M := by
  rw [order_dots hl (K := (nodesM key L).length + (nodesM key M).length + 1) (by omega), order_dots hm (K := (nodesM key L).length + (nodesM key M).length + 1) (by omega)]
  refine undD_mem (unlike_filter hl _) (unlike_filter hm _) (fun v => ?_) _ _
  first | (unfold nodesM; rw [List.mem_filter, List.mem_filter, h v]) | rw [List.mem_filter, List.mem_filter, h v]
theorem ended_mem {L M : List EvV} (h : ∀ v, v ∈ L ↔ v ∈ M) (a : EvV) : endedB L a = endedB M a := by
  unfold endedB
  rw [Bool.eq_iff_iff, List.any_eq_true, List.any_eq_true]
  exact ⟨fun ⟨b, h1, h2⟩ => ⟨b, (h b).1 h1, h2⟩, fun ⟨b, h1, h2⟩ => ⟨b, (h b).2 h1, h2⟩⟩
theorem items_mem {key : List UInt8} {L M : List EvV} (hl : unlikeM L) (hm : unlikeM M) (h : ∀ v, v ∈ L ↔ v ∈ M) : itemsM key L = itemsM key M := by
  unfold itemsM
  rw [order_mem hl hm h, show endedB L = endedB M from funext fun a => ended_mem h a]
def turned (es : List EvV) (k : Nat) (j : Nat) : List EvV := (List.range j).map fun q => es.getD ((es.length - 1 - q + k) % es.length) ev0
theorem turned_succ (es : List EvV) (k j : Nat) : turned es k (j + 1) = turned es k j ++ [es.getD ((es.length - 1 - j + k) % es.length) ev0] := by simp [turned, List.range_succ]
theorem turned_len (es : List EvV) (k j : Nat) : (turned es k j).length = j := by simp [turned]
theorem turned_mem {es : List EvV} {k : Nat} (hk : k < es.length) (x : EvV) : x ∈ es ↔ x ∈ turned es k es.length := by
  unfold turned
  rw [List.mem_map]
  constructor
  · intro hx
    obtain ⟨p, hp⟩ := List.getElem?_of_mem hx
    have hpl : p < es.length := (List.getElem?_eq_some_iff.1 hp).1
    by_cases hkp : k ≤ p
    · refine ⟨es.length - 1 + k - p, List.mem_range.2 (by omega), ?_⟩
      rw [show es.length - 1 - (es.length - 1 + k - p) + k = p by omega, Nat.mod_eq_of_lt hpl, List.getD_eq_getElem?_getD, hp]; rfl
    · refine ⟨k - 1 - p, List.mem_range.2 (by omega), ?_⟩
      rw [show es.length - 1 - (k - 1 - p) + k = p + es.length by omega, Nat.add_mod_right, Nat.mod_eq_of_lt hpl, List.getD_eq_getElem?_getD, hp]; rfl
  · rintro ⟨q, hq, rfl⟩
    have hl : (es.length - 1 - q + k) % es.length < es.length := Nat.mod_lt _ (by omega)
    rw [List.getD_eq_getElem?_getD, List.getElem?_eq_getElem hl]
    exact List.getElem_mem hl
theorem mod2 {a n : Nat} (h : a < n + n) : a % n = if a < n then a else a - n := by
  split
  · exact Nat.mod_eq_of_lt (by assumption)
  · rw [Nat.mod_eq_sub_mod (by omega), Nat.mod_eq_of_lt (by omega)]
theorem turned_unlike {es : List EvV} {k : Nat} (hk : k < es.length) (hu : unlikeM es) : unlikeM (turned es k es.length) := by
  unfold turned unlikeM
  rw [List.pairwise_map]
  have hr : (List.range es.length).Pairwise (fun i j => i < j ∧ i < es.length ∧ j < es.length) := by
    rw [List.pairwise_iff_getElem]
    intro i j hi hj hij
    simp only [List.getElem_range]
    exact ⟨hij, by simpa using hi, by simpa using hj⟩
  refine hr.imp fun {i j} ⟨h1, h2, h3⟩ => ?_
  have ha : (es.length - 1 - i + k) % es.length < es.length := Nat.mod_lt _ (by omega)
  have hb : (es.length - 1 - j + k) % es.length < es.length := Nat.mod_lt _ (by omega)
  have hne : (es.length - 1 - i + k) % es.length ≠ (es.length - 1 - j + k) % es.length := by
    rw [mod2 (a := es.length - 1 - i + k) (by omega), mod2 (a := es.length - 1 - j + k) (by omega)]
    split <;> split <;> omega
  rw [getD_at ha, getD_at hb]
  rcases Nat.lt_or_ge ((es.length - 1 - i + k) % es.length) ((es.length - 1 - j + k) % es.length) with h | h
  · exact List.pairwise_iff_getElem.1 hu _ _ ha hb h
  · exact Ne.symm (List.pairwise_iff_getElem.1 hu _ _ hb ha (by omega))
theorem turned_ok {es : List EvV} {k : Nat} (hk : k < es.length) (hok : ∀ e ∈ es, e.okV) : ∀ e ∈ turned es k es.length, e.okV := fun e he => hok e ((turned_mem hk e).2 he)
end Go.Proofs.Ytfglecmimoeinaa
end

section
set_option linter.unusedSimpArgs false
set_option linter.unusedVariables false
set_option maxRecDepth 20000
namespace Go.Proofs.Ytfglecmimoeinaa
open Go.Free Go.RowKit Go.Proofs Go.Free.Sorts
set_option maxHeartbeats 8000000

def rrE (w0 : World) (L : List EvV) (key : List UInt8) (k : Nat) (s : Nat × Option Addr × Nat) : Env :=
  [(0, old w0 (row 26 (evsC L))), (1, .ex (str key)), (7, .ex (vi k)), (8, .ex (.slice s.2.1 (turned L k s.1).length s.2.2)), (9, .ex (vi ((L.length : Int) - 1 - s.1))), (1000, heap (newB w0) [rowEv s.2.1 (turned L k s.1).length s.2.2 (evsC (turned L k s.1))])]
theorem lawOrder (L : List EvV) (hl : L.length ≤ 9223372036854775807) (hok : ∀ e ∈ L, e.okV) (key : List UInt8) (c : Int) (hc : 0 ≤ c ∧ c ≤ 18446744073709551615) : Spc Try.prog 4 [row 26 (evsC L), .ex (str key), .ex (.int .u64 c)] fun _ => .ex (.bool true) := by
  obtain ⟨c, rfl⟩ : ∃ n : Nat, c = n := ⟨c.toNat, by omega⟩
  refine Spc.intro Try.func4 rfl (Nat.le_of_ble_eq_true rfl) fun w0 => ?_
  have hI := hIb w0
  have hA := Own.below w0
  refine J.heap0 1000 (newB w0) ?_
  refine J.seq (J.region mixed hI (by kernel_rfl) ?_)
  repeat (refine Plan.assign rfl rfl rfl rfl ?_)
  refine J.seq (J.seq (J.region mixed hI (by kernel_rfl) ?_))
  refine Plan.call (B := w0.heap.size) rfl rfl rfl (awakeP_fn) Try.func9 rfl rfl (hBb w0) (by repeat (exact Opnds.nil)) ?_
  repeat (first | refine Plan.move rfl rfl rfl rfl ?_ | refine Plan.un rfl rfl rfl rfl rfl ?_)
  refine Plan.call (B := w0.heap.size) rfl rfl rfl (few_fn L hl hok) Try.func10 rfl rfl (hBb w0) (by repeat (first | exact Opnds.nil | refine Opnds.cons rfl (by exact Sub.old (fun _ h => h)) ?_)) ?_
  repeat (first | refine Plan.move rfl rfl rfl rfl ?_ | refine Plan.pick rfl rfl rfl rfl rfl ?_ | refine Plan.un rfl rfl rfl rfl rfl ?_)
  refine Plan.splitND (fun hf => ?_) (fun hf => ?_)
  · repeat (first | refine Plan.move rfl rfl rfl rfl ?_ | refine Plan.skip rfl rfl ?_ | refine Plan.pick rfl rfl rfl rfl rfl ?_)
    refine J.condT rfl ?_
    refine J.seq (J.region mixed hI (by kernel_rfl) ?_)
    refine Plan.call (B := w0.heap.size) rfl rfl rfl (awakeP_fn) Try.func9 rfl rfl (hBb w0) (by repeat (exact Opnds.nil)) ?_
    repeat (refine Plan.assign rfl rfl rfl rfl ?_)
    exact J.ret (Nrm.ret1 rfl (fun _ h => h) rfl fun B _ => Sub.refl _)
  have hl60 : L.length ≤ 60 := hf.1
  repeat (refine Plan.move rfl rfl rfl rfl ?_)
  refine Plan.call (B := w0.heap.size) rfl rfl rfl (unlike_fn L (by omega) hok) Try.func18 rfl rfl (hBb w0) (by repeat (first | exact Opnds.nil | refine Opnds.cons rfl (by exact Sub.old (fun _ h => h)) ?_)) ?_
  repeat (first | refine Plan.move rfl rfl rfl rfl ?_ | refine Plan.pick rfl rfl rfl rfl rfl ?_ | refine Plan.un rfl rfl rfl rfl rfl ?_)
  refine Plan.splitND (fun hu => ?_) (fun hu => ?_)
  · repeat (first | refine Plan.skip rfl rfl ?_ | refine Plan.pick rfl rfl rfl rfl rfl ?_)
    refine J.condT rfl ?_
    refine J.seq (J.region mixed hI (by kernel_rfl) ?_)
    refine Plan.call (B := w0.heap.size) rfl rfl rfl (awakeP_fn) Try.func9 rfl rfl (hBb w0) (by repeat (exact Opnds.nil)) ?_
    repeat (refine Plan.assign rfl rfl rfl rfl ?_)
    exact J.ret (Nrm.ret1 rfl (fun _ h => h) rfl fun B _ => Sub.refl _)
  repeat (refine Plan.move rfl rfl rfl rfl ?_)
  refine Plan.lenRow (m := L.length) rfl rfl rfl rfl (Sub.old fun _ h => h) Try.underlying22 (by rw [evs_len]) (by decide) ?_
  repeat (first | refine Plan.pick rfl rfl rfl rfl rfl ?_ | (refine Plan.ints rfl rfl rfl rfl rfl rfl ?_; (skip)))
  refine J.condD rfl (fun h0 => ?_) (fun h0 => ?_)
  · refine J.seq (J.region mixed hI (by kernel_rfl) ?_)
    refine Plan.call (B := w0.heap.size) rfl rfl rfl (awakeP_fn) Try.func9 rfl rfl (hBb w0) (by repeat (exact Opnds.nil)) ?_
    repeat (refine Plan.assign rfl rfl rfl rfl ?_)
    exact J.ret (Nrm.ret1 rfl (fun _ h => h) rfl fun B _ => Sub.refl _)
  refine J.skip ?_
  have hpos : 0 < L.length := by omega
  refine J.seq (J.region mixed hI (by kernel_rfl) ?_)
  repeat (refine Plan.move rfl rfl rfl rfl ?_)
  refine Plan.lenRow (m := L.length) rfl rfl rfl rfl (Sub.old fun _ h => h) Try.underlying22 (by rw [evs_len]) (by decide) ?_
  repeat ((refine Plan.convInt rfl rfl rfl rfl (by exact Try.underlying3) (by first | exact Try.underlying3 | exact Try.underlying35) ?_; (refine Plan.int (u64r (by omega)) ?_)))
  refine Plan.remI rfl rfl rfl rfl rfl (by omega) ?_
  obtain ⟨k, hk⟩ : ∃ k, k = c % L.length := ⟨_, rfl⟩
  have hkl : k < L.length := by rw [hk]; exact Nat.mod_lt _ hpos
  rw [← hk]
  refine Plan.convInt rfl rfl rfl rfl (by exact Try.underlying35) (by exact Try.underlying3) ?_
  refine Plan.int (i64r (by omega)) ?_
  repeat (refine Plan.assign rfl rfl rfl rfl ?_)
  refine J.nilRow (key := 1000) 41 26 rfl ?_
  refine J.seq (J.region mixed hI (by kernel_rfl) ?_)
  repeat (refine Plan.assign rfl rfl rfl rfl ?_)
  refine J.seq (J.seq (J.region mixed hI (by kernel_rfl) ?_))
  repeat (refine Plan.move rfl rfl rfl rfl ?_)
  refine Plan.lenRow (m := L.length) rfl rfl rfl rfl (Sub.old fun _ h => h) Try.underlying22 (by rw [evs_len]) (by decide) ?_
  refine Plan.ints rfl rfl rfl rfl rfl rfl ?_
  refine Plan.int (y := (L.length : Int) - 1 - ((0 : Nat) : Int)) (by rw [i64r (by omega)]; omega) ?_
  repeat (refine Plan.assign rfl rfl rfl rfl ?_)
  refine J.block (J.loop (rrE w0 L key k) (fun s => s.1 ≤ L.length) (fun s => L.length - s.1) (0, none, 0) (Nat.zero_le _) ?_ ?_)
  · repeat (first | exact Weak.nil | refine Weak.cons rfl (Sub.refl _) ?_)
  rintro ⟨j, B, cap⟩ hj
  simp only at hj
  change J _ _ _ _ _ (rrE w0 L key k (j, B, cap))
  have htj := turned_len L k j
  refine J.seq (J.seq (J.region mixed hI (by kernel_rfl) ?_))
  repeat (first | refine Plan.move rfl rfl rfl rfl ?_ | (refine Plan.ints rfl rfl rfl rfl rfl rfl ?_; (skip)))
  refine J.condD rfl (fun hc2 => ?_) (fun hc2 => ?_)
  · have hlt : j < L.length := by
      first | omega | (dsimp only at hc2; omega)
    have hml : (L.length - 1 - j + k) % L.length < L.length := Nat.mod_lt _ hpos
    refine J.skip ?_
    refine J.seq (J.block ?_)
    refine (J.region mixed hI (by kernel_rfl) ?_)
    refine Plan.move rfl rfl rfl rfl ?_
    refine Plan.move rfl rfl rfl rfl ?_
    refine Plan.move rfl rfl rfl rfl ?_
    refine Plan.move rfl rfl rfl rfl ?_
    refine Plan.ints rfl rfl rfl rfl rfl rfl ?_
    refine Plan.int (y := ((L.length - 1 - j + k : Nat) : Int)) (by dsimp only; rw [i64r (by omega)]; omega) ?_
    refine Plan.move rfl rfl rfl rfl ?_
    refine Plan.lenRow (m := L.length) rfl rfl rfl rfl (Sub.old fun _ h => h) Try.underlying22 (by rw [evs_len]) (by decide) ?_
    refine Plan.remI rfl rfl rfl rfl rfl (by omega) ?_
    refine Plan.indexAddr EvV.enc 26 L ev0 rfl rfl rfl rfl (Sub.old fun _ h => h) rfl eltE encE (by omega) (by omega) ?_
    rw [Int.toNat_natCast]
    refine Plan.loadAggP rfl rfl rfl rfl (Sub.refl _) Try.underlying41 rfl (by rw [encE]; kernel_rfl) ?_
    refine Plan.lit (B := w0.heap.size) rfl rfl rfl eltE rfl (hBb w0) rfl (by simp [Value.cells, EvV.enc]) (by decide) ?_
    refine Plan.appendC (key := 1000) (q := 0) (news := evsC [L.getD ((L.length - 1 - j + k) % L.length) ev0]) rfl rfl rfl rfl rfl (Sub.rowEq (by simp [evsC, flat, Value.cells]) Sub.own) eltE (by intro _ e; cases e; decide) rfl hA rfl (evs_one _) (by rw [evs_len, evs_len, htj]; simp; omega) fun B' m' cap' hm' => ?_
    rw [← evs_app, ← turned_succ]
    obtain rfl : m' = (turned L k (j + 1)).length := by
      rw [evs_len, evs_len, htj] at hm'
      rw [turned_len]
      simp only [List.length_cons, List.length_nil] at hm'
      omega
    repeat (refine Plan.assign rfl rfl rfl rfl ?_)
    refine J.region mixed hI (by kernel_rfl) ?_
    repeat (first | refine Plan.move rfl rfl rfl rfl ?_ | refine Plan.assign rfl rfl rfl rfl ?_ | (refine Plan.ints rfl rfl rfl rfl rfl rfl ?_; (refine Plan.int (i64r (by omega)) ?_)))
    refine Plan.int (y := (L.length : Int) - 1 - ((j + 1 : Nat) : Int)) (by omega) ?_
    repeat (fail)
    exact Nrm.next (j + 1, B', cap') hlt (by dsimp only; omega) (by repeat (first | exact Weak.nil | refine Weak.cons rfl (Sub.refl _) ?_))
  have hje : j = L.length := by
    first | omega | (dsimp only at hc2; omega)
  subst hje
  refine J.exit ?_
  unfold rrE
  dsimp only
  have hmo := turned_ok hkl hok
  have htu := turned_unlike hkl hu
  have c1 := order_fn (turned L k L.length) (by omega) hmo key
  rw [← order_mem hu htu (turned_mem hkl)] at c1
  have c2 := items_fn (turned L k L.length) (by omega) hmo key
  rw [← items_mem hu htu (turned_mem hkl)] at c2
  have hso : ∀ e ∈ orderM key L, e.okV := fun e he => hok e (order_node e he).1
  have hsi : ∀ e ∈ itemsM key L, e.okV := fun e he => hso e (List.mem_filter.1 he).1
  have hlo := order_len key L
  have hli := items_len key L
  refine J.seq (J.region mixed hI (by kernel_rfl) ?_)
  repeat (refine Plan.move rfl rfl rfl rfl ?_)
  refine Plan.call (B := w0.heap.size) rfl rfl rfl (order_fn L (by omega) hok key) Try.func14 rfl rfl (hBb w0) (by repeat (first | exact Opnds.nil | refine Opnds.cons rfl (by first | exact Sub.refl _ | exact Sub.old (fun _ h => h)) ?_)) ?_
  repeat (refine Plan.move rfl rfl rfl rfl ?_)
  refine Plan.seeC (t := 56) (key := 1000) (q := 0) (xs := evsC (turned L k L.length)) (by kernel_rfl) hI rfl rfl rfl (fun w F hh => row_rowH hh) ?_
  refine Plan.call (B := w0.heap.size) rfl rfl rfl (c1) Try.func14 rfl rfl (hBb w0) (by repeat (first | exact Opnds.nil | refine Opnds.cons rfl (by exact Sub.refl _) ?_)) ?_
  refine Plan.call (B := w0.heap.size) rfl rfl rfl (sameE_fn (orderM key L) (by omega) hso) Try.func13 rfl rfl (hBb w0) (by repeat (first | exact Opnds.nil | refine Opnds.cons rfl (by exact Sub.own) ?_)) ?_
  repeat (refine Plan.move rfl rfl rfl rfl ?_)
  refine Plan.call (B := w0.heap.size) rfl rfl rfl (items_fn L (by omega) hok key) Try.func16 rfl rfl (hBb w0) (by repeat (first | exact Opnds.nil | refine Opnds.cons rfl (by first | exact Sub.refl _ | exact Sub.old (fun _ h => h)) ?_)) ?_
  repeat (refine Plan.move rfl rfl rfl rfl ?_)
  refine Plan.seeC (t := 64) (key := 1000) (q := 0) (xs := evsC (turned L k L.length)) (by kernel_rfl) hI rfl rfl rfl (fun w F hh => row_rowH hh) ?_
  refine Plan.call (B := w0.heap.size) rfl rfl rfl (c2) Try.func16 rfl rfl (hBb w0) (by repeat (first | exact Opnds.nil | refine Opnds.cons rfl (by exact Sub.refl _) ?_)) ?_
  refine Plan.call (B := w0.heap.size) rfl rfl rfl (sameE_fn (itemsM key L) (by omega) hsi) Try.func13 rfl rfl (hBb w0) (by repeat (first | exact Opnds.nil | refine Opnds.cons rfl (by exact Sub.own) ?_)) ?_
  repeat (first | refine Plan.assign rfl rfl rfl rfl ?_ | refine Plan.pick rfl rfl rfl rfl rfl ?_)
  exact J.ret (Nrm.ret1 rfl (fun _ h => h) rfl fun B _ => Sub.refl _)
theorem lawOrderC (ls : List (List Value)) (key : List UInt8) (c : Int) (hl : ls.length ≤ 9223372036854775807) (hcs : ∀ c ∈ ls, CellsOk kdsEvent c) (_ : key.length ≤ 9223372036854775807) (hc : 0 ≤ c ∧ c ≤ 18446744073709551615) : Spc Try.prog 4 [row 26 ls.flatten, .ex (str key), .ex (.int .u64 c)] fun _ => .ex (.bool true) := by
  obtain ⟨es, h1, h2, h3⟩ := evs_of ls hcs
  rw [h2]
  exact lawOrder es (by omega) h3 key c hc
end Go.Proofs.Ytfglecmimoeinaa
end
