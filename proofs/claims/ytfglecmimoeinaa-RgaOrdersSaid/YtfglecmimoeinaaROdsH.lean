/-
  Laid together: RgaLaws, RgaAwake, RgaUnlike, RgaRefA, RgaUnderP, RgaUnder, RgaEndsR, RgaRefI, RgaOrders.
-/
import Derived.Test.YtfglecmimoeinaaROdsG

section
set_option linter.unusedSimpArgs false
set_option linter.unusedVariables false
set_option maxRecDepth 20000
namespace Go.Proofs.Ytfglecmimoeinaa
open Go.Free Go.RowKit Go.Proofs Go.Free.Sorts
set_option maxHeartbeats 8000000

theorem formedEv (zs : Array Value) (h : zs.size = kdsEvent.length) : (Value.agg zs).formed Try.prog 41 = true := by
  have hc : Try.prog.cellsOf 41 = 26 := by kernel_rfl
  unfold Value.formed
  rw [Try.underlying41]
  simp only [hc, h]
  rfl
def seE (w0 : World) (L : List EvV) (i : Nat) : Env := [(0, old w0 (row 26 (evsC L))), (1, old w0 (row 26 (evsC L))), (12, .ex (vi L.length)), (13, .ex (vi i))]
theorem sameE_fn (L : List EvV) (hl : L.length ≤ 1000000) (hok : ∀ x ∈ L, x.okV) : Spc Try.prog 13 [row 26 (evsC L), row 26 (evsC L)] fun _ => .ex (.bool true) := by
  refine Spc.intro Try.func13 rfl (Nat.le_of_ble_eq_true rfl) fun w0 => ?_
  have hI := hIb w0
  repeat (first | refine Plan.move rfl rfl rfl rfl ?_ | refine Plan.assign rfl rfl rfl rfl ?_ | refine J.seq (J.region mixed hI (by kernel_rfl) ?_) | refine J.seq (J.seq (J.region mixed hI (by kernel_rfl) ?_)))
  refine Plan.lenRow (m := L.length) rfl rfl rfl rfl (Sub.old fun _ h => h) Try.underlying22 (by rw [evs_len]) (by decide) ?_
  repeat (refine Plan.move rfl rfl rfl rfl ?_)
  refine Plan.lenRow (m := L.length) rfl rfl rfl rfl (Sub.old fun _ h => h) Try.underlying22 (by rw [evs_len]) (by decide) ?_
  repeat ((refine Plan.ints rfl rfl rfl rfl rfl rfl ?_; (skip)))
  refine Plan.boolv (y := false) (by simp) ?_
  repeat (first | refine Plan.move rfl rfl rfl rfl ?_ | refine J.seq (J.seq (J.region mixed hI (by kernel_rfl) ?_)) | refine J.condF rfl ?_ | refine J.skip ?_)
  refine Plan.lenRow (m := L.length) rfl rfl rfl rfl (Sub.old fun _ h => h) Try.underlying22 (by rw [evs_len]) (by decide) ?_
  repeat (refine Plan.move rfl rfl rfl rfl ?_)
  refine J.block (J.loop (seE w0 L) (fun i => i ≤ L.length) (fun i => L.length - i) 0 (Nat.zero_le _) ?_ ?_)
  · repeat (first | exact Weak.nil | refine Weak.cons rfl (Sub.refl _) ?_)
  intro i hi
  repeat (first | (refine Plan.ints rfl rfl rfl rfl rfl rfl ?_; (skip)) | refine J.seq (J.region mixed hI (by kernel_rfl) ?_))
  refine J.seq (J.condD rfl (fun hc => ?_) (fun hc => ?_))
  · have hlt : i < L.length := by omega
    have hx : L[i]? = some L[i] := List.getElem?_eq_getElem hlt
    have hgd : L.getD i ev0 = L[i] := by rw [List.getD_eq_getElem?_getD, hx]; rfl
    have hki := hok _ (List.getElem_mem hlt)
    repeat (refine J.skip ?_)
    refine J.seq (J.block ?_)
    repeat (first | refine Plan.move rfl rfl rfl rfl ?_ | refine Plan.assign rfl rfl rfl rfl ?_ | refine J.seq (J.region mixed hI (by kernel_rfl) ?_))
    refine Plan.indexAddr EvV.enc 26 L ev0 rfl rfl rfl rfl (Sub.old fun _ h => h) rfl eltE encE (by omega) (by omega) ?_
    rw [Int.toNat_natCast, hgd]
    refine Plan.loadAggP rfl rfl rfl rfl (Sub.refl _) Try.underlying41 rfl (by rw [encE]; kernel_rfl) ?_
    repeat (refine Plan.move rfl rfl rfl rfl ?_)
    refine Plan.indexAddr EvV.enc 26 L ev0 rfl rfl rfl rfl (Sub.old fun _ h => h) rfl eltE encE (by omega) (by omega) ?_
    rw [Int.toNat_natCast, hgd]
    refine Plan.loadAggP rfl rfl rfl rfl (Sub.refl _) Try.underlying41 rfl (by rw [encE]; kernel_rfl) ?_
    refine Plan.eqAgg (m := 9) (l := kdsEvent) (xs := L[i].enc) (ys := L[i].enc) (r := true) (v := false) rfl rfl rfl rfl rfl (by decide) (by kernel_rfl) (by kernel_rfl) (by kernel_rfl) (enc_ok hki) (enc_ok hki) formedEv (by simp) (.inr ⟨rfl, rfl⟩) ?_
    repeat (first | refine Plan.move rfl rfl rfl rfl ?_ | (refine Plan.ints rfl rfl rfl rfl rfl rfl ?_; (refine Plan.int (i64r (by omega)) ?_)) | refine J.region mixed hI (by kernel_rfl) ?_ | refine J.condF rfl ?_ | refine J.skip ?_)
    refine Plan.int (y := ((i + 1 : Nat) : Int)) (by omega) ?_
    repeat (fail)
    exact Nrm.next (i + 1) (by omega) (by omega) (by repeat (first | exact Weak.nil | refine Weak.cons rfl (Sub.refl _) ?_))
  refine J.exit ?_
  repeat (first | refine Plan.assign rfl rfl rfl rfl ?_ | refine J.seq (J.region mixed hI (by kernel_rfl) ?_))
  exact J.ret (Nrm.ret1 rfl (fun _ h => h) rfl fun B _ => Sub.refl _)

def anchorM (items : List EvV) (p : Int) : (Int × Int) × Int := if p < 0 ∨ p > items.length then ((0, 0), 7) else if p = 0 then ((0, 0), 0) else (((items.getD (p - 1).toNat ev0).r, (items.getD (p - 1).toNat ev0).n), 0)
theorem items_len (key : List UInt8) (L : List EvV) : (itemsM key L).length ≤ L.length := Nat.le_trans (List.length_filter_le _ _) (order_len key L)
theorem anchor_fn (L : List EvV) (hl : L.length ≤ 1000000) (hok : ∀ e ∈ L, e.okV) (key : List UInt8) (p : Int) : Spc Try.prog 11 [row 26 (evsC L), .ex (str key), .ex (vi p)] fun _ => .tup [.ex (aggD (anchorM (itemsM key L) p).1.1 (anchorM (itemsM key L) p).1.2), .ex (vi (anchorM (itemsM key L) p).2)] := by
  refine Spc.intro Try.func11 rfl (Nat.le_of_ble_eq_true rfl) fun w0 => ?_
  have hI := hIb w0
  have hA := Own.below w0
  have hil := items_len key L
  refine J.heap0 1000 (newB w0) ?_
  refine J.seq (J.region mixed hI (by kernel_rfl) ?_)
  refine Plan.allocC (key := 1000) (z := aggD 0 0) rfl rfl rfl (by intro _ e; cases e; decide) (by kernel_rfl) rfl hA fun ξ => ?_
  repeat (refine Plan.assign rfl rfl rfl rfl ?_)
  refine J.seq (J.region mixed hI (by kernel_rfl) ?_)
  repeat (refine Plan.move rfl rfl rfl rfl ?_)
  refine Plan.call (B := w0.heap.size) rfl rfl rfl (items_fn L hl hok key) Try.func16 rfl rfl (hBb w0) (by repeat (first | exact Opnds.nil | refine Opnds.cons rfl (by first | exact Sub.refl _ | exact Sub.old (fun _ h => h)) ?_)) ?_
  repeat (refine Plan.assign rfl rfl rfl rfl ?_)
  obtain ⟨items, hit⟩ : ∃ items, items = itemsM key L := ⟨_, rfl⟩
  rw [← hit] at hil ⊢
  refine J.seq (J.block ?_)
  refine J.seq (J.region mixed hI (by kernel_rfl) ?_)
  repeat (first | refine Plan.move rfl rfl rfl rfl ?_ | (refine Plan.ints rfl rfl rfl rfl rfl rfl ?_; (skip)))
  by_cases h1 : p < 0
  · refine Plan.boolv (y := true) (decide_eq_true h1) ?_
    repeat (first | refine Plan.assign rfl rfl rfl rfl ?_ | refine Plan.skip rfl rfl ?_ | refine Plan.pick rfl rfl rfl rfl rfl ?_)
    refine J.condT rfl ?_
    have ha : anchorM items p = ((0, 0), 7) := by unfold anchorM; rw [if_pos (.inl h1)]
    rw [ha]
    refine J.seq (J.region mixed hI (by kernel_rfl) ?_)
    refine Plan.build (cells := #[vi 0, vi 0]) rfl rfl (ps := []) rfl Parts.nil (by kernel_rfl) ?_
    refine Plan.storeC (key := 1000) (q := 0) (off := 0) rfl rfl rfl rfl rfl rfl (by simp [Value.cells, Value.oneCell']) (by kernel_rfl) rfl hA rfl (obj_pat (Nat.le_of_ble_eq_true rfl)) ?_
    repeat (refine Plan.assign rfl rfl rfl rfl ?_)
    exact J.ret (Nrm.retCT (key := 1000) (q := 0) rfl (fun _ h => h) rfl rfl rfl obj_whole Try.underlying26 rfl (by kernel_rfl) fun B _ => ⟨_, _, rfl, rfl, Sub.refl _⟩)
  refine Plan.boolv (y := false) (decide_eq_false h1) ?_
  repeat (refine Plan.move rfl rfl rfl rfl ?_)
  refine Plan.lenRow (m := items.length) rfl rfl rfl rfl Sub.own Try.underlying22 (by rw [evs_len]) (by decide) ?_
  repeat (first | refine Plan.assign rfl rfl rfl rfl ?_ | refine Plan.pick rfl rfl rfl rfl rfl ?_ | (refine Plan.ints rfl rfl rfl rfl rfl rfl ?_; (skip)))
  by_cases h2 : p > items.length
  · refine Plan.boolv (y := true) (decide_eq_true h2) ?_
    repeat (fail)
    refine J.condT rfl ?_
    have ha : anchorM items p = ((0, 0), 7) := by unfold anchorM; rw [if_pos (.inr h2)]
    rw [ha]
    refine J.seq (J.region mixed hI (by kernel_rfl) ?_)
    refine Plan.build (cells := #[vi 0, vi 0]) rfl rfl (ps := []) rfl Parts.nil (by kernel_rfl) ?_
    refine Plan.storeC (key := 1000) (q := 0) (off := 0) rfl rfl rfl rfl rfl rfl (by simp [Value.cells, Value.oneCell']) (by kernel_rfl) rfl hA rfl (obj_pat (Nat.le_of_ble_eq_true rfl)) ?_
    repeat (refine Plan.assign rfl rfl rfl rfl ?_)
    exact J.ret (Nrm.retCT (key := 1000) (q := 0) rfl (fun _ h => h) rfl rfl rfl obj_whole Try.underlying26 rfl (by kernel_rfl) fun B _ => ⟨_, _, rfl, rfl, Sub.refl _⟩)
  refine Plan.boolv (y := false) (decide_eq_false h2) ?_
  repeat (fail)
  refine J.condF rfl ?_
  refine J.seq (J.region mixed hI (by kernel_rfl) ?_)
  repeat (first | refine Plan.move rfl rfl rfl rfl ?_ | refine Plan.assign rfl rfl rfl rfl ?_ | (refine Plan.ints rfl rfl rfl rfl rfl rfl ?_; (skip)))
  by_cases h3 : p = 0
  · refine Plan.boolv (y := true) (decide_eq_true h3) ?_
    repeat (fail)
    refine J.condT rfl ?_
    have ha : anchorM items p = ((0, 0), 0) := by unfold anchorM; rw [if_neg (by omega), if_pos h3]
    rw [ha]
    refine J.seq (J.region mixed hI (by kernel_rfl) ?_)
    refine Plan.build (cells := #[vi 0, vi 0]) rfl rfl (ps := []) rfl Parts.nil (by kernel_rfl) ?_
    refine Plan.storeC (key := 1000) (q := 0) (off := 0) rfl rfl rfl rfl rfl rfl (by simp [Value.cells, Value.oneCell']) (by kernel_rfl) rfl hA rfl (obj_pat (Nat.le_of_ble_eq_true rfl)) ?_
    repeat (refine Plan.assign rfl rfl rfl rfl ?_)
    exact J.ret (Nrm.retCT (key := 1000) (q := 0) rfl (fun _ h => h) rfl rfl rfl obj_whole Try.underlying26 rfl (by kernel_rfl) fun B _ => ⟨_, _, rfl, rfl, Sub.refl _⟩)
  refine Plan.boolv (y := false) (decide_eq_false h3) ?_
  repeat (fail)
  refine J.condF rfl ?_
  refine J.skip ?_
  have ha : anchorM items p = (((items.getD (p - 1).toNat ev0).r, (items.getD (p - 1).toNat ev0).n), 0) := by unfold anchorM; rw [if_neg (by omega), if_neg h3]
  rw [ha]
  refine J.seq (J.region mixed hI (by kernel_rfl) ?_)
  repeat (first | refine Plan.move rfl rfl rfl rfl ?_ | (refine Plan.ints rfl rfl rfl rfl rfl rfl ?_; (refine Plan.int (i64r (by omega)) ?_)))
  refine Plan.int (y := p - 1) (by omega) ?_
  refine Plan.indexAddr EvV.enc 26 items ev0 rfl rfl rfl rfl Sub.own rfl eltE encE (by omega) (by omega) ?_
  refine Plan.fieldPtr (us := [vi (items.getD (p - 1).toNat ev0).r, vi (items.getD (p - 1).toNat ev0).n]) rfl rfl rfl rfl (Sub.refl _) Try.underlying41 rfl (by kernel_rfl) rfl ?_
  refine Plan.loadAggP rfl rfl rfl rfl (Sub.refl _) Try.underlying26 rfl (by kernel_rfl) ?_
  refine Plan.storeC (key := 1000) (q := 0) (off := 0) rfl rfl rfl rfl rfl rfl (by simp [Value.cells, Value.oneCell']) (by kernel_rfl) rfl hA rfl (obj_pat (Nat.le_of_ble_eq_true rfl)) ?_
  repeat (refine Plan.assign rfl rfl rfl rfl ?_)
  exact J.ret (Nrm.retCT (key := 1000) (q := 0) rfl (fun _ h => h) rfl rfl rfl obj_whole Try.underlying26 rfl (by kernel_rfl) fun B _ => ⟨_, _, rfl, rfl, Sub.refl _⟩)
end Go.Proofs.Ytfglecmimoeinaa
end

section
set_option linter.unusedSimpArgs false
set_option linter.unusedVariables false
set_option maxRecDepth 20000
namespace Go.Proofs.Ytfglecmimoeinaa
open Go.Free Go.RowKit Go.Proofs Go.Free.Sorts
set_option maxHeartbeats 8000000

def evP : EvV := ⟨0, 1, 0, fun _ => 0, 9, [107], [], [], 0, 0, 0⟩
theorem evP_ok : evP.okV := by refine ⟨?_, ?_, ?_, fun i _ => ?_, ?_, ?_, ?_, ?_, ?_, ?_, ?_⟩ <;> simp [evP, in64]
theorem evP_order : orderM [107] [evP] = [evP] := by
  have h1 : nodesM [107] [evP] = [evP] := by unfold nodesM; rw [List.filter_cons_of_pos (by simp [evP])]; rfl
  unfold orderM
  rw [h1]
  have hp : parM [evP] evP = none := by unfold parM; rw [if_pos ⟨rfl, rfl⟩]
  have h2 : kidsM [evP] none = [0] := by
    unfold kidsM
    have : List.range [evP].length = [0] := rfl
    rw [this, List.filter_cons_of_pos (by simp [hp])]; rfl
  have h3 : kidsM [evP] (some 0) = [] := by
    unfold kidsM
    have : List.range [evP].length = [0] := rfl
    rw [this, List.filter_cons_of_neg (by simp [hp])]; rfl
  show List.map _ (undM [evP] 2 none) = _
  have h4 : undM [evP] 1 (some 0) = [] := by
    show List.flatMap _ (sortK _ (kidsM [evP] (some 0))) = _
    rw [h3]; unfold sortK; rw [List.mergeSort_nil]; rfl
  show List.map _ (List.flatMap _ (sortK _ (kidsM [evP] none))) = _
  rw [h2]
  unfold sortK
  rw [List.mergeSort_singleton, List.flatMap_cons, h4]
  rfl
theorem evP_items : itemsM [107] [evP] = [evP] := by
  unfold itemsM
  rw [evP_order]
  have : endedB [evP] evP = false := by
    unfold endedB
    simp [endsP, evP]
  unfold keepE
  rw [List.filter_cons_of_pos (by rw [this]; rfl)]
  rfl
theorem flat_ev (e : EvV) : flat [.agg e.enc.toArray] = evsC [e] := by simp [flat, Value.cells]
theorem awakeP_fn : Spc Try.prog 9 [] fun _ => .ex (.bool true) := by
  refine Spc.intro Try.func9 rfl (Nat.le_of_ble_eq_true rfl) fun w0 => ?_
  have hI := hIb w0
  have hA := Own.below w0
  have hok : ∀ e ∈ [evP], e.okV := fun e he => by rw [List.mem_singleton.1 he]; exact evP_ok
  have han := anchor_fn [evP] (by decide) hok [107] 1
  have hae : anchorM (itemsM [107] [evP]) 1 = ((0, 1), 0) := by rw [evP_items]; decide
  rw [hae] at han
  have hor := order_fn [evP] (by decide) hok [107]
  rw [evP_order] at hor
  refine J.heap0 1000 (newB w0) ?_
  refine J.seq (J.region mixed hI (by kernel_rfl) ?_)
  repeat (refine Plan.assign rfl rfl rfl rfl ?_)
  refine J.seq (J.region mixed hI (by kernel_rfl) ?_)
  refine Plan.build (cells := #[vi 0, vi 1]) rfl rfl (ps := [(1, _)]) rfl (Parts.cons rfl Parts.nil) (by kernel_rfl) ?_
  refine Plan.build (cells := evP.op.toArray) rfl rfl (ps := [(0, _), (1, _)]) rfl (Parts.cons rfl (Parts.cons rfl Parts.nil)) (by kernel_rfl) ?_
  refine Plan.build (cells := evP.enc.toArray) rfl rfl (ps := [(0, _), (3, _)]) rfl (Parts.cons rfl (Parts.cons rfl Parts.nil)) (by kernel_rfl) ?_
  refine Plan.litC (key := 1000) (vs := [aggE evP]) rfl rfl rfl eltE rfl (by intro _ e; cases e; decide) rfl hA rfl (by simp [Value.cells, EvV.enc]) (by decide) fun B m cap hm => ?_
  rw [flat_ev evP]
  repeat (refine Plan.assign rfl rfl rfl rfl ?_)
  refine J.seq (J.region mixed hI (by kernel_rfl) ?_)
  repeat (refine Plan.move rfl rfl rfl rfl ?_)
  refine Plan.seeC (t := 9) (key := 1000) (q := 0) (xs := evsC [evP]) (by kernel_rfl) hI rfl rfl rfl (fun w F hh => row_rowH hh) ?_
  refine Plan.call (B := w0.heap.size) rfl rfl rfl han Try.func11 rfl rfl (hBb w0) (by repeat (first | exact Opnds.nil | refine Opnds.cons rfl (by exact Sub.refl _) ?_)) ?_
  repeat (first | refine Plan.move rfl rfl rfl rfl ?_ | refine Plan.extract rfl rfl rfl rfl rfl ?_)
  refine Plan.allocC (key := 1000) (z := aggD 0 0) rfl rfl rfl (by intro _ e; cases e; decide) (by kernel_rfl) rfl hA fun ξ => ?_
  refine Plan.storeC (key := 1000) (q := 1) (off := 0) rfl rfl rfl rfl rfl rfl (by simp [Value.cells, Value.oneCell']) (by kernel_rfl) rfl hA rfl (obj_pat (Nat.le_of_ble_eq_true rfl)) ?_
  repeat (refine Plan.assign rfl rfl rfl rfl ?_)
  refine J.seeC (t := 1) (key := 1000) (q := 0) rfl rfl rfl (fun w F h => row_rowH h) ?_
  refine J.seq (J.region mixed hI (by kernel_rfl) ?_)
  repeat (refine Plan.move rfl rfl rfl rfl ?_)
  refine Plan.call (B := w0.heap.size) rfl rfl rfl hor Try.func14 rfl rfl (hBb w0) (by repeat (first | exact Opnds.nil | refine Opnds.cons rfl (by exact Sub.refl _) ?_)) ?_
  refine Plan.lenRow (m := 1) rfl rfl rfl rfl Sub.own Try.underlying22 rfl (by decide) ?_
  repeat (first | refine Plan.move rfl rfl rfl rfl ?_ | (refine Plan.ints rfl rfl rfl rfl rfl rfl ?_; (skip)))
  refine Plan.boolv (y := true) (by decide) ?_
  repeat (fail)
  refine Plan.loadAggC (key := 1000) (q := 1) (vs := [vi 0, vi 1]) rfl rfl rfl rfl rfl rfl obj_whole Try.underlying26 rfl (by kernel_rfl) (by decide) ?_
  repeat (refine Plan.move rfl rfl rfl rfl ?_)
  refine Plan.indexAddr EvV.enc 26 [evP] ev0 rfl rfl rfl rfl (Sub.refl _) rfl eltE encE (by omega) (by decide) ?_
  refine Plan.fieldPtr (us := [vi 0, vi 1]) rfl rfl rfl rfl (Sub.refl _) Try.underlying41 rfl (by kernel_rfl) rfl ?_
  refine Plan.loadAggP rfl rfl rfl rfl (Sub.refl _) Try.underlying26 rfl (by kernel_rfl) ?_
  refine Plan.eqlDt (0, 1) (0, 1) rfl rfl rfl rfl rfl ⟨by simp [in64], by simp [in64]⟩ ⟨by simp [in64], by simp [in64]⟩ ?_
  refine Plan.boolv (y := true) (by decide) ?_
  repeat (first | refine Plan.move rfl rfl rfl rfl ?_ | refine Plan.assign rfl rfl rfl rfl ?_ | refine Plan.pick rfl rfl rfl rfl rfl ?_ | (refine Plan.ints rfl rfl rfl rfl rfl rfl ?_; (skip)))
  refine Plan.boolv (y := true) (by decide) ?_
  repeat (fail)
  exact J.ret (Nrm.ret1 rfl (fun _ h => h) rfl fun B _ => Sub.refl _)
def fewP (L : List EvV) : Prop := L.length ≤ 60 ∧ ∀ e ∈ L, e.key.length ≤ 1000
instance (L : List EvV) : Decidable (fewP L) := by unfold fewP; infer_instance
def feE (w0 : World) (L : List EvV) (i : Nat) : Env := [(0, old w0 (row 26 (evsC L))), (8, .ex (vi L.length)), (9, .ex (vi i))]
theorem few_fn (L : List EvV) (hl : L.length ≤ 9223372036854775807) (hok : ∀ e ∈ L, e.okV) : Spc Try.prog 10 [row 26 (evsC L)] fun _ => .ex (.bool (decide (fewP L))) := by
  refine Spc.intro Try.func10 rfl (Nat.le_of_ble_eq_true rfl) fun w0 => ?_
  have hI := hIb w0
  refine J.seq (J.region mixed hI (by kernel_rfl) ?_)
  repeat (refine Plan.assign rfl rfl rfl rfl ?_)
  refine J.seq (J.seq (J.region mixed hI (by kernel_rfl) ?_))
  repeat (refine Plan.move rfl rfl rfl rfl ?_)
  refine Plan.lenRow (m := L.length) rfl rfl rfl rfl (Sub.old fun _ h => h) Try.underlying22 (by rw [evs_len]) (by decide) ?_
  repeat ((refine Plan.ints rfl rfl rfl rfl rfl rfl ?_; (skip)))
  refine J.condD rfl (fun h1 => ?_) (fun h1 => ?_)
  · refine J.seq (J.region mixed hI (by kernel_rfl) ?_)
    repeat (refine Plan.assign rfl rfl rfl rfl ?_)
    rw [decide_eq_false (show ¬ fewP L from fun h => by have := h.1; omega)]
    exact J.ret (Nrm.ret1 rfl (fun _ h => h) rfl fun B _ => Sub.refl _)
  refine J.skip ?_
  refine J.seq (J.seq (J.region mixed hI (by kernel_rfl) ?_))
  repeat (refine Plan.move rfl rfl rfl rfl ?_)
  refine Plan.lenRow (m := L.length) rfl rfl rfl rfl (Sub.old fun _ h => h) Try.underlying22 (by rw [evs_len]) (by decide) ?_
  repeat (refine Plan.move rfl rfl rfl rfl ?_)
  refine J.block (J.loop (feE w0 L) (fun i => i ≤ L.length ∧ ∀ j (hj : j < L.length), j < i → L[j].key.length ≤ 1000) (fun i => L.length - i) 0 ⟨Nat.zero_le _, fun j _ h => by omega⟩ ?_ ?_)
  · repeat (first | exact Weak.nil | refine Weak.cons rfl (Sub.refl _) ?_)
  rintro i ⟨hi, hall⟩
  refine J.seq (J.region mixed hI (by kernel_rfl) ?_)
  repeat ((refine Plan.ints rfl rfl rfl rfl rfl rfl ?_; (skip)))
  refine J.seq (J.condD rfl (fun hc => ?_) (fun hc => ?_))
  · have hlt : i < L.length := by omega
    have hki := hok _ (List.getElem_mem hlt)
    have hkl := hki.2.2.2.2.2.1
    refine J.skip ?_
    refine J.seq (J.block ?_)
    refine J.seq (J.region mixed hI (by kernel_rfl) ?_)
    repeat (first | refine Plan.move rfl rfl rfl rfl ?_ | refine Plan.assign rfl rfl rfl rfl ?_)
    refine J.seq (J.region mixed hI (by kernel_rfl) ?_)
    repeat (refine Plan.move rfl rfl rfl rfl ?_)
    refine Plan.indexAddr EvV.enc 26 L ev0 rfl rfl rfl rfl (Sub.old fun _ h => h) rfl eltE encE (by omega) (by omega) ?_
    rw [Int.toNat_natCast, getD_at hlt]
    refine Plan.fieldPtr (us := L[i].op) rfl rfl rfl rfl (Sub.refl _) Try.underlying41 rfl (by kernel_rfl) rfl ?_
    refine Plan.fieldPtr (us := [str L[i].key]) rfl rfl rfl rfl (Sub.refl _) Try.underlying39 rfl (by kernel_rfl) rfl ?_
    refine Plan.load rfl rfl rfl rfl (Sub.refl _) Try.underlying9 rfl ?_
    repeat (first | refine Plan.lenStr rfl rfl rfl rfl Try.underlying9 ?_ | (refine Plan.ints rfl rfl rfl rfl rfl rfl ?_; (skip)))
    refine J.condD rfl (fun h2 => ?_) (fun h2 => ?_)
    · refine J.seq (J.region mixed hI (by kernel_rfl) ?_)
      repeat (refine Plan.assign rfl rfl rfl rfl ?_)
      rw [decide_eq_false (show ¬ fewP L from fun h => by have := h.2 _ (List.getElem_mem hlt); omega)]
      exact J.ret (Nrm.ret1 rfl (fun _ h => h) rfl fun B _ => Sub.refl _)
    refine J.skip ?_
    refine J.region mixed hI (by kernel_rfl) ?_
    repeat (first | refine Plan.move rfl rfl rfl rfl ?_ | (refine Plan.ints rfl rfl rfl rfl rfl rfl ?_; (refine Plan.int (i64r (by omega)) ?_)))
    refine Plan.int (y := ((i + 1 : Nat) : Int)) (by omega) ?_
    repeat (fail)
    refine Nrm.next (i + 1) ⟨hlt, fun j hj hji => ?_⟩ (by omega) (by repeat (first | exact Weak.nil | refine Weak.cons rfl (Sub.refl _) ?_))
    by_cases hj2 : j < i
    · exact hall j hj hj2
    · have : j = i := by omega
      subst this; omega
  have hie : i = L.length := by omega
  subst hie
  refine J.exit ?_
  refine J.seq (J.region mixed hI (by kernel_rfl) ?_)
  repeat (refine Plan.assign rfl rfl rfl rfl ?_)
  rw [decide_eq_true (show fewP L from ⟨by omega, fun e he => by obtain ⟨j, hj, rfl⟩ := List.getElem_of_mem he; exact hall j hj hj⟩)]
  exact J.ret (Nrm.ret1 rfl (fun _ h => h) rfl fun B _ => Sub.refl _)
end Go.Proofs.Ytfglecmimoeinaa
end

section
set_option linter.unusedSimpArgs false
set_option linter.unusedVariables false
set_option maxRecDepth 20000
namespace Go.Proofs.Ytfglecmimoeinaa
open Go.Free Go.RowKit Go.Proofs Go.Free.Sorts
set_option maxHeartbeats 8000000

instance (L : List EvV) : Decidable (unlikeM L) := by unfold unlikeM; infer_instance
def ulE (w0 : World) (L : List EvV) (i : Nat) : Env := [(0, old w0 (row 26 (evsC L))), (6, .ex (vi L.length)), (7, .ex (vi i))]
def ulK (w0 : World) (L : List EvV) (i k : Nat) : Env := [(0, old w0 (row 26 (evsC L))), (6, .ex (vi L.length)), (7, .ex (vi i)), (3, .ex (vi i)), (4, .ex (vi k))]
theorem unlike_fn (L : List EvV) (hl : L.length ≤ 1000000) (hok : ∀ e ∈ L, e.okV) : Spc Try.prog 18 [row 26 (evsC L)] fun _ => .ex (.bool (decide (unlikeM L))) := by
  refine Spc.intro Try.func18 rfl (Nat.le_of_ble_eq_true rfl) fun w0 => ?_
  have hI := hIb w0
  refine J.seq (J.region mixed hI (by kernel_rfl) ?_)
  repeat (refine Plan.assign rfl rfl rfl rfl ?_)
  refine J.seq (J.seq (J.region mixed hI (by kernel_rfl) ?_))
  repeat (refine Plan.move rfl rfl rfl rfl ?_)
  refine Plan.lenRow (m := L.length) rfl rfl rfl rfl (Sub.old fun _ h => h) Try.underlying22 (by rw [evs_len]) (by decide) ?_
  repeat (refine Plan.move rfl rfl rfl rfl ?_)
  refine J.block (J.loop (ulE w0 L) (fun i => i ≤ L.length ∧ ∀ i' (hi : i' < L.length), i' < i → ∀ k (hk : k < i'), dotOf L[k] ≠ dotOf L[i']) (fun i => L.length - i) 0 ⟨Nat.zero_le _, fun i' _ h => by omega⟩ ?_ ?_)
  · repeat (first | exact Weak.nil | refine Weak.cons rfl (Sub.refl _) ?_)
  rintro i ⟨hi, hall⟩
  refine J.seq (J.region mixed hI (by kernel_rfl) ?_)
  repeat ((refine Plan.ints rfl rfl rfl rfl rfl rfl ?_; (skip)))
  refine J.seq (J.condD rfl (fun hc => ?_) (fun hc => ?_))
  · have hlt : i < L.length := by omega
    have hx := hok _ (List.getElem_mem hlt)
    refine J.skip ?_
    refine J.seq (J.block ?_)
    refine J.seq (J.region mixed hI (by kernel_rfl) ?_)
    repeat (first | refine Plan.move rfl rfl rfl rfl ?_ | refine Plan.assign rfl rfl rfl rfl ?_)
    refine J.seq (J.region mixed hI (by kernel_rfl) ?_)
    repeat (refine Plan.assign rfl rfl rfl rfl ?_)
    refine J.block (J.loop (ulK w0 L i) (fun k => k ≤ i ∧ ∀ k' (hk : k' < L.length), k' < k → dotOf L[k'] ≠ dotOf L[i]) (fun k => i - k) 0 ⟨Nat.zero_le _, fun k' _ h => by omega⟩ ?_ ?_)
    · repeat (first | exact Weak.nil | refine Weak.cons rfl (Sub.refl _) ?_)
    rintro k ⟨hk, hallk⟩
    refine J.seq (J.seq (J.region mixed hI (by kernel_rfl) ?_))
    repeat (first | refine Plan.move rfl rfl rfl rfl ?_ | (refine Plan.ints rfl rfl rfl rfl rfl rfl ?_; (skip)))
    refine J.condD rfl (fun hc2 => ?_) (fun hc2 => ?_)
    · have hkl : k < L.length := by omega
      have hy := hok _ (List.getElem_mem hkl)
      refine J.skip ?_
      refine J.seq (J.block ?_)
      refine J.seq (J.region mixed hI (by kernel_rfl) ?_)
      repeat (refine Plan.move rfl rfl rfl rfl ?_)
      refine Plan.indexAddr EvV.enc 26 L ev0 rfl rfl rfl rfl (Sub.old fun _ h => h) rfl eltE encE (by omega) (by omega) ?_
      rw [Int.toNat_natCast, getD_at hlt]
      refine Plan.fieldPtr (us := [vi L[i].r, vi L[i].n]) rfl rfl rfl rfl (Sub.refl _) Try.underlying41 rfl (by kernel_rfl) rfl ?_
      refine Plan.loadAggP rfl rfl rfl rfl (Sub.refl _) Try.underlying26 rfl (by kernel_rfl) ?_
      repeat (refine Plan.move rfl rfl rfl rfl ?_)
      refine Plan.indexAddr EvV.enc 26 L ev0 rfl rfl rfl rfl (Sub.old fun _ h => h) rfl eltE encE (by omega) (by omega) ?_
      rw [Int.toNat_natCast, getD_at hkl]
      refine Plan.fieldPtr (us := [vi L[k].r, vi L[k].n]) rfl rfl rfl rfl (Sub.refl _) Try.underlying41 rfl (by kernel_rfl) rfl ?_
      refine Plan.loadAggP rfl rfl rfl rfl (Sub.refl _) Try.underlying26 rfl (by kernel_rfl) ?_
      refine Plan.eqlDt (L[i].r, L[i].n) (L[k].r, L[k].n) rfl rfl rfl rfl rfl ⟨hx.1, hx.2.1⟩ ⟨hy.1, hy.2.1⟩ ?_
      refine J.condD rfl (fun hd => ?_) (fun hd => ?_)
      · refine J.seq (J.region mixed hI (by kernel_rfl) ?_)
        repeat (refine Plan.assign rfl rfl rfl rfl ?_)
        rw [decide_eq_false (show ¬ unlikeM L from fun h => by
          have := List.pairwise_iff_getElem.1 h k i hkl hlt (by omega)
          exact this hd.symm)]
        exact J.ret (Nrm.ret1 rfl (fun _ h => h) rfl fun B _ => Sub.refl _)
      · refine J.skip ?_
        refine J.region mixed hI (by kernel_rfl) ?_
        repeat (first | refine Plan.move rfl rfl rfl rfl ?_ | refine Plan.assign rfl rfl rfl rfl ?_ | (refine Plan.ints rfl rfl rfl rfl rfl rfl ?_; (refine Plan.int (i64r (by omega)) ?_)))
        refine Plan.int (y := ((k + 1 : Nat) : Int)) (by omega) ?_
        repeat (fail)
        refine Nrm.next (k + 1) ⟨by omega, fun k' hk' hkk => ?_⟩ (by omega) (by repeat (first | exact Weak.nil | refine Weak.cons rfl (Sub.refl _) ?_))
        by_cases hj2 : k' < k
        · exact hallk k' hk' hj2
        · have : k' = k := by omega
          subst this; exact fun e => hd e.symm
    · have hke : k = i := by omega
      subst hke
      refine J.exit ?_
      refine J.region mixed hI (by kernel_rfl) ?_
      repeat (first | refine Plan.move rfl rfl rfl rfl ?_ | (refine Plan.ints rfl rfl rfl rfl rfl rfl ?_; (refine Plan.int (i64r (by omega)) ?_)))
      refine Plan.int (y := ((k + 1 : Nat) : Int)) (by omega) ?_
      repeat (fail)
      refine Nrm.next (k + 1) ⟨by omega, fun i' hi' hik k' hk' => ?_⟩ (by omega) (by repeat (first | exact Weak.nil | refine Weak.cons rfl (Sub.refl _) ?_))
      by_cases hj2 : i' < k
      · exact hall i' hi' hj2 k' hk'
      · have : i' = k := by omega
        subst this; exact hallk k' (by omega) hk'
  have hie : i = L.length := by omega
  subst hie
  refine J.exit ?_
  refine J.seq (J.region mixed hI (by kernel_rfl) ?_)
  repeat (refine Plan.assign rfl rfl rfl rfl ?_)
  rw [decide_eq_true (show unlikeM L from List.pairwise_iff_getElem.2 fun k i hk hi hki => hall i hi hi k hki)]
  exact J.ret (Nrm.ret1 rfl (fun _ h => h) rfl fun B _ => Sub.refl _)
end Go.Proofs.Ytfglecmimoeinaa
end

section
set_option linter.unusedSimpArgs false
set_option linter.unusedVariables false
set_option maxRecDepth 20000
namespace Go.Proofs.Ytfglecmimoeinaa
open Go.Free Go.RowKit Go.Proofs Go.Free.Sorts
set_option maxHeartbeats 8000000

def rnE (w0 : World) (L : List EvV) (key : List UInt8) (s : Nat × Option Addr × Nat) : Env :=
  [(0, old w0 (row 26 (evsC L))), (1, .ex (str key)), (5, .ex (.slice s.2.1 (nodesM key (L.take s.1)).length s.2.2)), (8, .ex (vi L.length)), (9, .ex (vi s.1)), (1000, heap (newB w0) [rowEv s.2.1 (nodesM key (L.take s.1)).length s.2.2 (evsC (nodesM key (L.take s.1)))])]
theorem nodes_succ {key : List UInt8} {L : List EvV} {i : Nat} (hi : i < L.length) : nodesM key (L.take (i + 1)) = if L[i].kind = 9 ∧ L[i].key = key then nodesM key (L.take i) ++ [L[i]] else nodesM key (L.take i) := by
  rw [List.take_succ_eq_append_getElem hi]
  unfold nodesM
  rw [List.filter_append]
  by_cases hd : L[i].kind = 9 ∧ L[i].key = key
  · rw [if_pos hd]; simp [List.filter_cons, hd]
  · rw [if_neg hd]; simp [List.filter_cons, hd]
theorem refNodes_fn (L : List EvV) (hl : L.length ≤ 1000000) (key : List UInt8) : Spc Try.prog 24 [row 26 (evsC L), .ex (str key)] fun B => own B 41 26 (evsC (nodesM key L)) := by
  refine Spc.intro Try.func24 rfl (Nat.le_of_ble_eq_true rfl) fun w0 => ?_
  have hI := hIb w0
  have hA := Own.below w0
  refine J.heap0 1000 (newB w0) ?_
  refine J.nilRow (key := 1000) 41 26 rfl ?_
  refine J.seq (J.region mixed hI (by kernel_rfl) ?_)
  repeat (refine Plan.assign rfl rfl rfl rfl ?_)
  refine J.seq (J.region mixed hI (by kernel_rfl) ?_)
  repeat (refine Plan.assign rfl rfl rfl rfl ?_)
  refine J.seq (J.seq (J.region mixed hI (by kernel_rfl) ?_))
  repeat (refine Plan.move rfl rfl rfl rfl ?_)
  refine Plan.lenRow (m := L.length) rfl rfl rfl rfl (Sub.old fun _ h => h) Try.underlying22 (by rw [evs_len]) (by decide) ?_
  repeat (refine Plan.move rfl rfl rfl rfl ?_)
  refine J.block (J.loop (rnE w0 L key) (fun s => s.1 ≤ L.length) (fun s => L.length - s.1) (0, none, 0) (Nat.zero_le _) ?_ ?_)
  · repeat (first | exact Weak.nil | refine Weak.cons rfl (Sub.refl _) ?_)
  rintro ⟨i, B, cap⟩ hi
  simp only at hi
  change J _ _ _ _ _ (rnE w0 L key (i, B, cap))
  refine J.seq (J.region mixed hI (by kernel_rfl) ?_)
  repeat ((refine Plan.ints rfl rfl rfl rfl rfl rfl ?_; (skip)))
  refine J.seq (J.condD rfl (fun hc => ?_) (fun hc => ?_))
  · have hlt : i < L.length := by
      first | omega | (dsimp only at hc; omega)
    have hno := nodes_succ (key := key) hlt
    obtain ⟨e, he⟩ : ∃ e, e = L[i] := ⟨_, rfl⟩
    have hgd : L.getD i ev0 = e := by rw [he]; exact getD_at hlt
    rw [← he] at hno
    have hnl : (nodesM key (L.take i)).length ≤ 1000000 := by
      have := nodes_le key (L.take i)
      rw [List.length_take] at this; omega
    refine J.skip ?_
    refine J.seq (J.block ?_)
    refine J.seq (J.region mixed hI (by kernel_rfl) ?_)
    repeat (first | refine Plan.move rfl rfl rfl rfl ?_ | refine Plan.assign rfl rfl rfl rfl ?_)
    refine J.seq (J.region mixed hI (by kernel_rfl) ?_)
    repeat (refine Plan.move rfl rfl rfl rfl ?_)
    refine Plan.indexAddr EvV.enc 26 L ev0 rfl rfl rfl rfl (Sub.old fun _ h => h) rfl eltE encE (by omega) (by omega) ?_
    rw [Int.toNat_natCast, hgd]
    refine Plan.fieldPtr (us := e.op) rfl rfl rfl rfl (Sub.refl _) Try.underlying41 rfl (by kernel_rfl) rfl ?_
    refine Plan.fieldPtr (us := [vi e.kind]) rfl rfl rfl rfl (Sub.refl _) Try.underlying39 rfl (by kernel_rfl) rfl ?_
    refine Plan.load rfl rfl rfl rfl (Sub.refl _) Try.underlying3 rfl ?_
    repeat (first | refine Plan.move rfl rfl rfl rfl ?_ | (refine Plan.ints rfl rfl rfl rfl rfl rfl ?_; (skip)))
    by_cases h9 : e.kind = 9
    case neg =>
      refine Plan.boolv (y := false) (decide_eq_false h9) ?_
      repeat (first | refine Plan.skip rfl rfl ?_ | refine Plan.pick rfl rfl rfl rfl rfl ?_)
      rw [if_neg (fun h => h9 h.1)] at hno
      refine J.condF rfl ?_
      refine J.skip ?_
      refine J.region mixed hI (by kernel_rfl) ?_
      repeat (first | refine Plan.move rfl rfl rfl rfl ?_ | (refine Plan.ints rfl rfl rfl rfl rfl rfl ?_; (refine Plan.int (i64r (by omega)) ?_)))
      refine Plan.int (y := ((i + 1 : Nat) : Int)) (by omega) ?_
      repeat (fail)
      exact Nrm.next (i + 1, B, cap) (by dsimp only; omega) (by dsimp only; omega) (by unfold rnE; dsimp only; rw [hno]; exact (by repeat (first | exact Weak.nil | refine Weak.cons rfl (Sub.refl _) ?_)))
    case pos =>
    refine Plan.boolv (y := true) (decide_eq_true h9) ?_
    repeat (refine Plan.move rfl rfl rfl rfl ?_)
    refine Plan.indexAddr EvV.enc 26 L ev0 rfl rfl rfl rfl (Sub.old fun _ h => h) rfl eltE encE (by omega) (by omega) ?_
    rw [Int.toNat_natCast, hgd]
    refine Plan.fieldPtr (us := e.op) rfl rfl rfl rfl (Sub.refl _) Try.underlying41 rfl (by kernel_rfl) rfl ?_
    refine Plan.fieldPtr (us := [str e.key]) rfl rfl rfl rfl (Sub.refl _) Try.underlying39 rfl (by kernel_rfl) rfl ?_
    refine Plan.load rfl rfl rfl rfl (Sub.refl _) Try.underlying9 rfl ?_
    repeat (refine Plan.move rfl rfl rfl rfl ?_)
    refine Plan.strs rfl rfl rfl rfl rfl rfl ?_
    by_cases hk : e.key = key
    case neg =>
      refine Plan.boolv (y := false) (by simp [hk]) ?_
      repeat (refine Plan.pick rfl rfl rfl rfl rfl ?_)
      rw [if_neg (fun h => hk h.2)] at hno
      refine J.condF rfl ?_
      refine J.skip ?_
      refine J.region mixed hI (by kernel_rfl) ?_
      repeat (first | refine Plan.move rfl rfl rfl rfl ?_ | (refine Plan.ints rfl rfl rfl rfl rfl rfl ?_; (refine Plan.int (i64r (by omega)) ?_)))
      refine Plan.int (y := ((i + 1 : Nat) : Int)) (by omega) ?_
      repeat (fail)
      exact Nrm.next (i + 1, B, cap) (by dsimp only; omega) (by dsimp only; omega) (by unfold rnE; dsimp only; rw [hno]; exact (by repeat (first | exact Weak.nil | refine Weak.cons rfl (Sub.refl _) ?_)))
    case pos =>
    refine Plan.boolv (y := true) (by simp [hk]) ?_
    repeat (refine Plan.pick rfl rfl rfl rfl rfl ?_)
    rw [if_pos ⟨h9, hk⟩] at hno
    refine J.condT rfl ?_
    refine J.region mixed hI (by kernel_rfl) ?_
    repeat (refine Plan.move rfl rfl rfl rfl ?_)
    refine Plan.indexAddr EvV.enc 26 L ev0 rfl rfl rfl rfl (Sub.old fun _ h => h) rfl eltE encE (by omega) (by omega) ?_
    rw [Int.toNat_natCast, hgd]
    refine Plan.loadAggP rfl rfl rfl rfl (Sub.refl _) Try.underlying41 rfl (by rw [encE]; kernel_rfl) ?_
    refine Plan.lit (B := w0.heap.size) rfl rfl rfl eltE rfl (hBb w0) rfl (by simp [Value.cells, EvV.enc]) (by decide) ?_
    refine Plan.appendC (key := 1000) (q := 0) (news := evsC [e]) rfl rfl rfl rfl rfl (Sub.rowEq (by simp [evsC, flat, Value.cells]) Sub.own) eltE (by intro _ e; cases e; decide) rfl hA rfl (evs_one _) (by rw [evs_len, evs_len]; simp; omega) fun B' m' cap' hm' => ?_
    rw [← evs_app, ← hno]
    obtain rfl : m' = (nodesM key (L.take (i + 1))).length := by
      rw [evs_len, evs_len] at hm'
      rw [hno, List.length_append]
      simp only [List.length_cons, List.length_nil] at hm' ⊢
      omega
    repeat (refine Plan.assign rfl rfl rfl rfl ?_)
    refine J.region mixed hI (by kernel_rfl) ?_
    repeat (first | refine Plan.move rfl rfl rfl rfl ?_ | (refine Plan.ints rfl rfl rfl rfl rfl rfl ?_; (refine Plan.int (i64r (by omega)) ?_)))
    refine Plan.int (y := ((i + 1 : Nat) : Int)) (by omega) ?_
    repeat (fail)
    exact Nrm.next (i + 1, B', cap') (by dsimp only; omega) (by dsimp only; omega) (by repeat (first | exact Weak.nil | refine Weak.cons rfl (Sub.refl _) ?_))
  have hie : i = L.length := by
    first | omega | (dsimp only at hc; omega)
  subst hie
  refine J.exit ?_
  unfold rnE
  dsimp only
  rw [List.take_length]
  refine J.seq (J.region mixed hI (by kernel_rfl) ?_)
  repeat (first | refine Plan.move rfl rfl rfl rfl ?_ | refine Plan.assign rfl rfl rfl rfl ?_)
  exact J.ret (Nrm.retRow (key := 1000) (q := 0) rfl rfl rfl rfl)
def paR (w0 : World) (n : List EvV) (x i : Nat) : Env := [(0, old w0 (row 26 (evsC n))), (1, .ex (vi x)), (17, .ex (vi n.length)), (18, .ex (vi i))]
theorem parent_fn (n : List EvV) (hn : n.length ≤ 1000000) (hok : ∀ e ∈ n, e.okV) (x : Nat) (hx : x < n.length) : Spc Try.prog 36 [row 26 (evsC n), .ex (vi x)] fun _ => .ex (vi (pkey (parM n (n.getD x ev0)))) := by
  refine Spc.intro Try.func36 rfl (Nat.le_of_ble_eq_true rfl) fun w0 => ?_
  have hI := hIb w0
  have hA := Own.below w0
  obtain ⟨e, he⟩ : ∃ e, e = n.getD x ev0 := ⟨_, rfl⟩
  have heo : e.okV := by rw [he, getD_at hx]; exact hok _ (List.getElem_mem hx)
  rw [← he]
  refine J.heap0 1000 (newB w0) ?_
  refine J.seq (J.region mixed hI (by kernel_rfl) ?_)
  repeat (refine Plan.assign rfl rfl rfl rfl ?_)
  refine J.seq (J.region mixed hI (by kernel_rfl) ?_)
  refine Plan.build (cells := #[vi 0, vi 0]) rfl rfl (ps := []) rfl Parts.nil (by kernel_rfl) ?_
  refine Plan.allocC (key := 1000) (z := .agg [vi 0, vi 0].toArray) rfl rfl rfl (by intro _ e; cases e; decide) (by kernel_rfl) rfl hA fun ξ => ?_
  refine Plan.storeC (key := 1000) (q := 0) (off := 0) rfl rfl rfl rfl rfl rfl (by simp [Value.cells, Value.oneCell']) (by kernel_rfl) rfl hA rfl (obj_pat (Nat.le_of_ble_eq_true rfl)) ?_
  repeat (fail)
  refine J.seq (J.seq (J.region mixed hI (by kernel_rfl) ?_))
  repeat (refine Plan.move rfl rfl rfl rfl ?_)
  refine Plan.indexAddr EvV.enc 26 n ev0 rfl rfl rfl rfl (Sub.old fun _ h => h) rfl eltE encE (by omega) (by omega) ?_
  rw [Int.toNat_natCast, ← he]
  refine Plan.fieldPtr (us := e.op) rfl rfl rfl rfl (Sub.refl _) Try.underlying41 rfl (by kernel_rfl) rfl ?_
  refine Plan.fieldPtr (us := [vi e.rr, vi e.rn]) rfl rfl rfl rfl (Sub.refl _) Try.underlying39 rfl (by kernel_rfl) rfl ?_
  refine Plan.loadAggP rfl rfl rfl rfl (Sub.refl _) Try.underlying26 rfl (by kernel_rfl) ?_
  refine Plan.loadAggC (key := 1000) (q := 0) (vs := [vi 0, vi 0]) rfl rfl rfl rfl rfl rfl obj_whole Try.underlying26 rfl (by kernel_rfl) (by decide) ?_
  refine Plan.eqlDt (e.rr, e.rn) (0, 0) rfl rfl rfl rfl rfl heo.2.2.2.2.2.2.2.2.2 ⟨by simp [in64], by simp [in64]⟩ ?_
  refine J.condD rfl (fun hd => ?_) (fun hd => ?_)
  · have hp : parM n e = none := by
      unfold parM
      rw [if_pos ⟨congrArg Prod.fst hd, congrArg Prod.snd hd⟩]
    rw [hp]
    refine J.seq (J.region mixed hI (by kernel_rfl) ?_)
    repeat (refine Plan.assign rfl rfl rfl rfl ?_)
    exact J.ret (Nrm.ret1 rfl (fun _ h => h) rfl fun B _ => Sub.refl _)
  have hne : ¬ (e.rr = 0 ∧ e.rn = 0) := fun h => hd (by rw [h.1, h.2])
  have hpi : vi (pkey (parM n e)) = vi (idxM n e) := by
    unfold parM idxM
    rw [if_neg hne]
    cases n.findIdx? (hangs e) <;> rfl
  rw [hpi]
  refine J.skip ?_
  refine J.seq (J.seq (J.region mixed hI (by kernel_rfl) ?_))
  repeat (refine Plan.move rfl rfl rfl rfl ?_)
  refine Plan.lenRow (m := n.length) rfl rfl rfl rfl (Sub.old fun _ h => h) Try.underlying22 (by rw [evs_len]) (by decide) ?_
  repeat (refine Plan.move rfl rfl rfl rfl ?_)
  refine J.block (J.loop (paR w0 n x) (fun i => i ≤ n.length ∧ ∀ j (hj : j < n.length), j < i → hangs e n[j] = false) (fun i => n.length - i) 0 ⟨Nat.zero_le _, fun j _ h => by omega⟩ ?_ ?_)
  · repeat (first | exact Weak.nil | refine Weak.cons rfl (Sub.refl _) ?_)
  rintro i ⟨hi, hno⟩
  refine J.seq (J.region mixed hI (by kernel_rfl) ?_)
  repeat ((refine Plan.ints rfl rfl rfl rfl rfl rfl ?_; (skip)))
  refine J.seq (J.condD rfl (fun hc => ?_) (fun hc => ?_))
  · have hlt : i < n.length := by omega
    have hoi := hok _ (List.getElem_mem hlt)
    refine J.skip ?_
    refine J.seq (J.block ?_)
    refine J.seq (J.region mixed hI (by kernel_rfl) ?_)
    repeat (first | refine Plan.move rfl rfl rfl rfl ?_ | refine Plan.assign rfl rfl rfl rfl ?_)
    refine J.seq (J.region mixed hI (by kernel_rfl) ?_)
    repeat (refine Plan.move rfl rfl rfl rfl ?_)
    refine Plan.indexAddr EvV.enc 26 n ev0 rfl rfl rfl rfl (Sub.old fun _ h => h) rfl eltE encE (by omega) (by omega) ?_
    rw [Int.toNat_natCast, getD_at hlt]
    refine Plan.fieldPtr (us := [vi n[i].r, vi n[i].n]) rfl rfl rfl rfl (Sub.refl _) Try.underlying41 rfl (by kernel_rfl) rfl ?_
    refine Plan.loadAggP rfl rfl rfl rfl (Sub.refl _) Try.underlying26 rfl (by kernel_rfl) ?_
    repeat (refine Plan.move rfl rfl rfl rfl ?_)
    refine Plan.indexAddr EvV.enc 26 n ev0 rfl rfl rfl rfl (Sub.old fun _ h => h) rfl eltE encE (by omega) (by omega) ?_
    rw [Int.toNat_natCast, ← he]
    refine Plan.fieldPtr (us := e.op) rfl rfl rfl rfl (Sub.refl _) Try.underlying41 rfl (by kernel_rfl) rfl ?_
    refine Plan.fieldPtr (us := [vi e.rr, vi e.rn]) rfl rfl rfl rfl (Sub.refl _) Try.underlying39 rfl (by kernel_rfl) rfl ?_
    refine Plan.loadAggP rfl rfl rfl rfl (Sub.refl _) Try.underlying26 rfl (by kernel_rfl) ?_
    refine Plan.eqlDt (n[i].r, n[i].n) (e.rr, e.rn) rfl rfl rfl rfl rfl ⟨hoi.1, hoi.2.1⟩ heo.2.2.2.2.2.2.2.2.2 ?_
    by_cases hd2 : ((n[i].r, n[i].n) : Int × Int) = (e.rr, e.rn)
    case neg =>
      have hh : hangs e n[i] = false := by
        unfold hangs
        rw [decide_eq_false (fun h => hd2 (by rw [h.1, h.2]))]; rfl
      refine Plan.boolv (y := false) (decide_eq_false hd2) ?_
      repeat (first | refine Plan.move rfl rfl rfl rfl ?_ | refine Plan.skip rfl rfl ?_ | refine Plan.pick rfl rfl rfl rfl rfl ?_)
      refine J.condF rfl ?_
      refine J.skip ?_
      refine J.region mixed hI (by kernel_rfl) ?_
      repeat (first | refine Plan.move rfl rfl rfl rfl ?_ | (refine Plan.ints rfl rfl rfl rfl rfl rfl ?_; (refine Plan.int (i64r (by omega)) ?_)))
      refine Plan.int (y := ((i + 1 : Nat) : Int)) (by omega) ?_
      repeat (fail)
      refine Nrm.next (i + 1) ⟨hlt, fun j hj hji => ?_⟩ (by omega) (by repeat (first | exact Weak.nil | refine Weak.cons rfl (Sub.refl _) ?_))
      by_cases hj2 : j < i
      · exact hno j hj hj2
      · have : j = i := by omega
        subst this; exact hh
    case pos =>
    refine Plan.boolv (y := true) (decide_eq_true hd2) ?_
    repeat (refine Plan.move rfl rfl rfl rfl ?_)
    refine Plan.indexAddr EvV.enc 26 n ev0 rfl rfl rfl rfl (Sub.old fun _ h => h) rfl eltE encE (by omega) (by omega) ?_
    rw [Int.toNat_natCast, ← he]
    refine Plan.loadAggP rfl rfl rfl rfl (Sub.refl _) Try.underlying41 rfl (by rw [encE]; kernel_rfl) ?_
    repeat (refine Plan.move rfl rfl rfl rfl ?_)
    refine Plan.indexAddr EvV.enc 26 n ev0 rfl rfl rfl rfl (Sub.old fun _ h => h) rfl eltE encE (by omega) (by omega) ?_
    rw [Int.toNat_natCast, getD_at hlt]
    refine Plan.loadAggP rfl rfl rfl rfl (Sub.refl _) Try.underlying41 rfl (by rw [encE]; kernel_rfl) ?_
    refine Plan.call (B := w0.heap.size) rfl rfl rfl (ref_Later e n[i]) Try.func19 rfl rfl (hBb w0) (by repeat (first | exact Opnds.nil | refine Opnds.cons rfl (by exact Sub.refl _) ?_)) ?_
    have hh : hangs e n[i] = later e n[i] := by
      unfold hangs
      rw [decide_eq_true ⟨congrArg Prod.fst hd2, congrArg Prod.snd hd2⟩]; rfl
    rw [← hh]
    repeat (refine Plan.pick rfl rfl rfl rfl rfl ?_)
    cases hhv : hangs e n[i] with
    | true =>
      refine J.condT rfl ?_
      refine J.seq (J.region mixed hI (by kernel_rfl) ?_)
      repeat (first | refine Plan.move rfl rfl rfl rfl ?_ | refine Plan.assign rfl rfl rfl rfl ?_)
      rw [idx_found hlt hhv hno]
      exact J.ret (Nrm.ret1 rfl (fun _ h => h) rfl fun B _ => Sub.refl _)
    | false =>
      refine J.condF rfl ?_
      refine J.skip ?_
      refine J.region mixed hI (by kernel_rfl) ?_
      repeat (first | refine Plan.move rfl rfl rfl rfl ?_ | (refine Plan.ints rfl rfl rfl rfl rfl rfl ?_; (refine Plan.int (i64r (by omega)) ?_)))
      refine Plan.int (y := ((i + 1 : Nat) : Int)) (by omega) ?_
      repeat (fail)
      refine Nrm.next (i + 1) ⟨hlt, fun j hj hji => ?_⟩ (by omega) (by repeat (first | exact Weak.nil | refine Weak.cons rfl (Sub.refl _) ?_))
      by_cases hj2 : j < i
      · exact hno j hj hj2
      · have : j = i := by omega
        subst this; exact hhv
  have hie : i = n.length := by omega
  subst hie
  refine J.exit ?_
  refine J.seq (J.region mixed hI (by kernel_rfl) ?_)
  repeat (refine Plan.assign rfl rfl rfl rfl ?_)
  rw [idx_none fun j hj => hno j hj hj]
  exact J.ret (Nrm.ret1 rfl (fun _ h => h) rfl fun B _ => Sub.refl _)
end Go.Proofs.Ytfglecmimoeinaa
end

section
set_option linter.unusedSimpArgs false
set_option linter.unusedVariables false
set_option maxRecDepth 20000
namespace Go.Proofs.Ytfglecmimoeinaa
open Go.Free Go.RowKit Go.Proofs Go.Free.Sorts
/-- The kids of p among the first i nodes, in order. -/
def kd (n : List EvV) (p : Option Nat) (i : Nat) : List Nat := sortK n ((List.range i).filter fun j => decide (parM n (n.getD j ev0) = p))
theorem kd_all (n : List EvV) (p : Option Nat) : kd n p n.length = sortK n (kidsM n p) := rfl
theorem kd_nil (n : List EvV) (p : Option Nat) : kd n p 0 = [] := by
  unfold kd sortK; rw [List.range_zero, List.filter_nil, List.mergeSort_nil]
theorem kd_mem {n : List EvV} {p : Option Nat} {i v : Nat} : v ∈ kd n p i ↔ v < i ∧ parM n (n.getD v ev0) = p := by
  unfold kd; rw [sortK_mem, List.mem_filter, List.mem_range, decide_eq_true_eq]
theorem kd_len (n : List EvV) (p : Option Nat) (i : Nat) : (kd n p i).length ≤ i := by
  unfold kd
  rw [sortK_len]
  have := List.length_filter_le (fun j => decide (parM n (n.getD j ev0) = p)) (List.range i)
  rw [List.length_range] at this
  exact this
theorem kd_other {n : List EvV} {p : Option Nat} {i : Nat} (h : parM n (n.getD i ev0) ≠ p) : kd n p (i + 1) = kd n p i := by
  unfold kd
  rw [List.range_succ, List.filter_append, List.filter_cons_of_neg (by rw [decide_eq_true_eq]; exact h), List.filter_nil, List.append_nil]
theorem kd_sorted (n : List EvV) (p : Option Nat) (i : Nat) : (kd n p i).Pairwise (ahead n) := sortK_sorted n _ (List.Pairwise.filter _ List.nodup_range)
theorem kd_ins {n : List EvV} {p : Option Nat} {i a : Nat} (hp : parM n (n.getD i ev0) = p) (ha : a ≤ (kd n p i).length) (hlate : ∀ j (hj : j < (kd n p i).length), a ≤ j → ltE (n.getD (kd n p i)[j] ev0) (n.getD i ev0))
    (hno : ∀ (h : a - 1 < (kd n p i).length), 0 < a → ¬ ltE (n.getD (kd n p i)[a - 1] ev0) (n.getD i ev0)) : (kd n p i).take a ++ i :: (kd n p i).drop a = kd n p (i + 1) := by
  refine sortK_one (List.Pairwise.filter _ List.nodup_range) ?_ fun v => ?_
  · have hs := kd_sorted n p i
    have hsplit : (kd n p i).take a ++ (kd n p i).drop a = kd n p i := List.take_append_drop a _
    rw [← hsplit] at hs
    obtain ⟨h1, h2, h3⟩ := List.pairwise_append.1 hs
    have hid : ∀ b ∈ (kd n p i).drop a, ahead n i b := fun b hb => by
      obtain ⟨j, hj, rfl⟩ := List.getElem_of_mem hb
      rw [List.length_drop] at hj
      rw [List.getElem_drop]
      exact .inl (hlate (a + j) (by omega) (by omega))
    refine List.pairwise_append.2 ⟨h1, List.pairwise_cons.2 ⟨hid, h2⟩, fun x hx y hy => ?_⟩
    have hxi : ahead n x i := by
      obtain ⟨j, hj, rfl⟩ := List.getElem_of_mem hx
      rw [List.length_take] at hj
      rw [List.getElem_take]
      have hlast : ahead n (kd n p i)[a - 1] i := by
        have hm := (kd_mem.1 (List.getElem_mem (show a - 1 < (kd n p i).length by omega))).1
        have := hno (by omega) (by omega)
        by_cases hl : ltE (n.getD i ev0) (n.getD (kd n p i)[a - 1] ev0)
        · exact .inl hl
        · exact .inr ⟨this, hm⟩
      by_cases hja : j = a - 1
      · subst hja; exact hlast
      · exact (ahead_ord n).trans (List.pairwise_iff_getElem.1 (kd_sorted n p i) j (a - 1) (by omega) (by omega) (by omega)) hlast
    rcases List.mem_cons.1 hy with rfl | hy
    · exact hxi
    · exact h3 x hx y hy
  · rw [List.mem_filter, List.mem_range, decide_eq_true_eq]
    have hm : v ∈ (kd n p i).take a ++ i :: (kd n p i).drop a ↔ v = i ∨ v ∈ kd n p i := by
      have : v ∈ kd n p i ↔ v ∈ (kd n p i).take a ∨ v ∈ (kd n p i).drop a := by rw [← List.mem_append, List.take_append_drop]
      rw [List.mem_append, List.mem_cons, this]
      constructor
      · rintro (h | h | h)
        · exact .inr (.inl h)
        · exact .inl h
        · exact .inr (.inr h)
      · rintro (h | h | h)
        · exact .inr (.inl h)
        · exact .inl h
        · exact .inr (.inr h)
    rw [hm, kd_mem]
    constructor
    · rintro (rfl | ⟨h1, h2⟩)
      · exact ⟨by omega, hp⟩
      · exact ⟨by omega, h2⟩
    · rintro ⟨h1, h2⟩
      by_cases h : v = i
      · exact .inl h
      · exact .inr ⟨by omega, h2⟩
end Go.Proofs.Ytfglecmimoeinaa
end

section
set_option linter.unusedSimpArgs false
set_option linter.unusedVariables false
set_option maxRecDepth 20000
namespace Go.Proofs.Ytfglecmimoeinaa
open Go.Free Go.RowKit Go.Proofs Go.Free.Sorts
set_option maxHeartbeats 16000000

abbrev rowN (B : Option Addr) (m cap : Nat) (xs : List Nat) : Chunk := rowC 3 1 B m cap (intsL xs)
def urE (w0 : World) (n : List EvV) (p : Option Nat) (s : Nat × Option Addr × Nat) : Env :=
  [(0, old w0 (row 26 (evsC n))), (1, .ex (vi (pkey p))), (5, .ex (.slice s.2.1 (kd n p s.1).length s.2.2)), (12, .ex (vi n.length)), (13, .ex (vi s.1)), (1000, heap (newB w0) [rowN s.2.1 (kd n p s.1).length s.2.2 (kd n p s.1)])]
def uiE (w0 : World) (n : List EvV) (p : Option Nat) (i : Nat) (B : Option Addr) (cap : Nat) (a : Nat) : Env :=
  [(0, old w0 (row 26 (evsC n))), (1, .ex (vi (pkey p))), (5, .ex (.slice B (kd n p i).length cap)), (6, .ex (vi i)), (7, .ex (vi a)), (12, .ex (vi n.length)), (13, .ex (vi i)), (1000, heap (newB w0) [rowN B (kd n p i).length cap (kd n p i)])]
def ukE (w0 : World) (n : List EvV) (xs : List Nat) (B : Option Addr) (cap : Nat) (part : Nat → List EvV) (s : Nat × Option Addr × Nat) : Env :=
  [(0, old w0 (row 26 (evsC n))), (5, .ex (.slice B xs.length cap)), (9, .ex (.slice s.2.1 (part s.1).length s.2.2)), (58, .ex (vi xs.length)), (59, .ex (vi s.1)), (1000, heap (newB w0) [rowN B xs.length cap xs, rowEv s.2.1 (part s.1).length s.2.2 (evsC (part s.1))])]
theorem ints_oneL (xs : List Nat) : ∀ u ∈ intsL xs, u.oneCell' = true := fun u hu => by
  obtain ⟨x, _, rfl⟩ := List.mem_map.1 hu; rfl
theorem intsL_app (xs ys : List Nat) : intsL (xs ++ ys) = intsL xs ++ intsL ys := List.map_append
theorem under_fn (n : List EvV) (hn : n.length ≤ 1000) (hok : ∀ e ∈ n, e.okV) : ∀ (k : Nat) (p : Option Nat), mu n p < k → Spc Try.prog 23 [row 26 (evsC n), .ex (vi (pkey p))] fun B => own B 41 26 (evsC (evsOf n (undM n k p)))
  | 0, _, h => absurd h (Nat.not_lt_zero _)
  | k + 1, p, hmu => by
    refine Spc.intro Try.func23 rfl (Nat.le_of_ble_eq_true rfl) fun w0 => ?_
    have hI := hIb w0
    have hA := Own.below w0
    refine J.heap0 1000 (newB w0) ?_
    refine J.nilRow (key := 1000) 3 1 rfl ?_
    refine J.seq (J.region mixed hI (by kernel_rfl) ?_)
    repeat (refine Plan.assign rfl rfl rfl rfl ?_)
    refine J.seq (J.region mixed hI (by kernel_rfl) ?_)
    repeat (refine Plan.assign rfl rfl rfl rfl ?_)
    refine J.seq (J.seq (J.region mixed hI (by kernel_rfl) ?_))
    repeat (refine Plan.move rfl rfl rfl rfl ?_)
    refine Plan.lenRow (m := n.length) rfl rfl rfl rfl (Sub.old fun _ h => h) Try.underlying22 (by rw [evs_len]) (by decide) ?_
    repeat (refine Plan.move rfl rfl rfl rfl ?_)
    refine J.block (J.loop (urE w0 n p) (fun s => s.1 ≤ n.length) (fun s => n.length - s.1) (0, none, 0) (Nat.zero_le _) ?_ ?_)
    · unfold urE
      dsimp only
      rw [kd_nil]
      repeat (first | exact Weak.nil | refine Weak.cons rfl (Sub.refl _) ?_)
    rintro ⟨i, B, cap⟩ hi
    simp only at hi
    change J _ _ _ _ _ (urE w0 n p (i, B, cap))
    refine J.seq (J.region mixed hI (by kernel_rfl) ?_)
    repeat ((refine Plan.ints rfl rfl rfl rfl rfl rfl ?_; (skip)))
    refine J.seq (J.condD rfl (fun hc => ?_) (fun hc => ?_))
    · have hlt : i < n.length := by
        first | omega | (dsimp only at hc; omega)
      have hki := kd_len n p i
      refine J.skip ?_
      refine J.seq (J.block ?_)
      refine J.seq (J.region mixed hI (by kernel_rfl) ?_)
      repeat (first | refine Plan.move rfl rfl rfl rfl ?_ | refine Plan.assign rfl rfl rfl rfl ?_)
      refine J.seq (J.seq (J.region mixed hI (by kernel_rfl) ?_))
      repeat (refine Plan.move rfl rfl rfl rfl ?_)
      refine Plan.call (B := w0.heap.size) rfl rfl rfl (parent_fn n (by omega) hok i hlt) Try.func36 rfl rfl (hBb w0) (by repeat (first | exact Opnds.nil | refine Opnds.cons rfl (by first | exact Sub.refl _ | exact Sub.old (fun _ h => h)) ?_)) ?_
      repeat (first | refine Plan.move rfl rfl rfl rfl ?_ | (refine Plan.ints rfl rfl rfl rfl rfl rfl ?_; (skip)))
      by_cases hpar : parM n (n.getD i ev0) = p
      case neg =>
        refine Plan.boolv (y := true) (by simp; exact fun h => hpar (pkey_inj h)) ?_
        refine J.condT rfl ?_
        refine J.exit ?_
        refine J.region mixed hI (by kernel_rfl) ?_
        repeat (first | refine Plan.move rfl rfl rfl rfl ?_ | (refine Plan.ints rfl rfl rfl rfl rfl rfl ?_; (refine Plan.int (i64r (by omega)) ?_)))
        refine Plan.int (y := ((i + 1 : Nat) : Int)) (by omega) ?_
        repeat (fail)
        exact Nrm.next (i + 1, B, cap) hlt (by dsimp only; omega) (by unfold urE; dsimp only; rw [kd_other hpar]; exact (by repeat (first | exact Weak.nil | refine Weak.cons rfl (Sub.refl _) ?_)))
      case pos =>
      refine Plan.boolv (y := false) (by rw [hpar]; simp) ?_
      refine J.condF rfl ?_
      refine J.skip ?_
      refine J.seq (J.region mixed hI (by kernel_rfl) ?_)
      repeat (first | refine Plan.move rfl rfl rfl rfl ?_ | refine Plan.assign rfl rfl rfl rfl ?_ | refine Plan.lenE rfl rfl rfl rfl (by first | exact Try.underlying22 | exact Try.underlying49) ?_)
      refine J.seq (J.block (J.loop (uiE w0 n p i B cap) (fun a => a ≤ (kd n p i).length ∧ ∀ j (hj : j < (kd n p i).length), a ≤ j → ltE (n.getD (kd n p i)[j] ev0) (n.getD i ev0)) (fun a => a) (kd n p i).length ⟨Nat.le_refl _, fun j hj h => absurd hj (by omega)⟩ ?_ ?_))
      · repeat (first | exact Weak.nil | refine Weak.cons rfl (Sub.refl _) ?_)
      rintro a ⟨ha, hlate⟩
      have hdone : (∀ (h : a - 1 < (kd n p i).length), 0 < a → ¬ ltE (n.getD (kd n p i)[a - 1] ev0) (n.getD i ev0)) → kd n p (i + 1) = (kd n p i).take a ++ i :: (kd n p i).drop a := fun h => (kd_ins hpar ha hlate h).symm
      refine J.tellC (key := 1000) (q := 0) (p := 0 < a → ∃ g, B = some ⟨g, 0, none⟩) rfl rfl (fun w F h h0 => row_at (by simp; omega) w F h) fun hB => ?_
      refine J.seq (J.seq (J.region mixed hI (by kernel_rfl) ?_))
      repeat (first | refine Plan.move rfl rfl rfl rfl ?_ | (refine Plan.ints rfl rfl rfl rfl rfl rfl ?_; (skip)))
      by_cases ha0 : 0 < a
      case neg =>
        refine Plan.boolv (y := false) (decide_eq_false (by omega)) ?_
        repeat (first | refine Plan.skip rfl rfl ?_ | refine Plan.pick rfl rfl rfl rfl rfl ?_)
        have hkd := hdone fun h h2 => absurd h2 ha0
        refine J.condF rfl ?_
        refine J.exit ?_
        have hins : (kd n p i).take a ++ [i] ++ (kd n p i).drop a = kd n p (i + 1) := by rw [hkd, List.append_assoc]; rfl
        refine J.nilRow (key := 1000) 3 1 rfl ?_
        refine J.seq (J.region mixed hI (by kernel_rfl) ?_)
        repeat (refine Plan.assign rfl rfl rfl rfl ?_)
        refine J.seq (J.region mixed hI (by kernel_rfl) ?_)
        repeat (refine Plan.move rfl rfl rfl rfl ?_)
        refine Plan.seeC (t := 43) (key := 1000) (q := 0) (xs := intsL (kd n p i)) (by kernel_rfl) hI rfl rfl rfl (fun w F hh => row_rowH hh) ?_
        refine Plan.sliceRow (m := (kd n p i).length) (a0 := 0) (b0 := a) rfl rfl rfl rfl (Sub.refl _) eltI (by simp) (.inl ⟨rfl, rfl⟩) (.inr ⟨_, _, rfl, rfl⟩) (Nat.zero_le _) ha ?_
        refine Plan.appendC (key := 1000) (q := 1) (B := none) (m := 0) (cap := 0) (xs := []) (news := intsL ((kd n p i).take a)) rfl rfl rfl rfl rfl (Sub.rowEq (by simp [intsL]) (Sub.refl _)) eltI (by intro _ e; cases e; decide) rfl hA rfl (ints_oneL _) (by simp; omega) fun B1 m1 cap1 hm1 => ?_
        obtain rfl : m1 = a := by simp at hm1; omega
        rw [List.nil_append]
        repeat (refine Plan.assign rfl rfl rfl rfl ?_)
        refine J.seq (J.region mixed hI (by kernel_rfl) ?_)
        repeat (refine Plan.move rfl rfl rfl rfl ?_)
        refine Plan.lit (B := w0.heap.size) rfl rfl rfl eltI rfl (hBb w0) rfl (by simp [Value.cells]) (by decide) ?_
        refine Plan.appendC (key := 1000) (q := 1) (news := intsL [i]) rfl rfl rfl rfl rfl Sub.own eltI (by intro _ e; cases e; decide) rfl hA rfl (ints_oneL _) (by simp; omega) fun B2 m2 cap2 hm2 => ?_
        rw [← intsL_app]
        obtain rfl : m2 = m1 + 1 := by simp at hm2; omega
        repeat (refine Plan.assign rfl rfl rfl rfl ?_)
        refine J.region mixed hI (by kernel_rfl) ?_
        repeat (refine Plan.move rfl rfl rfl rfl ?_)
        refine Plan.seeC (t := 52) (key := 1000) (q := 0) (xs := intsL (kd n p i)) (by kernel_rfl) hI rfl rfl rfl (fun w F hh => row_rowH hh) ?_
        refine Plan.sliceRow (m := (kd n p i).length) (a0 := m1) (b0 := (kd n p i).length) rfl rfl rfl rfl (Sub.refl _) eltI (by simp) (.inr ⟨_, _, rfl, rfl⟩) (.inl ⟨rfl, rfl⟩) ha (Nat.le_refl _) ?_
        refine Plan.appendC (key := 1000) (q := 1) (news := intsL ((kd n p i).drop m1)) rfl rfl rfl rfl rfl (Sub.rowEq (by rw [Nat.mul_one, Nat.mul_one, List.take_of_length_le (by simp)]; simp [intsL]) (Sub.refl _)) eltI (by intro _ e; cases e; decide) rfl hA rfl (ints_oneL _) (by simp; omega) fun B3 m3 cap3 hm3 => ?_
        rw [← intsL_app, hins]
        obtain rfl : m3 = (kd n p (i + 1)).length := by
          rw [← hins]
          simp at hm3 ⊢
          omega
        repeat (refine Plan.assign rfl rfl rfl rfl ?_)
        refine J.region mixed hI (by kernel_rfl) ?_
        repeat (first | refine Plan.move rfl rfl rfl rfl ?_ | (refine Plan.ints rfl rfl rfl rfl rfl rfl ?_; (refine Plan.int (i64r (by omega)) ?_)))
        refine Plan.int (y := ((i + 1 : Nat) : Int)) (by omega) ?_
        repeat (fail)
        exact Nrm.next (i + 1, B3, cap3) hlt (by dsimp only; omega) (by repeat (first | exact Weak.nil | refine Weak.cons rfl (Sub.refl _) ?_ | refine Weak.cons rfl (Sub.heap (Ent.pickC [1] rfl rfl)) ?_))
      case pos =>
      obtain ⟨g, rfl⟩ := hB ha0
      refine Plan.boolv (y := true) (decide_eq_true (by omega)) ?_
      repeat (refine Plan.move rfl rfl rfl rfl ?_)
      obtain ⟨q, hq⟩ : ∃ q, q = (kd n p i)[a - 1] := ⟨_, rfl⟩
      have hqm := kd_mem.1 (hq ▸ List.getElem_mem (show a - 1 < (kd n p i).length by omega))
      have hqn : q < n.length := by omega
      refine Plan.indexAddr EvV.enc 26 n ev0 rfl rfl rfl rfl (Sub.old fun _ h => h) rfl eltE encE (by omega) (by omega) ?_
      rw [Int.toNat_natCast]
      refine Plan.loadAggP rfl rfl rfl rfl (Sub.refl _) Try.underlying41 rfl (by rw [encE]; kernel_rfl) ?_
      repeat (first | refine Plan.move rfl rfl rfl rfl ?_ | (refine Plan.ints rfl rfl rfl rfl rfl rfl ?_; (refine Plan.int (i64r (by omega)) ?_)))
      refine Plan.indexCI (a - 1) (by omega) rfl rfl rfl rfl rfl eltI (by omega) ?_
      refine Plan.loadC (key := 1000) (q := 0) (v := vi q) rfl rfl rfl rfl rfl rfl (row_reads1 (by rw [hq]; simp [show a - 1 < (kd n p i).length by omega])) Try.underlying3 (by rfl) (by decide) ?_
      repeat (fail)
      refine Plan.indexAddr EvV.enc 26 n ev0 rfl rfl rfl rfl (Sub.old fun _ h => h) rfl eltE encE (by omega) (by omega) ?_
      rw [Int.toNat_natCast]
      refine Plan.loadAggP rfl rfl rfl rfl (Sub.refl _) Try.underlying41 rfl (by rw [encE]; kernel_rfl) ?_
      refine Plan.call (B := w0.heap.size) rfl rfl rfl (ref_Later (n.getD i ev0) (n.getD q ev0)) Try.func19 rfl rfl (hBb w0) (by repeat (first | exact Opnds.nil | refine Opnds.cons rfl (by exact Sub.refl _) ?_)) ?_
      cases hlv : later (n.getD i ev0) (n.getD q ev0) with
      | false =>
        repeat (refine Plan.pick rfl rfl rfl rfl rfl ?_)
        have hkd := hdone fun h h2 => by
          rw [← hq, ← later_iff, hlv]; decide
        refine J.condF rfl ?_
        refine J.exit ?_
        have hins : (kd n p i).take a ++ [i] ++ (kd n p i).drop a = kd n p (i + 1) := by rw [hkd, List.append_assoc]; rfl
        refine J.nilRow (key := 1000) 3 1 rfl ?_
        refine J.seq (J.region mixed hI (by kernel_rfl) ?_)
        repeat (refine Plan.assign rfl rfl rfl rfl ?_)
        refine J.seq (J.region mixed hI (by kernel_rfl) ?_)
        repeat (refine Plan.move rfl rfl rfl rfl ?_)
        refine Plan.seeC (t := 43) (key := 1000) (q := 0) (xs := intsL (kd n p i)) (by kernel_rfl) hI rfl rfl rfl (fun w F hh => row_rowH hh) ?_
        refine Plan.sliceRow (m := (kd n p i).length) (a0 := 0) (b0 := a) rfl rfl rfl rfl (Sub.refl _) eltI (by simp) (.inl ⟨rfl, rfl⟩) (.inr ⟨_, _, rfl, rfl⟩) (Nat.zero_le _) ha ?_
        refine Plan.appendC (key := 1000) (q := 1) (B := none) (m := 0) (cap := 0) (xs := []) (news := intsL ((kd n p i).take a)) rfl rfl rfl rfl rfl (Sub.rowEq (by simp [intsL]) (Sub.refl _)) eltI (by intro _ e; cases e; decide) rfl hA rfl (ints_oneL _) (by simp; omega) fun B1 m1 cap1 hm1 => ?_
        obtain rfl : m1 = a := by simp at hm1; omega
        rw [List.nil_append]
        repeat (refine Plan.assign rfl rfl rfl rfl ?_)
        refine J.seq (J.region mixed hI (by kernel_rfl) ?_)
        repeat (refine Plan.move rfl rfl rfl rfl ?_)
        refine Plan.lit (B := w0.heap.size) rfl rfl rfl eltI rfl (hBb w0) rfl (by simp [Value.cells]) (by decide) ?_
        refine Plan.appendC (key := 1000) (q := 1) (news := intsL [i]) rfl rfl rfl rfl rfl Sub.own eltI (by intro _ e; cases e; decide) rfl hA rfl (ints_oneL _) (by simp; omega) fun B2 m2 cap2 hm2 => ?_
        rw [← intsL_app]
        obtain rfl : m2 = m1 + 1 := by simp at hm2; omega
        repeat (refine Plan.assign rfl rfl rfl rfl ?_)
        refine J.region mixed hI (by kernel_rfl) ?_
        repeat (refine Plan.move rfl rfl rfl rfl ?_)
        refine Plan.seeC (t := 52) (key := 1000) (q := 0) (xs := intsL (kd n p i)) (by kernel_rfl) hI rfl rfl rfl (fun w F hh => row_rowH hh) ?_
        refine Plan.sliceRow (m := (kd n p i).length) (a0 := m1) (b0 := (kd n p i).length) rfl rfl rfl rfl (Sub.refl _) eltI (by simp) (.inr ⟨_, _, rfl, rfl⟩) (.inl ⟨rfl, rfl⟩) ha (Nat.le_refl _) ?_
        refine Plan.appendC (key := 1000) (q := 1) (news := intsL ((kd n p i).drop m1)) rfl rfl rfl rfl rfl (Sub.rowEq (by rw [Nat.mul_one, Nat.mul_one, List.take_of_length_le (by simp)]; simp [intsL]) (Sub.refl _)) eltI (by intro _ e; cases e; decide) rfl hA rfl (ints_oneL _) (by simp; omega) fun B3 m3 cap3 hm3 => ?_
        rw [← intsL_app, hins]
        obtain rfl : m3 = (kd n p (i + 1)).length := by
          rw [← hins]
          simp at hm3 ⊢
          omega
        repeat (refine Plan.assign rfl rfl rfl rfl ?_)
        refine J.region mixed hI (by kernel_rfl) ?_
        repeat (first | refine Plan.move rfl rfl rfl rfl ?_ | (refine Plan.ints rfl rfl rfl rfl rfl rfl ?_; (refine Plan.int (i64r (by omega)) ?_)))
        refine Plan.int (y := ((i + 1 : Nat) : Int)) (by omega) ?_
        repeat (fail)
        exact Nrm.next (i + 1, B3, cap3) hlt (by dsimp only; omega) (by repeat (first | exact Weak.nil | refine Weak.cons rfl (Sub.refl _) ?_ | refine Weak.cons rfl (Sub.heap (Ent.pickC [1] rfl rfl)) ?_))
      | true =>
      repeat (refine Plan.pick rfl rfl rfl rfl rfl ?_)
      refine J.condT rfl ?_
      refine J.skip ?_
      refine J.block ?_
      refine J.region mixed hI (by kernel_rfl) ?_
      repeat (first | refine Plan.move rfl rfl rfl rfl ?_ | refine Plan.assign rfl rfl rfl rfl ?_ | (refine Plan.ints rfl rfl rfl rfl rfl rfl ?_; (refine Plan.int (i64r (by omega)) ?_)))
      refine Plan.int (y := ((a - 1 : Nat) : Int)) (by omega) ?_
      repeat (fail)
      refine Nrm.next (a - 1) ⟨by omega, fun j hj haj => ?_⟩ (by omega) (by repeat (first | exact Weak.nil | refine Weak.cons rfl (Sub.refl _) ?_))
      by_cases hja : a ≤ j
      · exact hlate j hj hja
      · have hj2 : j = a - 1 := by omega
        subst hj2
        rw [← hq]; exact later_iff.1 hlv
    have hie : i = n.length := by
      first | omega | (dsimp only at hc; omega)
    subst hie
    refine J.exit ?_
    unfold urE
    dsimp only
    rw [kd_all]
    obtain ⟨xs, hxs⟩ : ∃ xs, xs = sortK n (kidsM n p) := ⟨_, rfl⟩
    rw [← hxs]
    have hxm : ∀ i ∈ xs, i < n.length ∧ mu n (some i) < k := fun i hi => by
      rw [hxs, sortK_mem] at hi
      have := mu_kid hi
      exact ⟨(kids_mem.1 hi).1, by omega⟩
    have hxn : xs.length ≤ n.length := by
      rw [hxs, ← kd_all]; exact kd_len n p n.length
    obtain ⟨part, hpart⟩ : ∃ part : Nat → List EvV, part = fun j => evsOf n ((xs.take j).flatMap fun i => i :: undM n k (some i)) := ⟨_, rfl⟩
    have hp0 : part 0 = [] := by rw [hpart]; simp
    have hpe : part xs.length = evsOf n (undM n (k + 1) p) := by rw [hpart]; dsimp only; rw [List.take_length, hxs]; rfl
    have hpl : ∀ j, (part j).length ≤ 1000 := fun j => by
      rw [hpart, hxs]
      have h1 := und_part_len n k p j
      have h2 := und_len n (k + 1) p
      simp only [List.length_map]; omega
    refine J.nilRow (key := 1000) 41 26 rfl ?_
    refine J.seq (J.region mixed hI (by kernel_rfl) ?_)
    repeat (refine Plan.assign rfl rfl rfl rfl ?_)
    refine J.seq (J.seq (J.region mixed hI (by kernel_rfl) ?_))
    repeat (first | refine Plan.move rfl rfl rfl rfl ?_ | refine Plan.lenE rfl rfl rfl rfl (by first | exact Try.underlying22 | exact Try.underlying49) ?_)
    refine J.block (J.loop (ukE w0 n xs B cap part) (fun s => s.1 ≤ xs.length) (fun s => xs.length - s.1) (0, none, 0) (Nat.zero_le _) ?_ ?_)
    · unfold ukE
      dsimp only
      rw [hp0]
      repeat (first | exact Weak.nil | refine Weak.cons rfl (Sub.refl _) ?_)
    rintro ⟨j, O, oc⟩ hj
    simp only at hj
    change J _ _ _ _ _ (ukE w0 n xs B cap part (j, O, oc))
    refine J.seq (J.region mixed hI (by kernel_rfl) ?_)
    repeat ((refine Plan.ints rfl rfl rfl rfl rfl rfl ?_; (skip)))
    refine J.seq (J.condD rfl (fun hc2 => ?_) (fun hc2 => ?_))
    · have hlt : j < xs.length := by
        first | omega | (dsimp only at hc2; omega)
      obtain ⟨i, hi⟩ : ∃ i, i = xs[j] := ⟨_, rfl⟩
      obtain ⟨hin, him⟩ := hxm i (hi ▸ List.getElem_mem hlt)
      have hpj : part (j + 1) = (part j ++ [n.getD i ev0]) ++ evsOf n (undM n k (some i)) := by
        rw [hpart, hi]
        subst hxs
        have := und_step n k p [] hlt
        simp only [List.nil_append] at this
        exact this.symm
      have hpl1 := hpl j
      have hpl2 := hpl (j + 1)
      have hul := und_len n k (some i)
      refine J.tellC (key := 1000) (q := 0) rfl rfl (row_at (by simpa using (by omega : 0 < xs.length))) ?_
      rintro ⟨g, rfl⟩
      refine J.skip ?_
      refine J.seq (J.block ?_)
      refine J.seq (J.region mixed hI (by kernel_rfl) ?_)
      repeat (first | refine Plan.move rfl rfl rfl rfl ?_ | refine Plan.assign rfl rfl rfl rfl ?_)
      refine J.seq (J.region mixed hI (by kernel_rfl) ?_)
      repeat (refine Plan.move rfl rfl rfl rfl ?_)
      refine Plan.indexCI j rfl rfl rfl rfl rfl rfl eltI hlt ?_
      refine Plan.loadC (key := 1000) (q := 0) (v := vi i) rfl rfl rfl rfl rfl rfl (row_reads1 (by simp [hi, hlt])) Try.underlying3 (by rfl) (by decide) ?_
      refine Plan.indexAddr EvV.enc 26 n ev0 rfl rfl rfl rfl (Sub.old fun _ h => h) rfl eltE encE (by omega) (by omega) ?_
      rw [Int.toNat_natCast]
      refine Plan.loadAggP rfl rfl rfl rfl (Sub.refl _) Try.underlying41 rfl (by rw [encE]; kernel_rfl) ?_
      refine Plan.lit (B := w0.heap.size) rfl rfl rfl eltE rfl (hBb w0) rfl (by simp [Value.cells, EvV.enc]) (by decide) ?_
      refine Plan.appendC (key := 1000) (q := 1) (news := evsC [n.getD i ev0]) rfl rfl rfl rfl rfl (Sub.rowEq (by simp [evsC, flat, Value.cells]) Sub.own) eltE (by intro _ e; cases e; decide) rfl hA rfl (evs_one _) (by rw [evs_len, evs_len]; simp; omega) fun B1 m1 cap1 hm1 => ?_
      rw [← evs_app]
      obtain rfl : m1 = (part j ++ [n.getD i ev0]).length := by
        rw [evs_len, evs_len] at hm1
        rw [List.length_append]
        simp only [List.length_cons, List.length_nil] at hm1 ⊢
        omega
      repeat (refine Plan.assign rfl rfl rfl rfl ?_)
      have hrec := under_fn n hn hok k (some i) him
      refine J.region mixed hI (by kernel_rfl) ?_
      repeat (refine Plan.move rfl rfl rfl rfl ?_)
      refine Plan.indexCI j rfl rfl rfl rfl rfl rfl eltI hlt ?_
      refine Plan.loadC (key := 1000) (q := 0) (v := vi i) rfl rfl rfl rfl rfl rfl (row_reads1 (by simp [hi, hlt])) Try.underlying3 (by rfl) (by decide) ?_
      refine Plan.call (B := w0.heap.size) rfl rfl rfl hrec Try.func23 rfl rfl (hBb w0) (Opnds.cons rfl (Sub.old fun _ h => h) (Opnds.cons rfl (Sub.refl _) Opnds.nil)) ?_
      refine Plan.appendC (key := 1000) (q := 1) (news := evsC (evsOf n (undM n k (some i)))) rfl rfl rfl rfl rfl Sub.own eltE (by intro _ e; cases e; decide) rfl hA rfl (evs_one _) (by rw [evs_len, evs_len, List.length_append, List.length_map]; simp only [List.length_cons, List.length_nil]; omega) fun B2 m2 cap2 hm2 => ?_
      rw [← evs_app, ← hpj]
      obtain rfl : m2 = (part (j + 1)).length := by
        rw [evs_len, evs_len] at hm2
        dsimp only at hm2
        rw [hpj, List.length_append]
        omega
      repeat (refine Plan.assign rfl rfl rfl rfl ?_)
      refine J.region mixed hI (by kernel_rfl) ?_
      repeat (first | refine Plan.move rfl rfl rfl rfl ?_ | (refine Plan.ints rfl rfl rfl rfl rfl rfl ?_; (refine Plan.int (i64r (by omega)) ?_)))
      refine Plan.int (y := ((j + 1 : Nat) : Int)) (by omega) ?_
      repeat (fail)
      exact Nrm.next (j + 1, B2, cap2) hlt (by dsimp only; omega) (by repeat (first | exact Weak.nil | refine Weak.cons rfl (Sub.refl _) ?_))
    have hje : j = xs.length := by
      first | omega | (dsimp only at hc2; omega)
    subst hje
    refine J.exit ?_
    unfold ukE
    dsimp only
    rw [hpe]
    refine J.seq (J.region mixed hI (by kernel_rfl) ?_)
    repeat (first | refine Plan.move rfl rfl rfl rfl ?_ | refine Plan.assign rfl rfl rfl rfl ?_)
    exact J.ret (Nrm.retRow (key := 1000) (q := 1) rfl rfl rfl rfl)
end Go.Proofs.Ytfglecmimoeinaa
end

section
set_option linter.unusedSimpArgs false
set_option linter.unusedVariables false
set_option maxRecDepth 20000
namespace Go.Proofs.Ytfglecmimoeinaa
open Go.Free Go.RowKit Go.Proofs
set_option maxHeartbeats 16000000

def tyE (w0 : World) (B : Nat) (i : Nat) : Env := [(0, .ex (vi 9)), (3, own B 3 1 [vi 1, vi 2, vi 3, vi 5, vi 7, vi 9]), (7, .ex (vi 6)), (8, .ex (vi i))]
theorem type_fn (k : Int) (h9 : k = 9) : Spc Try.prog 40 [.ex (vi k)] fun _ => .ex (.int .i64 6) := by
  subst h9
  refine Spc.intro Try.func40 rfl (Nat.le_of_ble_eq_true rfl) fun w0 => ?_
  have hI := hIb w0
  have hA := Own.below w0
  repeat (first | refine Plan.assign rfl rfl rfl rfl ?_ | refine J.seq (J.region mixed hI (by kernel_rfl) ?_))
  refine Plan.lit (B := w0.heap.size) rfl rfl rfl eltI rfl (hBb w0) rfl (by simp [Value.cells]) (by decide) ?_
  repeat (first | refine Plan.move rfl rfl rfl rfl ?_ | refine Plan.assign rfl rfl rfl rfl ?_ | refine J.seq (J.seq (J.region mixed hI (by kernel_rfl) ?_)))
  refine Plan.lenRow (m := 6) rfl rfl rfl rfl Sub.own Try.underlying49 rfl (by decide) ?_
  repeat (refine Plan.move rfl rfl rfl rfl ?_)
  refine J.block (J.loop (tyE w0 w0.heap.size) (fun i => i ≤ 5) (fun i => 6 - i) 0 (Nat.zero_le _) ?_ ?_)
  · repeat (first | exact Weak.nil | refine Weak.cons rfl (Sub.refl _) ?_)
  intro i hi
  have hcase : i < 5 ∨ i = 5 := by omega
  repeat (first | (refine Plan.ints rfl rfl rfl rfl rfl rfl ?_; (skip)) | refine J.seq (J.region mixed hI (by kernel_rfl) ?_))
  refine Plan.boolv (y := true) (by simp; omega) ?_
  refine J.seq (J.condT rfl ?_)
  refine J.skip ?_
  refine J.seq (J.block ?_)
  repeat (first | refine Plan.move rfl rfl rfl rfl ?_ | refine Plan.assign rfl rfl rfl rfl ?_ | refine J.seq (J.region mixed hI (by kernel_rfl) ?_))
  refine Plan.indexAddr (fun x : Int => [vi x]) 1 [1, 2, 3, 5, 7, 9] 0 rfl rfl rfl rfl Sub.own rfl eltI (fun _ => rfl) (by omega) (by simp; omega) ?_
  refine Plan.load rfl rfl rfl rfl (Sub.refl _) Try.underlying3 rfl ?_
  rw [Int.toNat_natCast]
  rcases hcase with hlt | rfl
  · repeat (first | refine Plan.move rfl rfl rfl rfl ?_ | (refine Plan.ints rfl rfl rfl rfl rfl rfl ?_; (skip)))
    refine Plan.boolv (y := false) (by
      have : i = 0 ∨ i = 1 ∨ i = 2 ∨ i = 3 ∨ i = 4 := by omega
      rcases this with rfl | rfl | rfl | rfl | rfl <;> decide) ?_
    repeat (first | refine Plan.move rfl rfl rfl rfl ?_ | (refine Plan.ints rfl rfl rfl rfl rfl rfl ?_; (refine Plan.int (i64r (by omega)) ?_)) | refine J.region mixed hI (by kernel_rfl) ?_ | refine J.condF rfl ?_ | refine J.skip ?_)
    refine Plan.int (y := ((i + 1 : Nat) : Int)) (by omega) ?_
    repeat (fail)
    exact Nrm.next (i + 1) (by omega) (by omega) (by repeat (first | exact Weak.nil | refine Weak.cons rfl (Sub.refl _) ?_))
  · repeat (first | refine Plan.move rfl rfl rfl rfl ?_ | (refine Plan.ints rfl rfl rfl rfl rfl rfl ?_; (skip)))
    refine Plan.boolv (y := true) (by decide) ?_
    repeat (first | refine Plan.move rfl rfl rfl rfl ?_ | refine Plan.assign rfl rfl rfl rfl ?_ | (refine Plan.ints rfl rfl rfl rfl rfl rfl ?_; (refine Plan.int (i64r (by omega)) ?_)) | refine J.seq (J.region mixed hI (by kernel_rfl) ?_) | refine J.condT rfl ?_)
    exact J.ret (Nrm.ret1 rfl (fun _ h => h) rfl fun B _ => Sub.refl _)
theorem refEnds_fn (b a : EvV) (hb : b.okV) (ha : a.okV) (h9 : a.kind = 9) : Spc Try.prog 30 [.ex (aggE b), .ex (aggE a)] fun _ => .ex (.bool (decide (endsP b a))) := by
  refine Spc.intro Try.func30 rfl (Nat.le_of_ble_eq_true rfl) fun w0 => ?_
  have hI := hIb w0
  have hA := Own.below w0
  have h1 := hb.2.2.2.2.2.2.2.2.2
  have h2 : okD (a.r, a.n) := ⟨ha.1, ha.2.1⟩
  have h3 : okD (b.rr, b.rn) := h1
  have h4 : addP a.kind := .inr (.inr (.inr (.inr (.inr h9))))
  refine J.heap0 1000 (newB w0) ?_
  repeat' (first | refine Plan.move rfl rfl rfl rfl ?_ | refine Plan.assign rfl rfl rfl rfl ?_ | refine Plan.skip rfl rfl ?_ | refine Plan.pick rfl rfl rfl rfl rfl ?_ | (refine Plan.ints rfl rfl rfl rfl rfl rfl ?_; (skip)) | refine Plan.un rfl rfl rfl rfl rfl ?_ | refine Plan.fieldC rfl rfl rfl rfl (by first | exact Try.underlying41 | exact Try.underlying39) rfl (by kernel_rfl) (by first | exact (rfl : _ = 0) | exact (rfl : _ = 19) | exact (rfl : _ = 20) | exact (rfl : _ = 21) | exact (rfl : _ = 24)) ?_ | refine Plan.loadC (key := 1000) (q := 0) rfl rfl rfl rfl rfl rfl (obj_reads1 rfl) (by first | exact Try.underlying3 | exact Try.underlying9) (by rfl) (by decide) ?_ | refine Plan.loadC (key := 1000) (q := 1) rfl rfl rfl rfl rfl rfl (obj_reads1 rfl) (by first | exact Try.underlying3 | exact Try.underlying9) (by rfl) (by decide) ?_ | refine J.seq (J.region mixed hI (by kernel_rfl) ?_) | refine J.seq (J.seq (J.region mixed hI (by kernel_rfl) ?_)) | refine J.condT rfl ?_ | refine J.skip ?_ | refine Plan.call (B := w0.heap.size) rfl rfl rfl (refCovers_fn b a) Try.func39 rfl rfl (hBb w0) (by repeat (first | exact Opnds.nil | refine Opnds.cons rfl (by exact Sub.refl _) ?_)) ?_ | refine Plan.call (B := w0.heap.size) rfl rfl rfl (type_fn a.kind h9) Try.func40 rfl rfl (hBb w0) (by repeat (first | exact Opnds.nil | refine Opnds.cons rfl (by exact Sub.refl _) ?_)) ?_ | refine Plan.loadAggC (key := 1000) (q := 0) (vs := b.enc) rfl rfl rfl rfl rfl rfl (obj_reads rfl) Try.underlying41 rfl (by rw [encE]; kernel_rfl) (by decide) ?_ | refine Plan.loadAggC (key := 1000) (q := 1) (vs := a.enc) rfl rfl rfl rfl rfl rfl (obj_reads rfl) Try.underlying41 rfl (by rw [encE]; kernel_rfl) (by decide) ?_ | refine Plan.loadAggC (key := 1000) (q := 0) (vs := [vi b.rr, vi b.rn]) rfl rfl rfl rfl rfl rfl (obj_reads rfl) Try.underlying26 rfl (by kernel_rfl) (by decide) ?_ | refine Plan.loadAggC (key := 1000) (q := 1) (vs := [vi a.r, vi a.n]) rfl rfl rfl rfl rfl rfl (obj_reads rfl) Try.underlying26 rfl (by kernel_rfl) (by decide) ?_ | refine Plan.eqlDt (b.rr, b.rn) (a.r, a.n) rfl rfl rfl rfl rfl h3 h2 ?_ | refine Plan.boolv (y := false) (decide_eq_false (by omega)) ?_ | refine Plan.boolv (y := true) (decide_eq_true (by omega)) ?_ | refine Plan.strs rfl rfl rfl rfl rfl rfl ?_ | refine Plan.boxC (key := 1000) rfl rfl rfl (by intro _ e; cases e; decide) rfl rfl hA fun _ => ?_ | refine J.condN rfl (fun _ => ?_) (fun _ => ?_) | refine Plan.splitD (fun _ => ?_) (fun _ => ?_) | refine Plan.splitND (fun _ => ?_) (fun _ => ?_))
  all_goals exact J.ret (Nrm.ret1 rfl (fun _ h => h) rfl fun B _ => Sub.of_eq (congrArg (fun b => Fa.ex (.bool b)) (by
    first
    | refine (decide_eq_true ?_).symm
    | refine (decide_eq_false ?_).symm
    | refine decide_eq_decide.2 ?_
    | refine beq_decide ?_
    | refine bne_decide ?_
    all_goals ((try simp only [endsP, dt_eq] at *); first | omega | grind))))
end Go.Proofs.Ytfglecmimoeinaa
end

section
set_option linter.unusedSimpArgs false
set_option linter.unusedVariables false
set_option maxRecDepth 20000
namespace Go.Proofs.Ytfglecmimoeinaa
open Go.Free Go.RowKit Go.Proofs Go.Free.Sorts
set_option maxHeartbeats 16000000

theorem refOrder_fn (L : List EvV) (hl : L.length ≤ 1000) (hok : ∀ e ∈ L, e.okV) (key : List UInt8) : Spc Try.prog 15 [row 26 (evsC L), .ex (str key)] fun B => own B 41 26 (evsC (orderM key L)) := by
  refine Spc.intro Try.func15 rfl (Nat.le_of_ble_eq_true rfl) fun w0 => ?_
  have hI := hIb w0
  have hnl := nodes_le key L
  have hm := mu_le (nodesM key L) none
  have hu := under_fn (nodesM key L) (by omega) (nodes_ok hok) ((nodesM key L).length + 1) none (by omega)
  refine J.seq (J.region mixed hI (by kernel_rfl) ?_)
  repeat (refine Plan.assign rfl rfl rfl rfl ?_)
  refine J.seq (J.region mixed hI (by kernel_rfl) ?_)
  repeat (refine Plan.move rfl rfl rfl rfl ?_)
  refine Plan.call (B := w0.heap.size) rfl rfl rfl (refNodes_fn L (by omega) key) Try.func24 rfl rfl (hBb w0) (by repeat (first | exact Opnds.nil | refine Opnds.cons rfl (by first | exact Sub.refl _ | exact Sub.old (fun _ h => h)) ?_)) ?_
  refine Plan.call (B := w0.heap.size) rfl rfl rfl hu Try.func23 rfl rfl (hBb w0) (Opnds.cons rfl Sub.own (Opnds.cons rfl (Sub.refl _) Opnds.nil)) ?_
  repeat (refine Plan.assign rfl rfl rfl rfl ?_)
  exact J.ret (Nrm.ret1 rfl (fun _ h => h) rfl fun B hB => Sub.ownLower hB)
def riE (w0 : World) (L all : List EvV) (Ba : Option Addr) (ca : Nat) (s : Nat × Option Addr × Nat) : Env :=
  [(0, old w0 (row 26 (evsC L))), (5, .ex (.slice s.2.1 (keepE (endedB L) (all.take s.1)).length s.2.2)), (6, .ex (.slice Ba all.length ca)), (14, .ex (vi all.length)), (15, .ex (vi s.1)),
   (1000, heap (newB w0) [rowEv s.2.1 (keepE (endedB L) (all.take s.1)).length s.2.2 (evsC (keepE (endedB L) (all.take s.1))), rowEv Ba all.length ca (evsC all)])]
def rjE (w0 : World) (L all : List EvV) (Ba : Option Addr) (ca : Nat) (i : Nat) (B : Option Addr) (cap : Nat) (a : EvV) (k : Nat) : Env :=
  [(0, old w0 (row 26 (evsC L))), (5, .ex (.slice B (keepE (endedB L) (all.take i)).length cap)), (6, .ex (.slice Ba all.length ca)), (7, .ex (vi i)), (8, .ex (.bool (endedB (L.take k) a))), (14, .ex (vi all.length)), (15, .ex (vi i)), (19, .ex (vi L.length)), (20, .ex (vi k)),
   (1000, heap (newB w0) [rowEv B (keepE (endedB L) (all.take i)).length cap (evsC (keepE (endedB L) (all.take i))), rowEv Ba all.length ca (evsC all)])]
theorem ended_take {L : List EvV} {a : EvV} {k : Nat} (hk : k < L.length) : endedB (L.take (k + 1)) a = (endedB (L.take k) a || decide (endsP L[k] a)) := by
  unfold endedB
  rw [List.take_succ_eq_append_getElem hk, List.any_append]
  simp
theorem keep_take {p : EvV → Bool} {l : List EvV} {i : Nat} (hi : i < l.length) : keepE p (l.take (i + 1)) = if p l[i] = true then keepE p (l.take i) else keepE p (l.take i) ++ [l[i]] := by
  unfold keepE
  rw [List.take_succ_eq_append_getElem hi, List.filter_append]
  by_cases h : p l[i] = true
  · rw [if_pos h, List.filter_cons_of_neg (by simp [h])]; simp
  · rw [if_neg h, List.filter_cons_of_pos (by simpa using h)]; rfl
theorem keep_len (p : EvV → Bool) (l : List EvV) : (keepE p l).length ≤ l.length := List.length_filter_le _ _
theorem refItems_fn (L : List EvV) (hl : L.length ≤ 1000) (hok : ∀ e ∈ L, e.okV) (key : List UInt8) : Spc Try.prog 17 [row 26 (evsC L), .ex (str key)] fun B => own B 41 26 (evsC (itemsM key L)) := by
  refine Spc.intro Try.func17 rfl (Nat.le_of_ble_eq_true rfl) fun w0 => ?_
  have hI := hIb w0
  have hA := Own.below w0
  obtain ⟨all, hal⟩ : ∃ all, all = orderM key L := ⟨_, rfl⟩
  have hal2 : itemsM key L = keepE (endedB L) all := by rw [hal]; rfl
  rw [hal2]
  have hlen : all.length ≤ 1000 := by rw [hal]; have := order_len key L; omega
  have hin : ∀ e ∈ all, e ∈ L ∧ e.kind = 9 := fun e he => by rw [hal] at he; exact ⟨(order_node e he).1, (order_node e he).2.1⟩
  have hN : SpcR Try.prog 15 [row 26 (evsC L), .ex (str key)] emp fun B => own B 41 26 (evsC all) := fun w args F hd _ => by rw [hal]; exact refOrder_fn L hl hok key w args hd
  refine J.heap0 1000 (newB w0) ?_
  refine J.nilRow (key := 1000) 41 26 rfl ?_
  refine J.seq (J.region mixed hI (by kernel_rfl) ?_)
  repeat (refine Plan.assign rfl rfl rfl rfl ?_)
  refine J.seq (J.region mixed hI (by kernel_rfl) ?_)
  repeat (refine Plan.assign rfl rfl rfl rfl ?_)
  refine J.seq (J.region mixed hI (by kernel_rfl) ?_)
  repeat (refine Plan.move rfl rfl rfl rfl ?_)
  refine Plan.callRO (key := 1000) rfl rfl rfl hN (fun _ => rfl) Try.func15 rfl rfl (by intro _ e; cases e; decide) (by repeat (first | exact Opnds.nil | refine Opnds.cons rfl (by first | exact Sub.refl _ | exact Sub.old (fun _ h => h)) ?_)) rfl hA Ent.emp fun Ba m ca hm => ?_
  obtain rfl : m = all.length := by rw [evs_len] at hm; omega
  repeat (refine Plan.assign rfl rfl rfl rfl ?_)
  refine J.seq (J.seq (J.region mixed hI (by kernel_rfl) ?_))
  repeat (first | refine Plan.move rfl rfl rfl rfl ?_ | refine Plan.lenE rfl rfl rfl rfl (by exact Try.underlying22) ?_)
  refine J.block (J.loop (riE w0 L all Ba ca) (fun s => s.1 ≤ all.length) (fun s => all.length - s.1) (0, none, 0) (Nat.zero_le _) ?_ ?_)
  · repeat (first | exact Weak.nil | refine Weak.cons rfl (Sub.refl _) ?_)
  rintro ⟨i, B, cap⟩ hi
  simp only at hi
  change J _ _ _ _ _ (riE w0 L all Ba ca (i, B, cap))
  refine J.seq (J.region mixed hI (by kernel_rfl) ?_)
  repeat ((refine Plan.ints rfl rfl rfl rfl rfl rfl ?_; (skip)))
  refine J.seq (J.condD rfl (fun hc => ?_) (fun hc => ?_))
  · have hlt : i < all.length := by
      first | omega | (dsimp only at hc; omega)
    obtain ⟨a, ha⟩ : ∃ a, a = all[i] := ⟨_, rfl⟩
    have haL := hin _ (List.getElem_mem hlt)
    rw [← ha] at haL
    have hao := hok a haL.1
    have hkt := keep_take (p := endedB L) hlt
    rw [← ha] at hkt
    have hkl : (keepE (endedB L) (all.take i)).length ≤ 1000 := by
      have := keep_len (endedB L) (all.take i)
      rw [List.length_take] at this; omega
    refine J.skip ?_
    refine J.tellC (key := 1000) (q := 1) rfl rfl (row_at (by rw [evs_len]; omega)) ?_
    rintro ⟨g, rfl⟩
    refine J.seq (J.block ?_)
    refine J.seq (J.region mixed hI (by kernel_rfl) ?_)
    repeat (first | refine Plan.move rfl rfl rfl rfl ?_ | refine Plan.assign rfl rfl rfl rfl ?_)
    refine J.seq (J.region mixed hI (by kernel_rfl) ?_)
    repeat (refine Plan.assign rfl rfl rfl rfl ?_)
    refine J.seq (J.seq (J.region mixed hI (by kernel_rfl) ?_))
    repeat (refine Plan.move rfl rfl rfl rfl ?_)
    refine Plan.lenRow (m := L.length) rfl rfl rfl rfl (Sub.old fun _ h => h) Try.underlying22 (by rw [evs_len]) (by decide) ?_
    repeat (refine Plan.move rfl rfl rfl rfl ?_)
    refine J.block (J.loop (rjE w0 L all (some ⟨g, 0, none⟩) ca i B cap a) (fun k => k ≤ L.length) (fun k => L.length - k) 0 (Nat.zero_le _) ?_ ?_)
    · repeat (first | exact Weak.nil | refine Weak.cons rfl (Sub.refl _) ?_)
    intro k hk
    refine J.seq (J.region mixed hI (by kernel_rfl) ?_)
    repeat ((refine Plan.ints rfl rfl rfl rfl rfl rfl ?_; (skip)))
    refine J.seq (J.condD rfl (fun hc2 => ?_) (fun hc2 => ?_))
    · have hkl2 : k < L.length := by omega
      have hob := hok _ (List.getElem_mem hkl2)
      have het := ended_take (a := a) hkl2
      refine J.skip ?_
      refine J.seq (J.block ?_)
      refine J.seq (J.region mixed hI (by kernel_rfl) ?_)
      repeat (first | refine Plan.move rfl rfl rfl rfl ?_ | refine Plan.assign rfl rfl rfl rfl ?_)
      refine J.region mixed hI (by kernel_rfl) ?_
      repeat (refine Plan.move rfl rfl rfl rfl ?_)
      cases hev : endedB (L.take k) a with
      | true =>
        rw [hev, Bool.true_or] at het
        repeat (first | refine Plan.assign rfl rfl rfl rfl ?_ | refine Plan.skip rfl rfl ?_ | refine Plan.pick rfl rfl rfl rfl rfl ?_)
        refine J.region mixed hI (by kernel_rfl) ?_
        repeat (first | refine Plan.move rfl rfl rfl rfl ?_ | (refine Plan.ints rfl rfl rfl rfl rfl rfl ?_; (refine Plan.int (i64r (by omega)) ?_)))
        refine Plan.int (y := ((k + 1 : Nat) : Int)) (by omega) ?_
        repeat (fail)
        exact Nrm.next (k + 1) hkl2 (by omega) (by unfold rjE; rw [het]; exact (by repeat (first | exact Weak.nil | refine Weak.cons rfl (Sub.refl _) ?_)))
      | false =>
        rw [hev, Bool.false_or] at het
        repeat (refine Plan.move rfl rfl rfl rfl ?_)
        refine Plan.indexAddr EvV.enc 26 L ev0 rfl rfl rfl rfl (Sub.old fun _ h => h) rfl eltE encE (by omega) (by omega) ?_
        rw [Int.toNat_natCast, getD_at hkl2]
        refine Plan.loadAggP rfl rfl rfl rfl (Sub.refl _) Try.underlying41 rfl (by rw [encE]; kernel_rfl) ?_
        repeat (refine Plan.move rfl rfl rfl rfl ?_)
        refine Plan.indexC (off := i * 26) rfl rfl rfl rfl rfl eltE hlt (by omega) ?_
        refine Plan.loadAggC (key := 1000) (q := 1) (off := i * 26) (vs := a.enc) rfl rfl rfl rfl rfl rfl (row_reads (by rw [ha]; exact evs_at all hlt)) Try.underlying41 rfl (by rw [encE]; kernel_rfl) (by decide) ?_
        refine Plan.call (B := w0.heap.size) rfl rfl rfl (refEnds_fn L[k] a hob hao haL.2) Try.func30 rfl rfl (hBb w0) (by repeat (first | exact Opnds.nil | refine Opnds.cons rfl (by exact Sub.refl _) ?_)) ?_
        rw [← het]
        repeat (first | refine Plan.assign rfl rfl rfl rfl ?_ | refine Plan.pick rfl rfl rfl rfl rfl ?_)
        refine J.region mixed hI (by kernel_rfl) ?_
        repeat (first | refine Plan.move rfl rfl rfl rfl ?_ | (refine Plan.ints rfl rfl rfl rfl rfl rfl ?_; (refine Plan.int (i64r (by omega)) ?_)))
        refine Plan.int (y := ((k + 1 : Nat) : Int)) (by omega) ?_
        repeat (fail)
        exact Nrm.next (k + 1) hkl2 (by omega) (by repeat (first | exact Weak.nil | refine Weak.cons rfl (Sub.refl _) ?_))
    have hke : k = L.length := by omega
    subst hke
    refine J.exit ?_
    unfold rjE
    rw [List.take_length]
    refine J.seq (J.region mixed hI (by kernel_rfl) ?_)
    repeat (first | refine Plan.move rfl rfl rfl rfl ?_ | refine Plan.un rfl rfl rfl rfl rfl ?_)
    cases hev : endedB L a with
    | true =>
      rw [if_pos hev] at hkt
      refine J.condF rfl ?_
      refine J.skip ?_
      refine J.region mixed hI (by kernel_rfl) ?_
      repeat (first | refine Plan.move rfl rfl rfl rfl ?_ | (refine Plan.ints rfl rfl rfl rfl rfl rfl ?_; (refine Plan.int (i64r (by omega)) ?_)))
      refine Plan.int (y := ((i + 1 : Nat) : Int)) (by omega) ?_
      repeat (fail)
      exact Nrm.next (i + 1, B, cap) hlt (by dsimp only; omega) (by unfold riE; dsimp only; rw [hkt]; exact (by repeat (first | exact Weak.nil | refine Weak.cons rfl (Sub.refl _) ?_)))
    | false =>
      rw [if_neg (by rw [hev]; decide)] at hkt
      refine J.condT rfl ?_
      refine J.region mixed hI (by kernel_rfl) ?_
      repeat (refine Plan.move rfl rfl rfl rfl ?_)
      refine Plan.indexC (off := i * 26) rfl rfl rfl rfl rfl eltE hlt (by omega) ?_
      refine Plan.loadAggC (key := 1000) (q := 1) (off := i * 26) (vs := a.enc) rfl rfl rfl rfl rfl rfl (row_reads (by rw [ha]; exact evs_at all hlt)) Try.underlying41 rfl (by rw [encE]; kernel_rfl) (by decide) ?_
      refine Plan.lit (B := w0.heap.size) rfl rfl rfl eltE rfl (hBb w0) rfl (by simp [Value.cells, EvV.enc]) (by decide) ?_
      refine Plan.appendC (key := 1000) (q := 0) (news := evsC [a]) rfl rfl rfl rfl rfl (Sub.rowEq (by simp [evsC, flat, Value.cells]) Sub.own) eltE (by intro _ e; cases e; decide) rfl hA rfl (evs_one _) (by rw [evs_len, evs_len]; simp; omega) fun B' m' cap' hm' => ?_
      rw [← evs_app, ← hkt]
      obtain rfl : m' = (keepE (endedB L) (all.take (i + 1))).length := by
        rw [evs_len, evs_len] at hm'
        rw [hkt, List.length_append]
        simp only [List.length_cons, List.length_nil] at hm' ⊢
        omega
      repeat (refine Plan.assign rfl rfl rfl rfl ?_)
      refine J.region mixed hI (by kernel_rfl) ?_
      repeat (first | refine Plan.move rfl rfl rfl rfl ?_ | (refine Plan.ints rfl rfl rfl rfl rfl rfl ?_; (refine Plan.int (i64r (by omega)) ?_)))
      refine Plan.int (y := ((i + 1 : Nat) : Int)) (by omega) ?_
      repeat (fail)
      exact Nrm.next (i + 1, B', cap') hlt (by dsimp only; omega) (by repeat (first | exact Weak.nil | refine Weak.cons rfl (Sub.refl _) ?_))
  have hie : i = all.length := by
    first | omega | (dsimp only at hc; omega)
  subst hie
  refine J.exit ?_
  unfold riE
  dsimp only
  rw [List.take_length]
  refine J.seq (J.region mixed hI (by kernel_rfl) ?_)
  repeat (first | refine Plan.move rfl rfl rfl rfl ?_ | refine Plan.assign rfl rfl rfl rfl ?_)
  exact J.ret (Nrm.retRow (key := 1000) (q := 0) rfl rfl rfl rfl)
theorem refAnchor_fn (L : List EvV) (hl : L.length ≤ 1000) (hok : ∀ e ∈ L, e.okV) (key : List UInt8) (p : Int) : Spc Try.prog 12 [row 26 (evsC L), .ex (str key), .ex (vi p)] fun _ => .tup [.ex (aggD (anchorM (itemsM key L) p).1.1 (anchorM (itemsM key L) p).1.2), .ex (vi (anchorM (itemsM key L) p).2)] := by
  refine Spc.intro Try.func12 rfl (Nat.le_of_ble_eq_true rfl) fun w0 => ?_
  have hI := hIb w0
  have hA := Own.below w0
  have hil := items_len key L
  refine J.heap0 1000 (newB w0) ?_
  refine J.seq (J.region mixed hI (by kernel_rfl) ?_)
  refine Plan.allocC (key := 1000) (z := aggD 0 0) rfl rfl rfl (by intro _ e; cases e; decide) (by kernel_rfl) rfl hA fun ξ => ?_
  repeat (refine Plan.assign rfl rfl rfl rfl ?_)
  refine J.seq (J.region mixed hI (by kernel_rfl) ?_)
  repeat (refine Plan.move rfl rfl rfl rfl ?_)
  refine Plan.call (B := w0.heap.size) rfl rfl rfl (refItems_fn L hl hok key) Try.func17 rfl rfl (hBb w0) (by repeat (first | exact Opnds.nil | refine Opnds.cons rfl (by first | exact Sub.refl _ | exact Sub.old (fun _ h => h)) ?_)) ?_
  repeat (refine Plan.assign rfl rfl rfl rfl ?_)
  obtain ⟨items, hit⟩ : ∃ items, items = itemsM key L := ⟨_, rfl⟩
  rw [← hit] at hil ⊢
  refine J.seq (J.seq (J.region mixed hI (by kernel_rfl) ?_))
  repeat (first | refine Plan.move rfl rfl rfl rfl ?_ | (refine Plan.ints rfl rfl rfl rfl rfl rfl ?_; (skip)))
  by_cases h1 : p < 0
  · refine Plan.boolv (y := true) (decide_eq_true h1) ?_
    repeat (first | refine Plan.skip rfl rfl ?_ | refine Plan.pick rfl rfl rfl rfl rfl ?_)
    refine J.condT rfl ?_
    have ha : anchorM items p = ((0, 0), 7) := by unfold anchorM; rw [if_pos (.inl h1)]
    rw [ha]
    refine J.seq (J.region mixed hI (by kernel_rfl) ?_)
    refine Plan.build (cells := #[vi 0, vi 0]) rfl rfl (ps := []) rfl Parts.nil (by kernel_rfl) ?_
    refine Plan.storeC (key := 1000) (q := 0) (off := 0) rfl rfl rfl rfl rfl rfl (by simp [Value.cells, Value.oneCell']) (by kernel_rfl) rfl hA rfl (obj_pat (Nat.le_of_ble_eq_true rfl)) ?_
    repeat (refine Plan.assign rfl rfl rfl rfl ?_)
    exact J.ret (Nrm.retCT (key := 1000) (q := 0) rfl (fun _ h => h) rfl rfl rfl obj_whole Try.underlying26 rfl (by kernel_rfl) fun B _ => ⟨_, _, rfl, rfl, Sub.refl _⟩)
  refine Plan.boolv (y := false) (decide_eq_false h1) ?_
  repeat (refine Plan.move rfl rfl rfl rfl ?_)
  refine Plan.lenRow (m := items.length) rfl rfl rfl rfl Sub.own Try.underlying22 (by rw [evs_len]) (by decide) ?_
  repeat (first | refine Plan.pick rfl rfl rfl rfl rfl ?_ | (refine Plan.ints rfl rfl rfl rfl rfl rfl ?_; (skip)))
  by_cases h2 : p > items.length
  · refine Plan.boolv (y := true) (decide_eq_true h2) ?_
    repeat (fail)
    refine J.condT rfl ?_
    have ha : anchorM items p = ((0, 0), 7) := by unfold anchorM; rw [if_pos (.inr h2)]
    rw [ha]
    refine J.seq (J.region mixed hI (by kernel_rfl) ?_)
    refine Plan.build (cells := #[vi 0, vi 0]) rfl rfl (ps := []) rfl Parts.nil (by kernel_rfl) ?_
    refine Plan.storeC (key := 1000) (q := 0) (off := 0) rfl rfl rfl rfl rfl rfl (by simp [Value.cells, Value.oneCell']) (by kernel_rfl) rfl hA rfl (obj_pat (Nat.le_of_ble_eq_true rfl)) ?_
    repeat (refine Plan.assign rfl rfl rfl rfl ?_)
    exact J.ret (Nrm.retCT (key := 1000) (q := 0) rfl (fun _ h => h) rfl rfl rfl obj_whole Try.underlying26 rfl (by kernel_rfl) fun B _ => ⟨_, _, rfl, rfl, Sub.refl _⟩)
  refine Plan.boolv (y := false) (decide_eq_false h2) ?_
  repeat (fail)
  refine J.condF rfl ?_
  refine J.skip ?_
  refine J.seq (J.seq (J.region mixed hI (by kernel_rfl) ?_))
  repeat (first | refine Plan.move rfl rfl rfl rfl ?_ | (refine Plan.ints rfl rfl rfl rfl rfl rfl ?_; (skip)))
  by_cases h3 : p = 0
  · refine Plan.boolv (y := true) (decide_eq_true h3) ?_
    repeat (fail)
    refine J.condT rfl ?_
    have ha : anchorM items p = ((0, 0), 0) := by unfold anchorM; rw [if_neg (by omega), if_pos h3]
    rw [ha]
    refine J.seq (J.region mixed hI (by kernel_rfl) ?_)
    refine Plan.build (cells := #[vi 0, vi 0]) rfl rfl (ps := []) rfl Parts.nil (by kernel_rfl) ?_
    refine Plan.storeC (key := 1000) (q := 0) (off := 0) rfl rfl rfl rfl rfl rfl (by simp [Value.cells, Value.oneCell']) (by kernel_rfl) rfl hA rfl (obj_pat (Nat.le_of_ble_eq_true rfl)) ?_
    repeat (refine Plan.assign rfl rfl rfl rfl ?_)
    exact J.ret (Nrm.retCT (key := 1000) (q := 0) rfl (fun _ h => h) rfl rfl rfl obj_whole Try.underlying26 rfl (by kernel_rfl) fun B _ => ⟨_, _, rfl, rfl, Sub.refl _⟩)
  refine Plan.boolv (y := false) (decide_eq_false h3) ?_
  repeat (fail)
  refine J.condF rfl ?_
  refine J.skip ?_
  have ha : anchorM items p = (((items.getD (p - 1).toNat ev0).r, (items.getD (p - 1).toNat ev0).n), 0) := by unfold anchorM; rw [if_neg (by omega), if_neg h3]
  rw [ha]
  refine J.seq (J.region mixed hI (by kernel_rfl) ?_)
  repeat (first | refine Plan.move rfl rfl rfl rfl ?_ | (refine Plan.ints rfl rfl rfl rfl rfl rfl ?_; (refine Plan.int (i64r (by omega)) ?_)))
  refine Plan.int (y := p - 1) (by omega) ?_
  refine Plan.indexAddr EvV.enc 26 items ev0 rfl rfl rfl rfl Sub.own rfl eltE encE (by omega) (by omega) ?_
  refine Plan.fieldPtr (us := [vi (items.getD (p - 1).toNat ev0).r, vi (items.getD (p - 1).toNat ev0).n]) rfl rfl rfl rfl (Sub.refl _) Try.underlying41 rfl (by kernel_rfl) rfl ?_
  refine Plan.loadAggP rfl rfl rfl rfl (Sub.refl _) Try.underlying26 rfl (by kernel_rfl) ?_
  refine Plan.storeC (key := 1000) (q := 0) (off := 0) rfl rfl rfl rfl rfl rfl (by simp [Value.cells, Value.oneCell']) (by kernel_rfl) rfl hA rfl (obj_pat (Nat.le_of_ble_eq_true rfl)) ?_
  repeat (refine Plan.assign rfl rfl rfl rfl ?_)
  exact J.ret (Nrm.retCT (key := 1000) (q := 0) rfl (fun _ h => h) rfl rfl rfl obj_whole Try.underlying26 rfl (by kernel_rfl) fun B _ => ⟨_, _, rfl, rfl, Sub.refl _⟩)
end Go.Proofs.Ytfglecmimoeinaa
end

section
set_option linter.unusedSimpArgs false
set_option linter.unusedVariables false
set_option maxRecDepth 20000
namespace Go.Proofs.Ytfglecmimoeinaa
open Go.Free Go.RowKit Go.Proofs Go.Free.Sorts
set_option maxHeartbeats 8000000

theorem anchor_ok {items : List EvV} (h : ∀ e ∈ items, e.okV) (p : Int) : okD (anchorM items p).1 := by
  unfold anchorM
  have h0 : okD (0, 0) := ⟨by simp [in64], by simp [in64]⟩
  by_cases h1 : p < 0 ∨ p > items.length
  · rw [if_pos h1]; exact h0
  rw [if_neg h1]
  by_cases h2 : p = 0
  · rw [if_pos h2]; exact h0
  rw [if_neg h2]
  have hl : (p - 1).toNat < items.length := by omega
  have := h _ (List.getElem_mem hl)
  rw [getD_at hl]
  exact ⟨this.1, this.2.1⟩
theorem lawOrders (L : List EvV) (hl : L.length ≤ 9223372036854775807) (hok : ∀ e ∈ L, e.okV) (key : List UInt8) (p : Int) : Spc Try.prog 3 [row 26 (evsC L), .ex (str key), .ex (vi p)] fun _ => .ex (.bool true) := by
  refine Spc.intro Try.func3 rfl (Nat.le_of_ble_eq_true rfl) fun w0 => ?_
  have hI := hIb w0
  have hA := Own.below w0
  refine J.heap0 1000 (newB w0) ?_
  refine J.seq (J.region mixed hI (by kernel_rfl) ?_)
  repeat (refine Plan.assign rfl rfl rfl rfl ?_)
  refine J.seq (J.seq (J.region mixed hI (by kernel_rfl) ?_))
  refine Plan.call (B := w0.heap.size) rfl rfl rfl (awakeP_fn) Try.func9 rfl rfl (hBb w0) (by repeat (exact Opnds.nil)) ?_
  repeat (first | refine Plan.move rfl rfl rfl rfl ?_ | refine Plan.un rfl rfl rfl rfl rfl ?_)
  refine Plan.call (B := w0.heap.size) rfl rfl rfl (few_fn L hl hok) Try.func10 rfl rfl (hBb w0) (by repeat (first | exact Opnds.nil | refine Opnds.cons rfl (by exact Sub.old (fun _ h => h)) ?_)) ?_
  repeat (first | refine Plan.pick rfl rfl rfl rfl rfl ?_ | refine Plan.un rfl rfl rfl rfl rfl ?_)
  refine J.condND rfl (fun hf => ?_) (fun hf => ?_)
  · refine J.seq (J.region mixed hI (by kernel_rfl) ?_)
    refine Plan.call (B := w0.heap.size) rfl rfl rfl (awakeP_fn) Try.func9 rfl rfl (hBb w0) (by repeat (exact Opnds.nil)) ?_
    repeat (refine Plan.assign rfl rfl rfl rfl ?_)
    exact J.ret (Nrm.ret1 rfl (fun _ h => h) rfl fun B _ => Sub.refl _)
  have hl60 : L.length ≤ 60 := hf.1
  have hso : ∀ e ∈ orderM key L, e.okV := fun e he => hok e (order_node e he).1
  have hsi : ∀ e ∈ itemsM key L, e.okV := fun e he => hso e (List.mem_filter.1 he).1
  have hlo := order_len key L
  have hli := items_len key L
  obtain ⟨an, han⟩ : ∃ an, an = anchorM (itemsM key L) p := ⟨_, rfl⟩
  have hano : okD an.1 := by rw [han]; exact anchor_ok hsi p
  have c1 := anchor_fn L (by omega) hok key p
  have c2 := refAnchor_fn L (by omega) hok key p
  rw [← han] at c1 c2
  refine J.skip ?_
  refine J.seq (J.region mixed hI (by kernel_rfl) ?_)
  repeat (refine Plan.move rfl rfl rfl rfl ?_)
  refine Plan.call (B := w0.heap.size) rfl rfl rfl (c1) Try.func11 rfl rfl (hBb w0) (by repeat (first | exact Opnds.nil | refine Opnds.cons rfl (by first | exact Sub.refl _ | exact Sub.old (fun _ h => h)) ?_)) ?_
  repeat (first | refine Plan.move rfl rfl rfl rfl ?_ | refine Plan.extract rfl rfl rfl rfl rfl ?_)
  refine Plan.allocC (key := 1000) (z := aggD 0 0) rfl rfl rfl (by intro _ e; cases e; decide) (by kernel_rfl) rfl hA fun ξ => ?_
  refine Plan.storeC (key := 1000) (q := 0) (off := 0) rfl rfl rfl rfl rfl rfl (by simp [Value.cells, Value.oneCell']) (by kernel_rfl) rfl hA rfl (obj_pat (Nat.le_of_ble_eq_true rfl)) ?_
  repeat (refine Plan.assign rfl rfl rfl rfl ?_)
  refine J.seq (J.region mixed hI (by kernel_rfl) ?_)
  repeat (refine Plan.move rfl rfl rfl rfl ?_)
  refine Plan.call (B := w0.heap.size) rfl rfl rfl (c2) Try.func12 rfl rfl (hBb w0) (by repeat (first | exact Opnds.nil | refine Opnds.cons rfl (by first | exact Sub.refl _ | exact Sub.old (fun _ h => h)) ?_)) ?_
  repeat (first | refine Plan.move rfl rfl rfl rfl ?_ | refine Plan.extract rfl rfl rfl rfl rfl ?_)
  refine Plan.allocC (key := 1000) (z := aggD 0 0) rfl rfl rfl (by intro _ e; cases e; decide) (by kernel_rfl) rfl hA fun ζ => ?_
  refine Plan.storeC (key := 1000) (q := 1) (off := 0) rfl rfl rfl rfl rfl rfl (by simp [Value.cells, Value.oneCell']) (by kernel_rfl) rfl hA rfl (obj_pat (Nat.le_of_ble_eq_true rfl)) ?_
  repeat (refine Plan.assign rfl rfl rfl rfl ?_)
  refine J.seq (J.region mixed hI (by kernel_rfl) ?_)
  repeat (refine Plan.move rfl rfl rfl rfl ?_)
  refine Plan.call (B := w0.heap.size) rfl rfl rfl (order_fn L (by omega) hok key) Try.func14 rfl rfl (hBb w0) (by repeat (first | exact Opnds.nil | refine Opnds.cons rfl (by first | exact Sub.refl _ | exact Sub.old (fun _ h => h)) ?_)) ?_
  repeat (refine Plan.move rfl rfl rfl rfl ?_)
  refine Plan.call (B := w0.heap.size) rfl rfl rfl (refOrder_fn L (by omega) hok key) Try.func15 rfl rfl (hBb w0) (by repeat (first | exact Opnds.nil | refine Opnds.cons rfl (by first | exact Sub.refl _ | exact Sub.old (fun _ h => h)) ?_)) ?_
  refine Plan.call (B := w0.heap.size) rfl rfl rfl (sameE_fn (orderM key L) (by omega) hso) Try.func13 rfl rfl (hBb w0) (by repeat (first | exact Opnds.nil | refine Opnds.cons rfl (by exact Sub.own) ?_)) ?_
  repeat (refine Plan.move rfl rfl rfl rfl ?_)
  refine Plan.call (B := w0.heap.size) rfl rfl rfl (items_fn L (by omega) hok key) Try.func16 rfl rfl (hBb w0) (by repeat (first | exact Opnds.nil | refine Opnds.cons rfl (by first | exact Sub.refl _ | exact Sub.old (fun _ h => h)) ?_)) ?_
  repeat (refine Plan.move rfl rfl rfl rfl ?_)
  refine Plan.call (B := w0.heap.size) rfl rfl rfl (refItems_fn L (by omega) hok key) Try.func17 rfl rfl (hBb w0) (by repeat (first | exact Opnds.nil | refine Opnds.cons rfl (by first | exact Sub.refl _ | exact Sub.old (fun _ h => h)) ?_)) ?_
  refine Plan.call (B := w0.heap.size) rfl rfl rfl (sameE_fn (itemsM key L) (by omega) hsi) Try.func13 rfl rfl (hBb w0) (by repeat (first | exact Opnds.nil | refine Opnds.cons rfl (by exact Sub.own) ?_)) ?_
  repeat (first | refine Plan.move rfl rfl rfl rfl ?_ | refine Plan.pick rfl rfl rfl rfl rfl ?_)
  refine Plan.loadAggC (key := 1000) (q := 0) (vs := [vi an.1.1, vi an.1.2]) rfl rfl rfl rfl rfl rfl obj_whole Try.underlying26 rfl (by kernel_rfl) (by decide) ?_
  refine Plan.loadAggC (key := 1000) (q := 1) (vs := [vi an.1.1, vi an.1.2]) rfl rfl rfl rfl rfl rfl obj_whole Try.underlying26 rfl (by kernel_rfl) (by decide) ?_
  refine Plan.eqlDt an.1 an.1 rfl rfl rfl rfl rfl hano hano ?_
  refine Plan.boolv (y := true) (by simp) ?_
  repeat (first | refine Plan.move rfl rfl rfl rfl ?_ | refine Plan.assign rfl rfl rfl rfl ?_ | refine Plan.pick rfl rfl rfl rfl rfl ?_ | (refine Plan.ints rfl rfl rfl rfl rfl rfl ?_; (skip)))
  refine Plan.boolv (y := true) (by simp) ?_
  repeat (fail)
  exact J.ret (Nrm.ret1 rfl (fun _ h => h) rfl fun B _ => Sub.refl _)
theorem lawOrdersC (ls : List (List Value)) (key : List UInt8) (p : Int) (hl : ls.length ≤ 9223372036854775807) (hcs : ∀ c ∈ ls, CellsOk kdsEvent c) (_ : key.length ≤ 9223372036854775807) (_ : -9223372036854775808 ≤ p ∧ p ≤ 9223372036854775807) : Spc Try.prog 3 [row 26 ls.flatten, .ex (str key), .ex (vi p)] fun _ => .ex (.bool true) := by
  obtain ⟨es, h1, h2, h3⟩ := evs_of ls hcs
  rw [h2]
  exact lawOrders es (by omega) h3 key p
end Go.Proofs.Ytfglecmimoeinaa
end
