/-
  Laid together: RgaLaws, RgaAwake, RgaUnlike, RgaTurn, RgaLeaf, RgaEach, FreeSame, RgaRemoves.
-/
import Derived.Test.YtfglecmimoeinaaRRemG

section
set_option linter.unusedSimpArgs false
set_option linter.unusedVariables false
set_option maxRecDepth 20000
namespace Go.Proofs.Ytfglecmimoeinaa
open Go.Free Go.RowKit Go.Proofs Go.Free.Sorts
set_option maxHeartbeats 8000000

theorem formedEv (zs : Array Value) (h : zs.size = kdsEvent.length) : (Value.agg zs).formed Try.prog 41 = true := by
  have hc : Try.prog.cellsOf 41 = 26 := by kernel_rfl
  unfold Value.formed
  rw [Try.underlying41]
  simp only [hc, h]
  rfl
def seE (w0 : World) (L : List EvV) (i : Nat) : Env := [(0, old w0 (row 26 (evsC L))), (1, old w0 (row 26 (evsC L))), (12, .ex (vi L.length)), (13, .ex (vi i))]
theorem sameE_fn (L : List EvV) (hl : L.length ≤ 1000000) (hok : ∀ x ∈ L, x.okV) : Spc Try.prog 13 [row 26 (evsC L), row 26 (evsC L)] fun _ => .ex (.bool true) := by
  refine Spc.intro Try.func13 rfl (Nat.le_of_ble_eq_true rfl) fun w0 => ?_
  have hI := hIb w0
  repeat (first | refine Plan.move rfl rfl rfl rfl ?_ | refine Plan.assign rfl rfl rfl rfl ?_ | refine J.seq (J.region mixed hI (by kernel_rfl) ?_) | refine J.seq (J.seq (J.region mixed hI (by kernel_rfl) ?_)))
  refine Plan.lenRow (m := L.length) rfl rfl rfl rfl (Sub.old fun _ h => h) Try.underlying22 (by rw [evs_len]) (by decide) ?_
  repeat (refine Plan.move rfl rfl rfl rfl ?_)
  refine Plan.lenRow (m := L.length) rfl rfl rfl rfl (Sub.old fun _ h => h) Try.underlying22 (by rw [evs_len]) (by decide) ?_
  repeat ((refine Plan.ints rfl rfl rfl rfl rfl rfl ?_; (skip)))
  refine Plan.boolv (y := false) (by simp) ?_
  repeat (first | refine Plan.move rfl rfl rfl rfl ?_ | refine J.seq (J.seq (J.region mixed hI (by kernel_rfl) ?_)) | refine J.condF rfl ?_ | refine J.skip ?_)
  refine Plan.lenRow (m := L.length) rfl rfl rfl rfl (Sub.old fun _ h => h) Try.underlying22 (by rw [evs_len]) (by decide) ?_
  repeat (refine Plan.move rfl rfl rfl rfl ?_)
  refine J.block (J.loop (seE w0 L) (fun i => i ≤ L.length) (fun i => L.length - i) 0 (Nat.zero_le _) ?_ ?_)
  · repeat (first | exact Weak.nil | refine Weak.cons rfl (Sub.refl _) ?_)
  intro i hi
  repeat (first | (refine Plan.ints rfl rfl rfl rfl rfl rfl ?_; (skip)) | refine J.seq (J.region mixed hI (by kernel_rfl) ?_))
  refine J.seq (J.condD rfl (fun hc => ?_) (fun hc => ?_))
  · have hlt : i < L.length := by omega
    have hx : L[i]? = some L[i] := List.getElem?_eq_getElem hlt
    have hgd : L.getD i ev0 = L[i] := by rw [List.getD_eq_getElem?_getD, hx]; rfl
    have hki := hok _ (List.getElem_mem hlt)
    repeat (refine J.skip ?_)
    refine J.seq (J.block ?_)
    repeat (first | refine Plan.move rfl rfl rfl rfl ?_ | refine Plan.assign rfl rfl rfl rfl ?_ | refine J.seq (J.region mixed hI (by kernel_rfl) ?_))
    refine Plan.indexAddr EvV.enc 26 L ev0 rfl rfl rfl rfl (Sub.old fun _ h => h) rfl eltE encE (by omega) (by omega) ?_
    rw [Int.toNat_natCast, hgd]
    refine Plan.loadAggP rfl rfl rfl rfl (Sub.refl _) Try.underlying41 rfl (by rw [encE]; kernel_rfl) ?_
    repeat (refine Plan.move rfl rfl rfl rfl ?_)
    refine Plan.indexAddr EvV.enc 26 L ev0 rfl rfl rfl rfl (Sub.old fun _ h => h) rfl eltE encE (by omega) (by omega) ?_
    rw [Int.toNat_natCast, hgd]
    refine Plan.loadAggP rfl rfl rfl rfl (Sub.refl _) Try.underlying41 rfl (by rw [encE]; kernel_rfl) ?_
    refine Plan.eqAgg (m := 9) (l := kdsEvent) (xs := L[i].enc) (ys := L[i].enc) (r := true) (v := false) rfl rfl rfl rfl rfl (by decide) (by kernel_rfl) (by kernel_rfl) (by kernel_rfl) (enc_ok hki) (enc_ok hki) formedEv (by simp) (.inr ⟨rfl, rfl⟩) ?_
    repeat (first | refine Plan.move rfl rfl rfl rfl ?_ | (refine Plan.ints rfl rfl rfl rfl rfl rfl ?_; (refine Plan.int (i64r (by omega)) ?_)) | refine J.region mixed hI (by kernel_rfl) ?_ | refine J.condF rfl ?_ | refine J.skip ?_)
    refine Plan.int (y := ((i + 1 : Nat) : Int)) (by omega) ?_
    repeat (fail)
    exact Nrm.next (i + 1) (by omega) (by omega) (by repeat (first | exact Weak.nil | refine Weak.cons rfl (Sub.refl _) ?_))
  refine J.exit ?_
  repeat (first | refine Plan.assign rfl rfl rfl rfl ?_ | refine J.seq (J.region mixed hI (by kernel_rfl) ?_))
  exact J.ret (Nrm.ret1 rfl (fun _ h => h) rfl fun B _ => Sub.refl _)

def anchorM (items : List EvV) (p : Int) : (Int × Int) × Int := if p < 0 ∨ p > items.length then ((0, 0), 7) else if p = 0 then ((0, 0), 0) else (((items.getD (p - 1).toNat ev0).r, (items.getD (p - 1).toNat ev0).n), 0)
theorem items_len (key : List UInt8) (L : List EvV) : (itemsM key L).length ≤ L.length := Nat.le_trans (List.length_filter_le _ _) (order_len key L)
theorem anchor_fn (L : List EvV) (hl : L.length ≤ 1000000) (hok : ∀ e ∈ L, e.okV) (key : List UInt8) (p : Int) : Spc Try.prog 11 [row 26 (evsC L), .ex (str key), .ex (vi p)] fun _ => .tup [.ex (aggD (anchorM (itemsM key L) p).1.1 (anchorM (itemsM key L) p).1.2), .ex (vi (anchorM (itemsM key L) p).2)] := by
  refine Spc.intro Try.func11 rfl (Nat.le_of_ble_eq_true rfl) fun w0 => ?_
  have hI := hIb w0
  have hA := Own.below w0
  have hil := items_len key L
  refine J.heap0 1000 (newB w0) ?_
  refine J.seq (J.region mixed hI (by kernel_rfl) ?_)
  refine Plan.allocC (key := 1000) (z := aggD 0 0) rfl rfl rfl (by intro _ e; cases e; decide) (by kernel_rfl) rfl hA fun ξ => ?_
  repeat (refine Plan.assign rfl rfl rfl rfl ?_)
  refine J.seq (J.region mixed hI (by kernel_rfl) ?_)
  repeat (refine Plan.move rfl rfl rfl rfl ?_)
  refine Plan.call (B := w0.heap.size) rfl rfl rfl (items_fn L hl hok key) Try.func16 rfl rfl (hBb w0) (by repeat (first | exact Opnds.nil | refine Opnds.cons rfl (by first | exact Sub.refl _ | exact Sub.old (fun _ h => h)) ?_)) ?_
  repeat (refine Plan.assign rfl rfl rfl rfl ?_)
  obtain ⟨items, hit⟩ : ∃ items, items = itemsM key L := ⟨_, rfl⟩
  rw [← hit] at hil ⊢
  refine J.seq (J.block ?_)
  refine J.seq (J.region mixed hI (by kernel_rfl) ?_)
  repeat (first | refine Plan.move rfl rfl rfl rfl ?_ | (refine Plan.ints rfl rfl rfl rfl rfl rfl ?_; (skip)))
  by_cases h1 : p < 0
  · refine Plan.boolv (y := true) (decide_eq_true h1) ?_
    repeat (first | refine Plan.assign rfl rfl rfl rfl ?_ | refine Plan.skip rfl rfl ?_ | refine Plan.pick rfl rfl rfl rfl rfl ?_)
    refine J.condT rfl ?_
    have ha : anchorM items p = ((0, 0), 7) := by unfold anchorM; rw [if_pos (.inl h1)]
    rw [ha]
    refine J.seq (J.region mixed hI (by kernel_rfl) ?_)
    refine Plan.build (cells := #[vi 0, vi 0]) rfl rfl (ps := []) rfl Parts.nil (by kernel_rfl) ?_
    refine Plan.storeC (key := 1000) (q := 0) (off := 0) rfl rfl rfl rfl rfl rfl (by simp [Value.cells, Value.oneCell']) (by kernel_rfl) rfl hA rfl (obj_pat (Nat.le_of_ble_eq_true rfl)) ?_
    repeat (refine Plan.assign rfl rfl rfl rfl ?_)
    exact J.ret (Nrm.retCT (key := 1000) (q := 0) rfl (fun _ h => h) rfl rfl rfl obj_whole Try.underlying26 rfl (by kernel_rfl) fun B _ => ⟨_, _, rfl, rfl, Sub.refl _⟩)
  refine Plan.boolv (y := false) (decide_eq_false h1) ?_
  repeat (refine Plan.move rfl rfl rfl rfl ?_)
  refine Plan.lenRow (m := items.length) rfl rfl rfl rfl Sub.own Try.underlying22 (by rw [evs_len]) (by decide) ?_
  repeat (first | refine Plan.assign rfl rfl rfl rfl ?_ | refine Plan.pick rfl rfl rfl rfl rfl ?_ | (refine Plan.ints rfl rfl rfl rfl rfl rfl ?_; (skip)))
  by_cases h2 : p > items.length
  · refine Plan.boolv (y := true) (decide_eq_true h2) ?_
    repeat (fail)
    refine J.condT rfl ?_
    have ha : anchorM items p = ((0, 0), 7) := by unfold anchorM; rw [if_pos (.inr h2)]
    rw [ha]
    refine J.seq (J.region mixed hI (by kernel_rfl) ?_)
    refine Plan.build (cells := #[vi 0, vi 0]) rfl rfl (ps := []) rfl Parts.nil (by kernel_rfl) ?_
    refine Plan.storeC (key := 1000) (q := 0) (off := 0) rfl rfl rfl rfl rfl rfl (by simp [Value.cells, Value.oneCell']) (by kernel_rfl) rfl hA rfl (obj_pat (Nat.le_of_ble_eq_true rfl)) ?_
    repeat (refine Plan.assign rfl rfl rfl rfl ?_)
    exact J.ret (Nrm.retCT (key := 1000) (q := 0) rfl (fun _ h => h) rfl rfl rfl obj_whole Try.underlying26 rfl (by kernel_rfl) fun B _ => ⟨_, _, rfl, rfl, Sub.refl _⟩)
  refine Plan.boolv (y := false) (decide_eq_false h2) ?_
  repeat (fail)
  refine J.condF rfl ?_
  refine J.seq (J.region mixed hI (by kernel_rfl) ?_)
  repeat (first | refine Plan.move rfl rfl rfl rfl ?_ | refine Plan.assign rfl rfl rfl rfl ?_ | (refine Plan.ints rfl rfl rfl rfl rfl rfl ?_; (skip)))
  by_cases h3 : p = 0
  · refine Plan.boolv (y := true) (decide_eq_true h3) ?_
    repeat (fail)
    refine J.condT rfl ?_
    have ha : anchorM items p = ((0, 0), 0) := by unfold anchorM; rw [if_neg (by omega), if_pos h3]
    rw [ha]
    refine J.seq (J.region mixed hI (by kernel_rfl) ?_)
    refine Plan.build (cells := #[vi 0, vi 0]) rfl rfl (ps := []) rfl Parts.nil (by kernel_rfl) ?_
    refine Plan.storeC (key := 1000) (q := 0) (off := 0) rfl rfl rfl rfl rfl rfl (by simp [Value.cells, Value.oneCell']) (by kernel_rfl) rfl hA rfl (obj_pat (Nat.le_of_ble_eq_true rfl)) ?_
    repeat (refine Plan.assign rfl rfl rfl rfl ?_)
    exact J.ret (Nrm.retCT (key := 1000) (q := 0) rfl (fun _ h => h) rfl rfl rfl obj_whole Try.underlying26 rfl (by kernel_rfl) fun B _ => ⟨_, _, rfl, rfl, Sub.refl _⟩)
  refine Plan.boolv (y := false) (decide_eq_false h3) ?_
  repeat (fail)
  refine J.condF rfl ?_
  refine J.skip ?_
  have ha : anchorM items p = (((items.getD (p - 1).toNat ev0).r, (items.getD (p - 1).toNat ev0).n), 0) := by unfold anchorM; rw [if_neg (by omega), if_neg h3]
  rw [ha]
  refine J.seq (J.region mixed hI (by kernel_rfl) ?_)
  repeat (first | refine Plan.move rfl rfl rfl rfl ?_ | (refine Plan.ints rfl rfl rfl rfl rfl rfl ?_; (refine Plan.int (i64r (by omega)) ?_)))
  refine Plan.int (y := p - 1) (by omega) ?_
  refine Plan.indexAddr EvV.enc 26 items ev0 rfl rfl rfl rfl Sub.own rfl eltE encE (by omega) (by omega) ?_
  refine Plan.fieldPtr (us := [vi (items.getD (p - 1).toNat ev0).r, vi (items.getD (p - 1).toNat ev0).n]) rfl rfl rfl rfl (Sub.refl _) Try.underlying41 rfl (by kernel_rfl) rfl ?_
  refine Plan.loadAggP rfl rfl rfl rfl (Sub.refl _) Try.underlying26 rfl (by kernel_rfl) ?_
  refine Plan.storeC (key := 1000) (q := 0) (off := 0) rfl rfl rfl rfl rfl rfl (by simp [Value.cells, Value.oneCell']) (by kernel_rfl) rfl hA rfl (obj_pat (Nat.le_of_ble_eq_true rfl)) ?_
  repeat (refine Plan.assign rfl rfl rfl rfl ?_)
  exact J.ret (Nrm.retCT (key := 1000) (q := 0) rfl (fun _ h => h) rfl rfl rfl obj_whole Try.underlying26 rfl (by kernel_rfl) fun B _ => ⟨_, _, rfl, rfl, Sub.refl _⟩)
end Go.Proofs.Ytfglecmimoeinaa
end

section
set_option linter.unusedSimpArgs false
set_option linter.unusedVariables false
set_option maxRecDepth 20000
namespace Go.Proofs.Ytfglecmimoeinaa
open Go.Free Go.RowKit Go.Proofs Go.Free.Sorts
set_option maxHeartbeats 8000000

def evP : EvV := ⟨0, 1, 0, fun _ => 0, 9, [107], [], [], 0, 0, 0⟩
theorem evP_ok : evP.okV := by refine ⟨?_, ?_, ?_, fun i _ => ?_, ?_, ?_, ?_, ?_, ?_, ?_, ?_⟩ <;> simp [evP, in64]
theorem evP_order : orderM [107] [evP] = [evP] := by
  have h1 : nodesM [107] [evP] = [evP] := by unfold nodesM; rw [List.filter_cons_of_pos (by simp [evP])]; rfl
  unfold orderM
  rw [h1]
  have hp : parM [evP] evP = none := by unfold parM; rw [if_pos ⟨rfl, rfl⟩]
  have h2 : kidsM [evP] none = [0] := by
    unfold kidsM
    have : List.range [evP].length = [0] := rfl
    rw [this, List.filter_cons_of_pos (by simp [hp])]; rfl
  have h3 : kidsM [evP] (some 0) = [] := by
    unfold kidsM
    have : List.range [evP].length = [0] := rfl
    rw [this, List.filter_cons_of_neg (by simp [hp])]; rfl
  show List.map _ (undM [evP] 2 none) = _
  have h4 : undM [evP] 1 (some 0) = [] := by
    show List.flatMap _ (sortK _ (kidsM [evP] (some 0))) = _
    rw [h3]; unfold sortK; rw [List.mergeSort_nil]; rfl
  show List.map _ (List.flatMap _ (sortK _ (kidsM [evP] none))) = _
  rw [h2]
  unfold sortK
  rw [List.mergeSort_singleton, List.flatMap_cons, h4]
  rfl
theorem evP_items : itemsM [107] [evP] = [evP] := by
  unfold itemsM
  rw [evP_order]
  have : endedB [evP] evP = false := by
    unfold endedB
    simp [endsP, evP]
  unfold keepE
  rw [List.filter_cons_of_pos (by rw [this]; rfl)]
  rfl
theorem flat_ev (e : EvV) : flat [.agg e.enc.toArray] = evsC [e] := by simp [flat, Value.cells]
theorem awakeP_fn : Spc Try.prog 9 [] fun _ => .ex (.bool true) := by
  refine Spc.intro Try.func9 rfl (Nat.le_of_ble_eq_true rfl) fun w0 => ?_
  have hI := hIb w0
  have hA := Own.below w0
  have hok : ∀ e ∈ [evP], e.okV := fun e he => by rw [List.mem_singleton.1 he]; exact evP_ok
  have han := anchor_fn [evP] (by decide) hok [107] 1
  have hae : anchorM (itemsM [107] [evP]) 1 = ((0, 1), 0) := by rw [evP_items]; decide
  rw [hae] at han
  have hor := order_fn [evP] (by decide) hok [107]
  rw [evP_order] at hor
  refine J.heap0 1000 (newB w0) ?_
  refine J.seq (J.region mixed hI (by kernel_rfl) ?_)
  repeat (refine Plan.assign rfl rfl rfl rfl ?_)
  refine J.seq (J.region mixed hI (by kernel_rfl) ?_)
  refine Plan.build (cells := #[vi 0, vi 1]) rfl rfl (ps := [(1, _)]) rfl (Parts.cons rfl Parts.nil) (by kernel_rfl) ?_
  refine Plan.build (cells := evP.op.toArray) rfl rfl (ps := [(0, _), (1, _)]) rfl (Parts.cons rfl (Parts.cons rfl Parts.nil)) (by kernel_rfl) ?_
  refine Plan.build (cells := evP.enc.toArray) rfl rfl (ps := [(0, _), (3, _)]) rfl (Parts.cons rfl (Parts.cons rfl Parts.nil)) (by kernel_rfl) ?_
  refine Plan.litC (key := 1000) (vs := [aggE evP]) rfl rfl rfl eltE rfl (by intro _ e; cases e; decide) rfl hA rfl (by simp [Value.cells, EvV.enc]) (by decide) fun B m cap hm => ?_
  rw [flat_ev evP]
  repeat (refine Plan.assign rfl rfl rfl rfl ?_)
  refine J.seq (J.region mixed hI (by kernel_rfl) ?_)
  repeat (refine Plan.move rfl rfl rfl rfl ?_)
  refine Plan.seeC (t := 9) (key := 1000) (q := 0) (xs := evsC [evP]) (by kernel_rfl) hI rfl rfl rfl (fun w F hh => row_rowH hh) ?_
  refine Plan.call (B := w0.heap.size) rfl rfl rfl han Try.func11 rfl rfl (hBb w0) (by repeat (first | exact Opnds.nil | refine Opnds.cons rfl (by exact Sub.refl _) ?_)) ?_
  repeat (first | refine Plan.move rfl rfl rfl rfl ?_ | refine Plan.extract rfl rfl rfl rfl rfl ?_)
  refine Plan.allocC (key := 1000) (z := aggD 0 0) rfl rfl rfl (by intro _ e; cases e; decide) (by kernel_rfl) rfl hA fun ξ => ?_
  refine Plan.storeC (key := 1000) (q := 1) (off := 0) rfl rfl rfl rfl rfl rfl (by simp [Value.cells, Value.oneCell']) (by kernel_rfl) rfl hA rfl (obj_pat (Nat.le_of_ble_eq_true rfl)) ?_
  repeat (refine Plan.assign rfl rfl rfl rfl ?_)
  refine J.seeC (t := 1) (key := 1000) (q := 0) rfl rfl rfl (fun w F h => row_rowH h) ?_
  refine J.seq (J.region mixed hI (by kernel_rfl) ?_)
  repeat (refine Plan.move rfl rfl rfl rfl ?_)
  refine Plan.call (B := w0.heap.size) rfl rfl rfl hor Try.func14 rfl rfl (hBb w0) (by repeat (first | exact Opnds.nil | refine Opnds.cons rfl (by exact Sub.refl _) ?_)) ?_
  refine Plan.lenRow (m := 1) rfl rfl rfl rfl Sub.own Try.underlying22 rfl (by decide) ?_
  repeat (first | refine Plan.move rfl rfl rfl rfl ?_ | (refine Plan.ints rfl rfl rfl rfl rfl rfl ?_; (skip)))
  refine Plan.boolv (y := true) (by decide) ?_
  repeat (fail)
  refine Plan.loadAggC (key := 1000) (q := 1) (vs := [vi 0, vi 1]) rfl rfl rfl rfl rfl rfl obj_whole Try.underlying26 rfl (by kernel_rfl) (by decide) ?_
  repeat (refine Plan.move rfl rfl rfl rfl ?_)
  refine Plan.indexAddr EvV.enc 26 [evP] ev0 rfl rfl rfl rfl (Sub.refl _) rfl eltE encE (by omega) (by decide) ?_
  refine Plan.fieldPtr (us := [vi 0, vi 1]) rfl rfl rfl rfl (Sub.refl _) Try.underlying41 rfl (by kernel_rfl) rfl ?_
  refine Plan.loadAggP rfl rfl rfl rfl (Sub.refl _) Try.underlying26 rfl (by kernel_rfl) ?_
  refine Plan.eqlDt (0, 1) (0, 1) rfl rfl rfl rfl rfl ⟨by simp [in64], by simp [in64]⟩ ⟨by simp [in64], by simp [in64]⟩ ?_
  refine Plan.boolv (y := true) (by decide) ?_
  repeat (first | refine Plan.move rfl rfl rfl rfl ?_ | refine Plan.assign rfl rfl rfl rfl ?_ | refine Plan.pick rfl rfl rfl rfl rfl ?_ | (refine Plan.ints rfl rfl rfl rfl rfl rfl ?_; (skip)))
  refine Plan.boolv (y := true) (by decide) ?_
  repeat (fail)
  exact J.ret (Nrm.ret1 rfl (fun _ h => h) rfl fun B _ => Sub.refl _)
def fewP (L : List EvV) : Prop := L.length ≤ 60 ∧ ∀ e ∈ L, e.key.length ≤ 1000
instance (L : List EvV) : Decidable (fewP L) := by unfold fewP; infer_instance
def feE (w0 : World) (L : List EvV) (i : Nat) : Env := [(0, old w0 (row 26 (evsC L))), (8, .ex (vi L.length)), (9, .ex (vi i))]
theorem few_fn (L : List EvV) (hl : L.length ≤ 9223372036854775807) (hok : ∀ e ∈ L, e.okV) : Spc Try.prog 10 [row 26 (evsC L)] fun _ => .ex (.bool (decide (fewP L))) := by
  refine Spc.intro Try.func10 rfl (Nat.le_of_ble_eq_true rfl) fun w0 => ?_
  have hI := hIb w0
  refine J.seq (J.region mixed hI (by kernel_rfl) ?_)
  repeat (refine Plan.assign rfl rfl rfl rfl ?_)
  refine J.seq (J.seq (J.region mixed hI (by kernel_rfl) ?_))
  repeat (refine Plan.move rfl rfl rfl rfl ?_)
  refine Plan.lenRow (m := L.length) rfl rfl rfl rfl (Sub.old fun _ h => h) Try.underlying22 (by rw [evs_len]) (by decide) ?_
  repeat ((refine Plan.ints rfl rfl rfl rfl rfl rfl ?_; (skip)))
  refine J.condD rfl (fun h1 => ?_) (fun h1 => ?_)
  · refine J.seq (J.region mixed hI (by kernel_rfl) ?_)
    repeat (refine Plan.assign rfl rfl rfl rfl ?_)
    rw [decide_eq_false (show ¬ fewP L from fun h => by have := h.1; omega)]
    exact J.ret (Nrm.ret1 rfl (fun _ h => h) rfl fun B _ => Sub.refl _)
  refine J.skip ?_
  refine J.seq (J.seq (J.region mixed hI (by kernel_rfl) ?_))
  repeat (refine Plan.move rfl rfl rfl rfl ?_)
  refine Plan.lenRow (m := L.length) rfl rfl rfl rfl (Sub.old fun _ h => h) Try.underlying22 (by rw [evs_len]) (by decide) ?_
  repeat (refine Plan.move rfl rfl rfl rfl ?_)
  refine J.block (J.loop (feE w0 L) (fun i => i ≤ L.length ∧ ∀ j (hj : j < L.length), j < i → L[j].key.length ≤ 1000) (fun i => L.length - i) 0 ⟨Nat.zero_le _, fun j _ h => by omega⟩ ?_ ?_)
  · repeat (first | exact Weak.nil | refine Weak.cons rfl (Sub.refl _) ?_)
  rintro i ⟨hi, hall⟩
  refine J.seq (J.region mixed hI (by kernel_rfl) ?_)
  repeat ((refine Plan.ints rfl rfl rfl rfl rfl rfl ?_; (skip)))
  refine J.seq (J.condD rfl (fun hc => ?_) (fun hc => ?_))
  · have hlt : i < L.length := by omega
    have hki := hok _ (List.getElem_mem hlt)
    have hkl := hki.2.2.2.2.2.1
    refine J.skip ?_
    refine J.seq (J.block ?_)
    refine J.seq (J.region mixed hI (by kernel_rfl) ?_)
    repeat (first | refine Plan.move rfl rfl rfl rfl ?_ | refine Plan.assign rfl rfl rfl rfl ?_)
    refine J.seq (J.region mixed hI (by kernel_rfl) ?_)
    repeat (refine Plan.move rfl rfl rfl rfl ?_)
    refine Plan.indexAddr EvV.enc 26 L ev0 rfl rfl rfl rfl (Sub.old fun _ h => h) rfl eltE encE (by omega) (by omega) ?_
    rw [Int.toNat_natCast, getD_at hlt]
    refine Plan.fieldPtr (us := L[i].op) rfl rfl rfl rfl (Sub.refl _) Try.underlying41 rfl (by kernel_rfl) rfl ?_
    refine Plan.fieldPtr (us := [str L[i].key]) rfl rfl rfl rfl (Sub.refl _) Try.underlying39 rfl (by kernel_rfl) rfl ?_
    refine Plan.load rfl rfl rfl rfl (Sub.refl _) Try.underlying9 rfl ?_
    repeat (first | refine Plan.lenStr rfl rfl rfl rfl Try.underlying9 ?_ | (refine Plan.ints rfl rfl rfl rfl rfl rfl ?_; (skip)))
    refine J.condD rfl (fun h2 => ?_) (fun h2 => ?_)
    · refine J.seq (J.region mixed hI (by kernel_rfl) ?_)
      repeat (refine Plan.assign rfl rfl rfl rfl ?_)
      rw [decide_eq_false (show ¬ fewP L from fun h => by have := h.2 _ (List.getElem_mem hlt); omega)]
      exact J.ret (Nrm.ret1 rfl (fun _ h => h) rfl fun B _ => Sub.refl _)
    refine J.skip ?_
    refine J.region mixed hI (by kernel_rfl) ?_
    repeat (first | refine Plan.move rfl rfl rfl rfl ?_ | (refine Plan.ints rfl rfl rfl rfl rfl rfl ?_; (refine Plan.int (i64r (by omega)) ?_)))
    refine Plan.int (y := ((i + 1 : Nat) : Int)) (by omega) ?_
    repeat (fail)
    refine Nrm.next (i + 1) ⟨hlt, fun j hj hji => ?_⟩ (by omega) (by repeat (first | exact Weak.nil | refine Weak.cons rfl (Sub.refl _) ?_))
    by_cases hj2 : j < i
    · exact hall j hj hj2
    · have : j = i := by omega
      subst this; omega
  have hie : i = L.length := by omega
  subst hie
  refine J.exit ?_
  refine J.seq (J.region mixed hI (by kernel_rfl) ?_)
  repeat (refine Plan.assign rfl rfl rfl rfl ?_)
  rw [decide_eq_true (show fewP L from ⟨by omega, fun e he => by obtain ⟨j, hj, rfl⟩ := List.getElem_of_mem he; exact hall j hj hj⟩)]
  exact J.ret (Nrm.ret1 rfl (fun _ h => h) rfl fun B _ => Sub.refl _)
end Go.Proofs.Ytfglecmimoeinaa
end

section
set_option linter.unusedSimpArgs false
set_option linter.unusedVariables false
set_option maxRecDepth 20000
namespace Go.Proofs.Ytfglecmimoeinaa
open Go.Free Go.RowKit Go.Proofs Go.Free.Sorts
set_option maxHeartbeats 8000000

instance (L : List EvV) : Decidable (unlikeM L) := by unfold unlikeM; infer_instance
def ulE (w0 : World) (L : List EvV) (i : Nat) : Env := [(0, old w0 (row 26 (evsC L))), (6, .ex (vi L.length)), (7, .ex (vi i))]
def ulK (w0 : World) (L : List EvV) (i k : Nat) : Env := [(0, old w0 (row 26 (evsC L))), (6, .ex (vi L.length)), (7, .ex (vi i)), (3, .ex (vi i)), (4, .ex (vi k))]
theorem unlike_fn (L : List EvV) (hl : L.length ≤ 1000000) (hok : ∀ e ∈ L, e.okV) : Spc Try.prog 18 [row 26 (evsC L)] fun _ => .ex (.bool (decide (unlikeM L))) := by
  refine Spc.intro Try.func18 rfl (Nat.le_of_ble_eq_true rfl) fun w0 => ?_
  have hI := hIb w0
  refine J.seq (J.region mixed hI (by kernel_rfl) ?_)
  repeat (refine Plan.assign rfl rfl rfl rfl ?_)
  refine J.seq (J.seq (J.region mixed hI (by kernel_rfl) ?_))
  repeat (refine Plan.move rfl rfl rfl rfl ?_)
  refine Plan.lenRow (m := L.length) rfl rfl rfl rfl (Sub.old fun _ h => h) Try.underlying22 (by rw [evs_len]) (by decide) ?_
  repeat (refine Plan.move rfl rfl rfl rfl ?_)
  refine J.block (J.loop (ulE w0 L) (fun i => i ≤ L.length ∧ ∀ i' (hi : i' < L.length), i' < i → ∀ k (hk : k < i'), dotOf L[k] ≠ dotOf L[i']) (fun i => L.length - i) 0 ⟨Nat.zero_le _, fun i' _ h => by omega⟩ ?_ ?_)
  · repeat (first | exact Weak.nil | refine Weak.cons rfl (Sub.refl _) ?_)
  rintro i ⟨hi, hall⟩
  refine J.seq (J.region mixed hI (by kernel_rfl) ?_)
  repeat ((refine Plan.ints rfl rfl rfl rfl rfl rfl ?_; (skip)))
  refine J.seq (J.condD rfl (fun hc => ?_) (fun hc => ?_))
  · have hlt : i < L.length := by omega
    have hx := hok _ (List.getElem_mem hlt)
    refine J.skip ?_
    refine J.seq (J.block ?_)
    refine J.seq (J.region mixed hI (by kernel_rfl) ?_)
    repeat (first | refine Plan.move rfl rfl rfl rfl ?_ | refine Plan.assign rfl rfl rfl rfl ?_)
    refine J.seq (J.region mixed hI (by kernel_rfl) ?_)
    repeat (refine Plan.assign rfl rfl rfl rfl ?_)
    refine J.block (J.loop (ulK w0 L i) (fun k => k ≤ i ∧ ∀ k' (hk : k' < L.length), k' < k → dotOf L[k'] ≠ dotOf L[i]) (fun k => i - k) 0 ⟨Nat.zero_le _, fun k' _ h => by omega⟩ ?_ ?_)
    · repeat (first | exact Weak.nil | refine Weak.cons rfl (Sub.refl _) ?_)
    rintro k ⟨hk, hallk⟩
    refine J.seq (J.seq (J.region mixed hI (by kernel_rfl) ?_))
    repeat (first | refine Plan.move rfl rfl rfl rfl ?_ | (refine Plan.ints rfl rfl rfl rfl rfl rfl ?_; (skip)))
    refine J.condD rfl (fun hc2 => ?_) (fun hc2 => ?_)
    · have hkl : k < L.length := by omega
      have hy := hok _ (List.getElem_mem hkl)
      refine J.skip ?_
      refine J.seq (J.block ?_)
      refine J.seq (J.region mixed hI (by kernel_rfl) ?_)
      repeat (refine Plan.move rfl rfl rfl rfl ?_)
      refine Plan.indexAddr EvV.enc 26 L ev0 rfl rfl rfl rfl (Sub.old fun _ h => h) rfl eltE encE (by omega) (by omega) ?_
      rw [Int.toNat_natCast, getD_at hlt]
      refine Plan.fieldPtr (us := [vi L[i].r, vi L[i].n]) rfl rfl rfl rfl (Sub.refl _) Try.underlying41 rfl (by kernel_rfl) rfl ?_
      refine Plan.loadAggP rfl rfl rfl rfl (Sub.refl _) Try.underlying26 rfl (by kernel_rfl) ?_
      repeat (refine Plan.move rfl rfl rfl rfl ?_)
      refine Plan.indexAddr EvV.enc 26 L ev0 rfl rfl rfl rfl (Sub.old fun _ h => h) rfl eltE encE (by omega) (by omega) ?_
      rw [Int.toNat_natCast, getD_at hkl]
      refine Plan.fieldPtr (us := [vi L[k].r, vi L[k].n]) rfl rfl rfl rfl (Sub.refl _) Try.underlying41 rfl (by kernel_rfl) rfl ?_
      refine Plan.loadAggP rfl rfl rfl rfl (Sub.refl _) Try.underlying26 rfl (by kernel_rfl) ?_
      refine Plan.eqlDt (L[i].r, L[i].n) (L[k].r, L[k].n) rfl rfl rfl rfl rfl ⟨hx.1, hx.2.1⟩ ⟨hy.1, hy.2.1⟩ ?_
      refine J.condD rfl (fun hd => ?_) (fun hd => ?_)
      · refine J.seq (J.region mixed hI (by kernel_rfl) ?_)
        repeat (refine Plan.assign rfl rfl rfl rfl ?_)
        rw [decide_eq_false (show ¬ unlikeM L from fun h => by
          have := List.pairwise_iff_getElem.1 h k i hkl hlt (by omega)
          exact this hd.symm)]
        exact J.ret (Nrm.ret1 rfl (fun _ h => h) rfl fun B _ => Sub.refl _)
      · refine J.skip ?_
        refine J.region mixed hI (by kernel_rfl) ?_
        repeat (first | refine Plan.move rfl rfl rfl rfl ?_ | refine Plan.assign rfl rfl rfl rfl ?_ | (refine Plan.ints rfl rfl rfl rfl rfl rfl ?_; (refine Plan.int (i64r (by omega)) ?_)))
        refine Plan.int (y := ((k + 1 : Nat) : Int)) (by omega) ?_
        repeat (fail)
        refine Nrm.next (k + 1) ⟨by omega, fun k' hk' hkk => ?_⟩ (by omega) (by repeat (first | exact Weak.nil | refine Weak.cons rfl (Sub.refl _) ?_))
        by_cases hj2 : k' < k
        · exact hallk k' hk' hj2
        · have : k' = k := by omega
          subst this; exact fun e => hd e.symm
    · have hke : k = i := by omega
      subst hke
      refine J.exit ?_
      refine J.region mixed hI (by kernel_rfl) ?_
      repeat (first | refine Plan.move rfl rfl rfl rfl ?_ | (refine Plan.ints rfl rfl rfl rfl rfl rfl ?_; (refine Plan.int (i64r (by omega)) ?_)))
      refine Plan.int (y := ((k + 1 : Nat) : Int)) (by omega) ?_
      repeat (fail)
      refine Nrm.next (k + 1) ⟨by omega, fun i' hi' hik k' hk' => ?_⟩ (by omega) (by repeat (first | exact Weak.nil | refine Weak.cons rfl (Sub.refl _) ?_))
      by_cases hj2 : i' < k
      · exact hall i' hi' hj2 k' hk'
      · have : i' = k := by omega
        subst this; exact hallk k' (by omega) hk'
  have hie : i = L.length := by omega
  subst hie
  refine J.exit ?_
  refine J.seq (J.region mixed hI (by kernel_rfl) ?_)
  repeat (refine Plan.assign rfl rfl rfl rfl ?_)
  rw [decide_eq_true (show unlikeM L from List.pairwise_iff_getElem.2 fun k i hk hi hki => hall i hi hi k hki)]
  exact J.ret (Nrm.ret1 rfl (fun _ h => h) rfl fun B _ => Sub.refl _)
end Go.Proofs.Ytfglecmimoeinaa
end

section
set_option linter.unusedSimpArgs false
set_option linter.unusedVariables false
set_option maxRecDepth 20000
namespace Go.Proofs.Ytfglecmimoeinaa
open Go.Free Go.RowKit Go.Proofs Go.Free.Sorts
theorem order_dots {key : List UInt8} {L : List EvV} (hu : unlikeM L) {K : Nat} (hK : (nodesM key L).length < K) : orderM key L = undD (nodesM key L) K none := by
  unfold orderM
  have hm := mu_le (nodesM key L) none
  rw [und_enough ((nodesM key L).length + 1) K none (by omega) (by omega)]
  exact und_events (unlike_filter hu _) K none (fun i h => by cases h)
theorem order_mem {key : List UInt8} {L M : List EvV} (hl : unlikeM L) (hm : unlikeM M) (h : ∀ v, v ∈ L ↔ v ∈ M) : orderM key L = orderM key M := by
  rw [order_dots hl (K := (nodesM key L).length + (nodesM key M).length + 1) (by omega), order_dots hm (K := (nodesM key L).length + (nodesM key M).length + 1) (by omega)]
  refine undD_mem (unlike_filter hl _) (unlike_filter hm _) (fun v => ?_) _ _
  first | (unfold nodesM; rw [List.mem_filter, List.mem_filter, h v]) | rw [List.mem_filter, List.mem_filter, h v]
theorem ended_mem {L M : List EvV} (h : ∀ v, v ∈ L ↔ v ∈ M) (a : EvV) : endedB L a = endedB M a := by
  unfold endedB
  rw [Bool.eq_iff_iff, List.any_eq_true, List.any_eq_true]
  exact ⟨fun ⟨b, h1, h2⟩ => ⟨b, (h b).1 h1, h2⟩, fun ⟨b, h1, h2⟩ => ⟨b, (h b).2 h1, h2⟩⟩
theorem items_mem {key : List UInt8} {L M : List EvV} (hl : unlikeM L) (hm : unlikeM M) (h : ∀ v, v ∈ L ↔ v ∈ M) : itemsM key L = itemsM key M := by
  unfold itemsM
  rw [order_mem hl hm h, show endedB L = endedB M from funext fun a => ended_mem h a]
def turned (es : List EvV) (k : Nat) (j : Nat) : List EvV := (List.range j).map fun q => es.getD ((es.length - 1 - q + k) % es.length) ev0
theorem turned_succ (es : List EvV) (k j : Nat) : turned es k (j + 1) = turned es k j ++ [es.getD ((es.length - 1 - j + k) % es.length) ev0] := by simp [turned, List.range_succ]
theorem turned_len (es : List EvV) (k j : Nat) : (turned es k j).length = j := by simp [turned]
theorem turned_mem {es : List EvV} {k : Nat} (hk : k < es.length) (x : EvV) : x ∈ es ↔ x ∈ turned es k es.length := by
  unfold turned
  rw [List.mem_map]
  constructor
  · intro hx
    obtain ⟨p, hp⟩ := List.getElem?_of_mem hx
    have hpl : p < es.length := (List.getElem?_eq_some_iff.1 hp).1
    by_cases hkp : k ≤ p
    · refine ⟨es.length - 1 + k - p, List.mem_range.2 (by omega), ?_⟩
      rw [show es.length - 1 - (es.length - 1 + k - p) + k = p by omega, Nat.mod_eq_of_lt hpl, List.getD_eq_getElem?_getD, hp]; rfl
    · refine ⟨k - 1 - p, List.mem_range.2 (by omega), ?_⟩
      rw [show es.length - 1 - (k - 1 - p) + k = p + es.length by omega, Nat.add_mod_right, Nat.mod_eq_of_lt hpl, List.getD_eq_getElem?_getD, hp]; rfl
  · rintro ⟨q, hq, rfl⟩
    have hl : (es.length - 1 - q + k) % es.length < es.length := Nat.mod_lt _ (by omega)
    rw [List.getD_eq_getElem?_getD, List.getElem?_eq_getElem hl]
    exact List.getElem_mem hl
theorem mod2 {a n : Nat} (h : a < n + n) : a % n = if a < n then a else a - n := by
  split
  · exact Nat.mod_eq_of_lt (by assumption)
  · rw [Nat.mod_eq_sub_mod (by omega), Nat.mod_eq_of_lt (by omega)]
theorem turned_unlike {es : List EvV} {k : Nat} (hk : k < es.length) (hu : unlikeM es) : unlikeM (turned es k es.length) := by
  unfold turned unlikeM
  rw [List.pairwise_map]
  have hr : (List.range es.length).Pairwise (fun i j => i < j ∧ i < es.length ∧ j < es.length) := by
    rw [List.pairwise_iff_getElem]
    intro i j hi hj hij
    simp only [List.getElem_range]
    exact ⟨hij, by simpa using hi, by simpa using hj⟩
  refine hr.imp fun {i j} ⟨h1, h2, h3⟩ => ?_
  have ha : (es.length - 1 - i + k) % es.length < es.length := Nat.mod_lt _ (by omega)
  have hb : (es.length - 1 - j + k) % es.length < es.length := Nat.mod_lt _ (by omega)
  have hne : (es.length - 1 - i + k) % es.length ≠ (es.length - 1 - j + k) % es.length := by
    rw [mod2 (a := es.length - 1 - i + k) (by omega), mod2 (a := es.length - 1 - j + k) (by omega)]
    split <;> split <;> omega
  rw [getD_at ha, getD_at hb]
  rcases Nat.lt_or_ge ((es.length - 1 - i + k) % es.length) ((es.length - 1 - j + k) % es.length) with h | h
  · exact List.pairwise_iff_getElem.1 hu _ _ ha hb h
  · exact Ne.symm (List.pairwise_iff_getElem.1 hu _ _ hb ha (by omega))
theorem turned_ok {es : List EvV} {k : Nat} (hk : k < es.length) (hok : ∀ e ∈ es, e.okV) : ∀ e ∈ turned es k es.length, e.okV := fun e he => hok e ((turned_mem hk e).2 he)
end Go.Proofs.Ytfglecmimoeinaa
end

section
set_option linter.unusedSimpArgs false
set_option linter.unusedVariables false
set_option maxRecDepth 20000
namespace Go.Proofs.Ytfglecmimoeinaa
open Go.Free Go.RowKit Go.Proofs Go.Free.Sorts
/-- All but those with a dot. -/
def restM (d : Int × Int) (n : List EvV) : List EvV := n.filter fun e => decide (dotOf e ≠ d)
theorem rest_mem {d : Int × Int} {n : List EvV} {v : EvV} : v ∈ restM d n ↔ v ∈ n ∧ dotOf v ≠ d := by unfold restM; rw [List.mem_filter, decide_eq_true_eq]
theorem rest_unlike {d : Int × Int} {n : List EvV} (h : unlikeM n) : unlikeM (restM d n) := unlike_filter h _
theorem rest_nodes (d : Int × Int) (key : List UInt8) (L : List EvV) : nodesM key (restM d L) = restM d (nodesM key L) := by
  unfold nodesM restM
  rw [List.filter_filter, List.filter_filter]
  exact List.filter_congr fun e _ => Bool.and_comm _ _
theorem rest_pdot {d : Int × Int} {n : List EvV} {e : EvV} (h : (e.rr, e.rn) ≠ d) : pdot (restM d n) e = pdot n e := by
  unfold pdot
  have : ((restM d n).any (hangs e) = true) ↔ (n.any (hangs e) = true) := by
    rw [List.any_eq_true, List.any_eq_true]
    constructor
    · rintro ⟨x, h1, h2⟩; exact ⟨x, (rest_mem.1 h1).1, h2⟩
    · rintro ⟨x, h1, h2⟩
      refine ⟨x, rest_mem.2 ⟨h1, fun hd => h ?_⟩, h2⟩
      unfold hangs at h2
      rw [Bool.and_eq_true, decide_eq_true_eq] at h2
      rw [← hd]; unfold dotOf; rw [h2.1.1, h2.1.2]
  simp only [this]
theorem kidsD_mem {n : List EvV} {p : Option (Int × Int)} {v : EvV} : v ∈ kidsD n p ↔ v ∈ n ∧ pdot n v = p := by
  unfold kidsD; rw [byLate_mem, List.mem_filter, decide_eq_true_eq]
theorem kidsD_sorted {n : List EvV} (h : unlikeM n) (p : Option (Int × Int)) : (kidsD n p).Pairwise fun a b => ltE b a := byLate_sorted (unlike_filter h _)
theorem rest_kids {d : Int × Int} {n : List EvV} (hu : unlikeM n) (h : ∀ e ∈ n, (e.rr, e.rn) ≠ d) (p : Option (Int × Int)) : kidsD (restM d n) p = restM d (kidsD n p) := by
  refine late_one (kidsD_sorted (rest_unlike hu) p) (List.Pairwise.filter _ (kidsD_sorted hu p)) fun v => ?_
  rw [kidsD_mem, rest_mem, rest_mem, kidsD_mem]
  constructor
  · rintro ⟨⟨h1, h2⟩, h3⟩; rw [rest_pdot (h v h1)] at h3; exact ⟨⟨h1, h3⟩, h2⟩
  · rintro ⟨⟨h1, h3⟩, h2⟩; exact ⟨⟨h1, h2⟩, by rw [rest_pdot (h v h1)]; exact h3⟩
theorem pdot_ref {n : List EvV} {e : EvV} {d : Int × Int} (h : pdot n e = some d) : (e.rr, e.rn) = d := by
  unfold pdot at h
  split at h
  · cases h
  · split at h
    · simpa using h
    · cases h
theorem leaf_kids {d : Int × Int} {n : List EvV} (h : ∀ e ∈ n, (e.rr, e.rn) ≠ d) : kidsD n (some d) = [] := by
  apply List.eq_nil_iff_forall_not_mem.2
  intro v hv
  obtain ⟨h1, h2⟩ := kidsD_mem.1 hv
  exact h v h1 (pdot_ref h2)
theorem leaf_und {d : Int × Int} {n : List EvV} (h : ∀ e ∈ n, (e.rr, e.rn) ≠ d) : ∀ K, undD n K (some d) = []
  | 0 => rfl
  | K + 1 => by show List.flatMap _ (kidsD n (some d)) = _; rw [leaf_kids h]; rfl
theorem flatMap_rest {d : Int × Int} {g g' : EvV → List EvV} : ∀ {l : List EvV}, (∀ e ∈ l, dotOf e ≠ d → restM d (g e) = g' e) → (∀ e ∈ l, dotOf e = d → restM d (g e) = []) → restM d (l.flatMap g) = (restM d l).flatMap g'
  | [], _, _ => rfl
  | e :: l, h1, h2 => by
    have ih := flatMap_rest (l := l) (fun x hx => h1 x (List.mem_cons_of_mem _ hx)) (fun x hx => h2 x (List.mem_cons_of_mem _ hx))
    rw [List.flatMap_cons, show restM d (g e ++ l.flatMap g) = restM d (g e) ++ restM d (l.flatMap g) from List.filter_append .., ih]
    by_cases hd : dotOf e = d
    · rw [h2 e List.mem_cons_self hd, show restM d (e :: l) = restM d l from List.filter_cons_of_neg (by simp [hd])]; rfl
    · rw [h1 e List.mem_cons_self hd, show restM d (e :: l) = e :: restM d l from List.filter_cons_of_pos (by simp [hd]), List.flatMap_cons]
theorem rest_und {d : Int × Int} {n : List EvV} (hu : unlikeM n) (h : ∀ e ∈ n, (e.rr, e.rn) ≠ d) : ∀ (K : Nat) (p : Option (Int × Int)), restM d (undD n K p) = undD (restM d n) K p
  | 0, _ => rfl
  | K + 1, p => by
    show restM d ((kidsD n p).flatMap fun e => e :: undD n K (some (dotOf e))) = (kidsD (restM d n) p).flatMap fun e => e :: undD (restM d n) K (some (dotOf e))
    rw [rest_kids hu h]
    refine flatMap_rest (fun e _ hd => ?_) (fun e _ hd => ?_)
    · show restM d (e :: _) = _
      rw [show restM d (e :: undD n K (some (dotOf e))) = e :: restM d (undD n K (some (dotOf e))) from List.filter_cons_of_pos (by simp [hd]), rest_und hu h K]
    · rw [hd, leaf_und h K]
      exact List.filter_cons_of_neg (by simp [hd])
theorem rest_order {d : Int × Int} {key : List UInt8} {L : List EvV} (hu : unlikeM L) (h : ∀ e ∈ L, (e.rr, e.rn) ≠ d) : orderM key (restM d L) = restM d (orderM key L) := by
  have hn : ∀ e ∈ nodesM key L, (e.rr, e.rn) ≠ d := fun e he => h e (List.mem_filter.1 he).1
  have hl : (restM d (nodesM key L)).length ≤ (nodesM key L).length := List.length_filter_le _ _
  rw [order_dots (rest_unlike hu) (K := (nodesM key L).length + 1) (by rw [rest_nodes]; omega), order_dots hu (K := (nodesM key L).length + 1) (by omega), rest_und (n := nodesM key L) (unlike_filter hu _) hn, rest_nodes]
theorem rest_len (d : Int × Int) (L : List EvV) : (restM d L).length ≤ L.length := List.length_filter_le _ _
theorem rest_take {d : Int × Int} {L : List EvV} {i : Nat} (hi : i < L.length) : restM d (L.take (i + 1)) = if dotOf L[i] = d then restM d (L.take i) else restM d (L.take i) ++ [L[i]] := by
  rw [List.take_succ_eq_append_getElem hi]
  unfold restM
  rw [List.filter_append]
  by_cases hd : dotOf L[i] = d
  · rw [if_pos hd, List.filter_cons_of_neg (by simp [hd])]; simp
  · rw [if_neg hd, List.filter_cons_of_pos (by simp [hd])]; rfl
theorem dot_enc {L : List EvV} (hu : unlikeM L) {a b : EvV} (ha : a ∈ L) (hb : b ∈ L) : decide (dotOf a = dotOf b) = true ↔ a.enc = b.enc := by
  rw [decide_eq_true_eq]
  constructor
  · intro h; rw [unlike_ltE hu ha hb h]
  · intro h
    have h0 := congrArg (fun l : List Value => (l[0]?, l[1]?)) h
    simp [EvV.enc] at h0
    unfold dotOf; rw [h0.1, h0.2]
theorem dot_ix {L : List EvV} (hu : unlikeM L) {i k : Nat} (hi : i < L.length) (hk : k < L.length) : dotOf L[i] = dotOf L[k] ↔ i = k := by
  constructor
  · intro h
    rcases Nat.lt_trichotomy i k with h1 | h1 | h1
    · exact absurd h (List.pairwise_iff_getElem.1 hu i k hi hk h1)
    · exact h1
    · exact absurd h.symm (List.pairwise_iff_getElem.1 hu k i hk hi h1)
  · rintro rfl; rfl
end Go.Proofs.Ytfglecmimoeinaa
end

section
set_option linter.unusedSimpArgs false
set_option linter.unusedVariables false
set_option maxRecDepth 20000
namespace Go.Proofs.Ytfglecmimoeinaa
open Go.Free Go.RowKit Go.Proofs Go.Free.Sorts
theorem nodup_ge : ∀ (l : List Nat) (m : Nat), l.Nodup → (∀ x, x < m → x ∈ l) → m ≤ l.length
  | l, 0, _, _ => Nat.zero_le _
  | l, m + 1, hn, h => by
    have hm := h m (Nat.lt_succ_self m)
    have h1 := nodup_ge (l.erase m) m (hn.erase m) fun x hx => by
      rw [hn.mem_erase_iff]
      exact ⟨by omega, h x (by omega)⟩
    rw [List.length_erase_of_mem hm] at h1
    have := List.length_pos_of_mem hm
    omega
theorem order_full (key : List UInt8) (L : List EvV) : (orderM key L).length = (nodesM key L).length := by
  unfold orderM
  rw [List.length_map]
  have h1 := und_len (nodesM key L) ((nodesM key L).length + 1) none
  have h2 := nodup_ge (undM (nodesM key L) ((nodesM key L).length + 1) none) (nodesM key L).length (und_nodup _ _) fun x hx => (und_mem _ x).2 hx
  omega
theorem order_in {key : List UInt8} {L : List EvV} {o : EvV} (h : o ∈ nodesM key L) : o ∈ orderM key L := by
  obtain ⟨i, hi, rfl⟩ := List.getElem_of_mem h
  unfold orderM
  exact List.mem_map.2 ⟨i, (und_mem _ i).2 hi, getD_at hi⟩
/-- The order's events have unlike dots, too. -/
theorem order_unlike {key : List UInt8} {L : List EvV} (hu : unlikeM L) : unlikeM (orderM key L) := by
  unfold orderM unlikeM
  rw [List.pairwise_map]
  have hnd := und_nodup (n := nodesM key L) ((nodesM key L).length + 1) none
  have hm : (undM (nodesM key L) ((nodesM key L).length + 1) none).Pairwise fun i j => i < (nodesM key L).length ∧ j < (nodesM key L).length := by
    rw [List.pairwise_iff_getElem]
    intro i j hi hj _
    exact ⟨und_lt _ _ (List.getElem_mem hi), und_lt _ _ (List.getElem_mem hj)⟩
  refine (hnd.and hm).imp fun {i j} ⟨hne, hi, hj⟩ => ?_
  rw [getD_at hi, getD_at hj]
  intro h
  exact hne ((dot_ix (unlike_filter hu _) hi hj).1 h)
def cntD (d : Int × Int) (l : List EvV) : Nat := (l.filter fun e => decide (dotOf e = d)).length
theorem cnt_take {d : Int × Int} {l : List EvV} {k : Nat} (hk : k < l.length) : cntD d (l.take (k + 1)) = cntD d (l.take k) + if dotOf l[k] = d then 1 else 0 := by
  unfold cntD
  rw [List.take_succ_eq_append_getElem hk, List.filter_append, List.length_append]
  by_cases h : dotOf l[k] = d
  · rw [if_pos h, List.filter_cons_of_pos (by simp [h])]; rfl
  · rw [if_neg h, List.filter_cons_of_neg (by simp [h])]; rfl
theorem cnt_no {d : Int × Int} {l : List EvV} (h : ∀ e ∈ l, dotOf e ≠ d) : cntD d l = 0 := by
  unfold cntD
  rw [List.filter_eq_nil_iff.2 fun e he => by simpa using h e he]; rfl
theorem cnt_pos {d : Int × Int} {l : List EvV} {o : EvV} (ho : o ∈ l) (hd : dotOf o = d) : 0 < cntD d l := by
  unfold cntD
  exact List.length_pos_of_mem (List.mem_filter.2 ⟨ho, by simp [hd]⟩)
theorem cnt_le {d : Int × Int} (l : List EvV) : cntD d l ≤ l.length := List.length_filter_le _ _
theorem cnt_one {d : Int × Int} : ∀ {l : List EvV}, unlikeM l → ∀ {o : EvV}, o ∈ l → dotOf o = d → cntD d l = 1
  | x :: l, hu, o, ho, hd => by
    obtain ⟨h1, h2⟩ := List.pairwise_cons.1 hu
    by_cases hx : dotOf x = d
    · have : cntD d l = 0 := cnt_no fun e he h => h1 e he (hx.trans h.symm)
      unfold cntD at this ⊢
      rw [List.filter_cons_of_pos (by simp [hx]), List.length_cons, this]
    · have hol : o ∈ l := by
        rcases List.mem_cons.1 ho with e | h
        · exact absurd (e ▸ hd) hx
        · exact h
      have ih := cnt_one h2 hol hd
      unfold cntD at ih ⊢
      rw [List.filter_cons_of_neg (by simp [hx]), ih]
theorem behind_list {n : List EvV} {K : Nat} {p : Option Nat} (ih : ∀ (i : Nat) {pre post : List Nat} {x y : Nat}, undM n K (some i) = pre ++ x :: post → parM n (n.getD x ev0) = some y → y ∈ pre ∨ some i = some y) : ∀ (ks : List Nat), (∀ i ∈ ks, parM n (n.getD i ev0) = p) → ∀ {pre post : List Nat} {x y : Nat}, ks.flatMap (fun i => i :: undM n K (some i)) = pre ++ x :: post → parM n (n.getD x ev0) = some y → y ∈ pre ∨ p = some y
  | [], _, pre, post, x, y, h, _ => by
    have := congrArg List.length h
    simp at this
  | i :: ks, hks, pre, post, x, y, h, hp => by
    rw [List.flatMap_cons, List.cons_append] at h
    cases pre with
    | nil =>
      rw [List.nil_append] at h
      obtain ⟨rfl, _⟩ := List.cons.inj h
      exact .inr ((hks _ List.mem_cons_self).symm.trans hp)
    | cons q pre =>
      rw [List.cons_append] at h
      obtain ⟨rfl, h2⟩ := List.cons.inj h
      rcases List.append_eq_append_iff.1 h2 with ⟨av, h3, h4⟩ | ⟨bv, h3, h4⟩
      · rcases behind_list ih ks (fun j hj => hks j (List.mem_cons_of_mem _ hj)) h4 hp with h5 | h5
        · exact .inl (List.mem_cons_of_mem _ (by rw [h3]; exact List.mem_append.2 (.inr h5)))
        · exact .inr h5
      · cases bv with
        | nil =>
          rw [List.nil_append] at h4
          rcases behind_list ih ks (fun j hj => hks j (List.mem_cons_of_mem _ hj)) (pre := []) h4.symm hp with h5 | h5
          · cases h5
          · exact .inr h5
        | cons b bv =>
          rw [List.cons_append] at h4
          obtain ⟨rfl, h6⟩ := List.cons.inj h4
          rcases ih i h3 hp with h5 | h5
          · exact .inl (List.mem_cons_of_mem _ h5)
          · cases h5; exact .inl List.mem_cons_self
/-- What hangs on a node stands behind it. -/
theorem und_behind {n : List EvV} : ∀ (K : Nat) (p : Option Nat) {pre post : List Nat} {x y : Nat}, undM n K p = pre ++ x :: post → parM n (n.getD x ev0) = some y → y ∈ pre ∨ p = some y
  | 0, _, pre, post, x, y, h, _ => by
    have h0 : ([] : List Nat) = pre ++ x :: post := h
    have := congrArg List.length h0
    simp at this
  | K + 1, p, pre, post, x, y, h, hp => by
    have h' : (sortK n (kidsM n p)).flatMap (fun i => i :: undM n K (some i)) = pre ++ x :: post := h
    have hks : ∀ i ∈ sortK n (kidsM n p), parM n (n.getD i ev0) = p := fun i hi => (kids_mem.1 ((sortK_mem n _ i).1 hi)).2
    exact behind_list (fun i => und_behind K (some i)) (sortK n (kidsM n p)) hks h' hp
theorem order_behind {key : List UInt8} {L : List EvV} (hu : unlikeM L) {k : Nat} (hk : k < (orderM key L).length) {o : EvV} (ho : o ∈ nodesM key L) (href : ((orderM key L)[k].rr, (orderM key L)[k].rn) = dotOf o) (hlate : later (orderM key L)[k] o = true) (hne : ¬ ((orderM key L)[k].rr = 0 ∧ (orderM key L)[k].rn = 0)) : o ∈ (orderM key L).take k := by
  obtain ⟨n, hn⟩ : ∃ n, n = nodesM key L := ⟨_, rfl⟩
  obtain ⟨u, hud⟩ : ∃ u, u = undM n (n.length + 1) none := ⟨_, rfl⟩
  have hor : orderM key L = u.map fun i => n.getD i ev0 := by rw [hud, hn]; rfl
  have hkl : k < u.length := by rw [hor, List.length_map] at hk; exact hk
  have hel : (orderM key L)[k] = n.getD u[k] ev0 := by
    simp only [hor, List.getElem_map]
  rw [hel] at href hlate hne
  have huL : unlikeM n := by rw [hn]; exact unlike_filter hu _
  rw [← hn] at ho
  have hh : hangs (n.getD u[k] ev0) o = true := by
    unfold hangs
    rw [hlate, Bool.and_true, decide_eq_true_eq]
    have h1 := congrArg Prod.fst href
    have h2 := congrArg Prod.snd href
    exact ⟨h1.symm, h2.symm⟩
  obtain ⟨i, hi, hio⟩ := List.getElem_of_mem ho
  have hpd : pdot n (n.getD u[k] ev0) = some (dotOf (n.getD i ev0)) := by
    unfold pdot
    rw [if_neg hne, if_pos (List.any_eq_true.2 ⟨o, ho, hh⟩), href, getD_at hi, hio]
  have hpar := (par_dot huL hi).2 hpd
  have hsplit : undM n (n.length + 1) none = u.take k ++ u[k] :: u.drop (k + 1) := by
    rw [← hud, List.getElem_cons_drop, List.take_append_drop]
  rcases und_behind (n.length + 1) none hsplit hpar with h | h
  · rw [hor, ← List.map_take]
    exact List.mem_map.2 ⟨i, h, by rw [getD_at hi, hio]⟩
  · cases h
theorem nodes_take {key : List UInt8} {L : List EvV} {i : Nat} (hi : i < L.length) : (nodesM key (L.take (i + 1))).length = (nodesM key (L.take i)).length + if L[i].kind = 9 ∧ L[i].key = key then 1 else 0 := by
  unfold nodesM
  rw [List.take_succ_eq_append_getElem hi, List.filter_append, List.length_append]
  by_cases h : L[i].kind = 9 ∧ L[i].key = key
  · rw [if_pos h, List.filter_cons_of_pos (by simp [h])]; rfl
  · rw [if_neg h, List.filter_cons_of_neg (by simpa using h)]; rfl
end Go.Proofs.Ytfglecmimoeinaa
end

section
set_option linter.unusedSimpArgs false
set_option linter.unusedVariables false
set_option maxRecDepth 20000
namespace Go.Free
open Go.RowKit
section
variable {P : Program} {ops : Array Oper} {Q : Exit → Act → World → Prop} {n : Nat} {I : World → Prop} {k i : Nat} {E : Env} {o : Oper} {d : Bool}
theorem run_append_zero {w : World} {t ty e : TypeId} {inf : TypeInfo} {A : Option Addr} {ad : Addr} {m cp c2 : Nat} (ht : P.underlying t = some (.slice e)) (hi : P.info? e = some inf) (hmc : m ≤ cp) :
    (Builtin.append_ #[t, t] ty #[.slice A m cp, .slice (some ad) 0 c2]).run P w = .ok (.slice A m cp) w := by
  cases A <;> simp [Builtin.append_, run_underlying ht, sizeOf, typeInfo, hi, Builtin.lenOf, Builtin.firstCells, hmc, storeCells, loadCells, loadCellsFrom]
theorem run_append_fullOwn {w : World} {t ty e : TypeId} {z : Value} {sz bytes B g m : Nat} {xs news : List Value} {y : Value} (he : Elt P t e z sz bytes)
    (hown : ownH B e sz xs w (.slice (some ⟨g, 0, none⟩) m m)) (hy : rowH sz news w y) (h1 : ∀ u ∈ news, u.oneCell' = true) (hlim : (xs.length + news.length) * bytes ≤ 140737488355328 * sz) :
    ∃ v' w', (Builtin.append_ #[t, t] ty #[.slice (some ⟨g, 0, none⟩) m m, y]).run P w = .ok v' w' ∧ ownH B e sz (xs ++ news) w' v' ∧ Below w.heap.size w w' := by
  obtain ⟨inf, hi, hz, hsz, hby⟩ := he.hi
  by_cases hne : news = []
  · subst hne
    obtain ⟨A2, m2, c2, rfl, hmc, hcM, hl, hnil, hcell⟩ := id hy
    have hm2 : m2 = 0 := by
      have := he.hs
      rcases Nat.eq_zero_or_pos m2 with h | h
      · exact h
      · have := Nat.mul_pos h this
        simp at hl; omega
    subst hm2
    refine ⟨.slice (some ⟨g, 0, none⟩) m m, w, ?_, by rw [List.append_nil]; exact hown, Below.refl _ _⟩
    cases A2 with
    | none =>
      obtain rfl := hnil rfl
      obtain ⟨_, m', hm'⟩ := hown
      exact run_append_owned_none (P := P) w B t ty e inf sz he.ht hi _ m' xs hm'
    | some ad => exact run_append_zero he.ht hi (Nat.le_refl _)
  · obtain ⟨v1, w1, hr1, h2, _⟩ := run_append_rows (ty := ty) he hown hy h1 hlim
    obtain ⟨v2, w2, hr2, _, h3⟩ := run_append_full_rows (ty := ty) he (own_row hown) hy hne h1 hlim
    rw [hr1] at hr2
    simp only [Result.ok.injEq] at hr2
    obtain ⟨rfl, rfl⟩ := hr2
    exact ⟨v1, w1, hr1, h2, h3⟩
theorem Plan.appendFullOwn {x y : Operand} {t e : TypeId} {z : Value} {sz bytes B m : Nat} {xs news : List Value} {f g : Fa} (ho : ops[i]? = some o) (hop : o.op = .call { callee := .builtin .append, args := #[x, y], argTypes := #[t, t] })
    (hg : wantB ops E o = some true) (hx : opF E x = some f) (hfs : Sub I f (tight B e sz m xs)) (hy : opF E y = some g) (hs : Sub I g (row sz news)) (he : Elt P t e z sz bytes)
    (h1 : ∀ u ∈ news, u.oneCell' = true) (hlim : (xs.length + news.length) * bytes ≤ 140737488355328 * sz)
    (h : Plan P ops Q n I d k (i + 1) (setE o.dst (own B e sz (xs ++ news)) E)) : Plan P ops Q n I d (k + 1) i E :=
  Plan.step ho (Step.run ho hg fun a w hI hs' => by
    have e1 := hfs w _ hI (hs' x (by simp [hop, Op.operands, Call.operands]) _ hx)
    have e2 := hs w _ hI (hs' y (by simp [hop, Op.operands, Call.operands]) _ hy)
    obtain ⟨hown, g0, hv⟩ := e1
    rw [hv] at hown
    obtain ⟨v', w', hr, h2, h3⟩ := run_append_fullOwn (ty := o.type) he hown e2 h1 hlim
    refine ⟨v', w', ?_, h3, by simpa only [own, Fa.den] using h2⟩
    simp only [execOp, hop, resolve, invoke, builtin, List.map_toArray, List.map_cons, List.map_nil, Sem.run_bind, Sem.run_pure, Result.andThen_ok, hv, hr]) h
theorem run_append_same {w : World} {t ty e e2 : TypeId} {z : Value} {sz bytes B B2 : Nat} {xs news : List Value} {x y u : Value} (he : Elt P t e z sz bytes)
    (hown : ownH B e sz xs w x) (hy : rowH sz news w y) (h1 : ∀ u ∈ news, u.oneCell' = true) (hlim : (xs.length + news.length) * bytes ≤ 140737488355328 * sz) (hu : ownH B2 e2 sz (xs ++ news) w u) :
    ∃ v' w', (Builtin.append_ #[t, t] ty #[x, y]).run P w = .ok v' w' ∧ ownH B e sz (xs ++ news) w' v' ∧ w.grownBy w' x.ownBlock ∧ rowH sz (xs ++ news) w' u := by
  obtain ⟨v', w', hr, h2, h3⟩ := run_append_rows (ty := ty) he hown hy h1 hlim
  refine ⟨v', w', hr, h2, h3, ?_⟩
  obtain ⟨hB2, mu, hmu⟩ := id hu
  by_cases hblk : u.ownBlock = none ∨ u.ownBlock ≠ x.ownBlock
  · exact own_row (B := B2) ⟨Nat.le_trans hB2 h3.size, mu, hmu.kept h3 hblk⟩
  · obtain ⟨hb1, hb2⟩ := not_or.1 hblk
    have hb2 : u.ownBlock = x.ownBlock := Classical.not_not.1 hb2
    obtain ⟨inf, hi, hz, hsz, hby⟩ := he.hi
    obtain ⟨hB, n0, hm0⟩ := hown
    rcases hmu.2 with ⟨rfl, _⟩ | ⟨g2, cu, curu, rfl, _, hgu, hu5, hu6, hu7, hu8⟩
    · exact absurd rfl hb1
    rcases hm0.2 with ⟨rfl, _⟩ | ⟨g, cap, cur, rfl, hgB, hgg, h5, h6, h7, h8⟩
    · simp [Value.ownBlock] at hb2
    have hgg2 : g2 = g := by simpa [Value.ownBlock] using hb2
    subst hgg2
    obtain ⟨A2, m2, c2, rfl, hmc, hc, hl, hnil, hcell⟩ := id hy
    have hpos := he.hs
    have hnm : (n0 + m2) * bytes ≤ 140737488355328 := by
      have e1 : (xs.length + news.length) = (n0 + m2) * sz := by rw [hm0.1, hl, Nat.add_mul]
      rw [e1, Nat.mul_assoc, Nat.mul_comm sz bytes, ← Nat.mul_assoc] at hlim
      exact Nat.le_of_mul_le_mul_right hlim hpos
    have h63 : n0 + m2 ≤ maxLen := by
      have := he.hb
      have h2 : n0 + m2 ≤ (n0 + m2) * bytes := Nat.le_mul_of_pos_right _ this
      simp only [maxLen]; omega
    have cells : ∀ (k c : Nat), v' = .slice (some ⟨g2, 0, none⟩) k c → rowH sz (xs ++ news) w' (.slice (some ⟨g2, 0, none⟩) mu cu) := fun k c hv => by
      obtain ⟨A', m', c', e1, e2, e3, e4, e5, e6⟩ := own_row h2
      rw [hv] at e1
      simp only [Value.slice.injEq] at e1
      obtain ⟨rfl, rfl, rfl⟩ := e1
      exact ⟨_, _, _, rfl, hu5, by simpa [maxLen] using hu6, hmu.1, (fun h => by cases h), e6⟩
    cases A2 with
    | none =>
      obtain rfl := hnil rfl
      obtain rfl : m2 = 0 := by omega
      have hr2 := run_append_owned_none (P := P) w B t ty e inf sz he.ht hi _ n0 xs hm0
      rw [hr2] at hr
      simp only [Result.ok.injEq] at hr
      exact cells _ _ hr.1.symm
    | some ad =>
      have hcs : ∀ j u, news[j]? = some u → w.cell? (ad.add j) = some u := fun j u hu => by
        obtain ⟨ad', hA, hc⟩ := hcell j u hu
        cases hA; exact hc
      by_cases hroom : n0 + m2 ≤ cap
      · obtain ⟨w3, hr3, _, _⟩ := run_append_fits (P := P) w B t ty e inf sz he.ht hi hsz g2 n0 cap xs hm0 ad m2 c2 news hl hcs h1 hroom
        rw [hr3] at hr
        simp only [Result.ok.injEq] at hr
        exact cells _ _ hr.1.symm
      · have hr3 := run_append_grow (P := P) w t ty e inf z he.ht hi hz ⟨g2, 0, none⟩ n0 cap xs (by rw [hsz]; exact hm0.1) (hm0.cells (g := g2) rfl) ad m2 c2 news (by rw [hsz]; exact hl) hcs (by omega) (by have := h63; simp only [maxLen] at this; omega) (growslice_fits (by omega) (by rw [hby]; exact hnm))
        rw [hr3] at hr
        simp only [Result.ok.injEq] at hr
        refine rowH_mono ?_ (own_row hu)
        rw [← hr.2]
        exact ⟨rfl, rfl, rfl, by simp, fun b hb => (World.grownBy_alloc w.drew _ none).block b (by simpa using hb) (by simp)⟩
/-- append(own, row...) beside a slot whose own row has just what is then there: that is known of it still. -/
theorem Plan.appendSame {x y : Operand} {t e e2 : TypeId} {z : Value} {sz bytes B B2 tu : Nat} {xs news : List Value} {f g fu : Fa} (ho : ops[i]? = some o) (hop : o.op = .call { callee := .builtin .append, args := #[x, y], argTypes := #[t, t] })
    (hg : wantB ops E o = some true) (hx : opF E x = some f) (hfs : Sub I f (own B e sz xs)) (hy : opF E y = some g) (hs : Sub I g (row sz news)) (hu : look E tu = some fu) (hus : Sub I fu (own B2 e2 sz (xs ++ news))) (he : Elt P t e z sz bytes)
    (hd : ∀ d, o.dst = some d → d < n ∧ d ≠ tu) (hG : ∀ w w' r, I w → w.grownBy w' r → (∀ b, r = some b → B ≤ b) → I w') (h1 : ∀ u ∈ news, u.oneCell' = true) (hlim : (xs.length + news.length) * bytes ≤ 140737488355328 * sz)
    (h : Plan P ops Q n I d k (i + 1) (setE o.dst (row sz (xs ++ news)) ((tu, row sz (xs ++ news)) :: sieve E))) (hq : d = false ∨ barB ops i = true := by first | exact .inl rfl | exact .inr (by kernel_rfl)) : Plan P ops Q n I d (k + 1) i E := by
  refine .inr ⟨hq, ?_⟩
  intro a w hI hsh hS
  have hs' : ∀ x, x ∈ o.op.operands → ∀ f, opF E x = some f → f.den w (a.eval x) := fun x hx f hf => opF_den ho hx (fun t _ f hf => hS t f hf) hf
  have e1 := hfs w _ hI (hs' x (by simp [hop, Op.operands, Call.operands]) _ hx)
  have e2 := hs w _ hI (hs' y (by simp [hop, Op.operands, Call.operands]) _ hy)
  have e3 := hus w _ hI (hS tu _ hu)
  obtain ⟨v', w', hr, h2, h3, h4⟩ := run_append_same (ty := o.type) he e1 e2 h1 hlim e3
  have hI' : I w' := hG w w' _ hI h3 fun b hb => by
    obtain ⟨_, m, hm⟩ := e1
    exact (hm.lt b hb).1
  unfold wpOp
  simp only [ho, wantB_spec ho hsh (fun t _ f hf => hS t f hf) hg, if_true]
  refine .inl ?_
  unfold Oper.wp
  have hrun : (execOp a.eval o).run P w = .ok (.value v') w' := by
    simp only [execOp, hop, resolve, invoke, builtin, List.map_toArray, List.map_cons, List.map_nil, Sem.run_bind, Sem.run_pure, Result.andThen_ok, hr]
  rw [hrun]
  refine ⟨_, h, hI', hsh.put _ _, ?_⟩
  intro t f hf
  have base : ∀ t f, look ((tu, row sz (xs ++ news)) :: sieve E) t = some f → f.den w' (a.slot t) := fun t f hf => by
    simp only [look] at hf
    by_cases htu : tu = t
    · subst htu
      simp only [if_true, Option.some.injEq] at hf
      subst hf
      exact h4
    · rw [if_neg htu] at hf
      exact sieve_sat hS w' t f hf
  cases hdst : o.dst with
  | none => rw [hdst] at hf; exact base t f hf
  | some dd =>
    rw [hdst] at hf
    simp only [setE, look] at hf
    by_cases hdt : dd = t
    · subst hdt
      simp only [if_true, Option.some.injEq] at hf
      subst hf
      rw [slot_put_same hsh (hd dd hdst).1]
      exact own_row h2
    · rw [if_neg hdt] at hf
      rw [slot_put_ne a hdt]
      exact base t f (by simpa only [look] using hf)
end
end Go.Free
end

section
set_option linter.unusedSimpArgs false
set_option linter.unusedVariables false
set_option maxRecDepth 20000
namespace Go.Free
open Go.RowKit
section
variable {P : Program} {n : Nat} {I : World → Prop} {E : Env} {Q : Exit → Act → World → Prop} {A : Nat → Prop} {H : List Chunk}
/-- The world that is now becomes the base. -/
theorem J.base {c : Code} (h : ∀ w1, I w1 → J P n (fun w => Below w1.heap.size w1 w) c Q (markE w1 E)) : J P n I c Q E := fun a w h1 h2 h3 =>
  h w h1 a w (Below.refl _ _) h2 (fun t f hf => by
    obtain ⟨g, hg, rfl⟩ := look_markE hf
    exact keepOld_den (h3 t g hg))
/-- A heap of the base is there still. -/
theorem J.heapBack {c : Code} {w1 : World} {key : Nat} (hI : ∀ w, I w → Below w1.heap.size w1 w) (hk : look E key = some (.old w1 (heap A H))) (h : J P n I c Q ((key, heap A H) :: E)) : J P n I c Q E := fun a w h1 h2 h3 => by
  have h4 := h3 key _ hk
  simp only [Fa.den] at h4
  obtain ⟨φ, hL, hA⟩ := Fa.mono (heap A H) w1 w (a.slot key) (hI w h1) h4
  exact h a w h1 h2 (heap_put h3 hL hA)
end
end Go.Free
namespace Go.Proofs.Ytfglecmimoeinaa
open Go.Free Go.RowKit Go.Proofs Go.Free.Sorts
set_option maxHeartbeats 16000000

/-- The event that takes an item away, of which so many replicas' numbers are told. -/
def xrM (key : List UInt8) (d : Int × Int) (i : Nat) : EvV := ⟨0, 0, 0, fun j => if j < i then 1048576 else 0, 10, key, [], [], 0, d.1, d.2⟩
theorem xr_set (key : List UInt8) (d : Int × Int) {i : Nat} (hi : i < 16) : (xrM key d i).enc.take (3 + i) ++ [vi 1048576] ++ (xrM key d i).enc.drop (3 + i + 1) = (xrM key d (i + 1)).enc := by
  have : i = 0 ∨ i = 1 ∨ i = 2 ∨ i = 3 ∨ i = 4 ∨ i = 5 ∨ i = 6 ∨ i = 7 ∨ i = 8 ∨ i = 9 ∨ i = 10 ∨ i = 11 ∨ i = 12 ∨ i = 13 ∨ i = 14 ∨ i = 15 := by omega
  rcases this with rfl | rfl | rfl | rfl | rfl | rfl | rfl | rfl | rfl | rfl | rfl | rfl | rfl | rfl | rfl | rfl <;> rfl
theorem xr_okV (key : List UInt8) {d : Int × Int} (hk : key.length ≤ 9223372036854775807) (hd : okD d) (i : Nat) : (xrM key d i).okV := by
  refine ⟨by simp [xrM, in64], by simp [xrM, in64], by simp [xrM, in64], fun j _ => ?_, by simp [xrM, in64], hk, by simp [xrM], by simp [xrM], by simp [xrM, in64], hd.1, hd.2⟩
  unfold xrM in64
  dsimp only
  split <;> omega
theorem rem_nodes (key : List UInt8) (L : List EvV) (x : EvV) (h : x.kind ≠ 9) : nodesM key (L ++ [x]) = nodesM key L := by
  unfold nodesM
  rw [List.filter_append, List.filter_cons_of_neg (by simp [h])]; simp
theorem rem_items {key : List UInt8} {L : List EvV} {d : Int × Int} (hd : dotP d.1 d.2) : itemsM key (L ++ [xrM key d 16]) = restM d (itemsM key L) := by
  have ho : orderM key (L ++ [xrM key d 16]) = orderM key L := by
    unfold orderM
    rw [rem_nodes key L (xrM key d 16) (show (10 : Int) ≠ 9 by decide)]
  unfold itemsM restM keepE
  rw [ho, List.filter_filter]
  refine List.filter_congr fun a ha => ?_
  obtain ⟨_, h9, hk⟩ := order_node a ha
  have he : endedB (L ++ [xrM key d 16]) a = (endedB L a || decide (dotOf a = d)) := by
    unfold endedB
    rw [List.any_append]
    congr 1
    simp only [List.any_cons, List.any_nil, Bool.or_false]
    refine decide_eq_decide.2 ?_
    unfold endsP hasP dotOf
    constructor
    · rintro ⟨_, _, h | ⟨_, h1, h2⟩⟩
      · exact absurd h (show ¬ (10 : Int) = 11 by decide)
      · exact Prod.ext h1.symm h2.symm
    · intro h
      have h1 := congrArg Prod.fst h
      have h2 := congrArg Prod.snd h
      simp only at h1 h2
      refine ⟨hk.symm, ⟨by rw [h1, h2]; exact hd, ?_⟩, .inr ⟨rfl, h1.symm, h2.symm⟩⟩
      have h3 := hd.1
      have h4 := hd.2.1
      have h5 := hd.2.2.2
      have : a.r.toNat < 16 := by omega
      show a.n ≤ if a.r.toNat < 16 then 1048576 else 0
      rw [if_pos this]; omega
  rw [he]
  cases endedB L a <;> by_cases h : dotOf a = d <;> simp [h]
theorem rest_at {l : List EvV} (hu : unlikeM l) {k : Nat} (hk : k < l.length) : restM (dotOf l[k]) l = l.take k ++ l.drop (k + 1) := by
  have hs : l = l.take k ++ l[k] :: l.drop (k + 1) := by rw [List.getElem_cons_drop, List.take_append_drop]
  have h1 : restM (dotOf l[k]) (l.take k) = l.take k := List.filter_eq_self.2 fun e he => by
    obtain ⟨j, hj, rfl⟩ := List.getElem_of_mem he
    rw [List.length_take] at hj
    rw [List.getElem_take, decide_eq_true_eq]
    exact fun h => absurd ((dot_ix hu (by omega) hk).1 h) (by omega)
  have h2 : restM (dotOf l[k]) (l.drop (k + 1)) = l.drop (k + 1) := List.filter_eq_self.2 fun e he => by
    obtain ⟨j, hj, rfl⟩ := List.getElem_of_mem he
    rw [List.length_drop] at hj
    rw [List.getElem_drop, decide_eq_true_eq]
    exact fun h => absurd ((dot_ix hu (by omega) hk).1 h) (by omega)
  have h3 : restM (dotOf l[k]) l = restM (dotOf l[k]) (l.take k ++ l[k] :: l.drop (k + 1)) := by rw [← hs]
  rw [h3]
  unfold restM at h1 h2 ⊢
  rw [List.filter_append, h1, List.filter_cons_of_neg (by simp), h2]
theorem items_unlike {key : List UInt8} {L : List EvV} (hu : unlikeM L) : unlikeM (itemsM key L) := List.Pairwise.filter _ (order_unlike hu)
def rvE (w0 : World) (L : List EvV) (key : List UInt8) (items : List EvV) (g ci k ξ : Nat) (d : Int × Int) (i : Nat) : Env :=
  [(0, old w0 (row 26 (evsC L))), (1, .ex (str key)), (7, .ex (.slice (some ⟨g, 0, none⟩) items.length ci)), (8, .ex (vi k)), (9, .ex (ptr ξ)), (46, .ex (vi i)), (1000, heap (newB w0) [rowEv (some ⟨g, 0, none⟩) items.length ci (evsC items), obj ξ (xrM key d i).enc])]
theorem evs_dot (l : List EvV) {k : Nat} (hk : k < l.length) : ((evsC l).drop (k * 26)).take 2 = [vi l[k].r, vi l[k].n] := by
  have h := evs_at l hk
  rw [encE] at h
  have h2 : ((evsC l).drop (k * 26)).take 2 = (((evsC l).drop (k * 26)).take 26).take 2 := by rw [List.take_take]; rfl
  rw [h2, h]; rfl
theorem lawRemoves (L : List EvV) (hl : L.length ≤ 9223372036854775807) (hok : ∀ e ∈ L, e.okV) (key : List UInt8) (hkey : key.length ≤ 9223372036854775807) (c : Int) (hc : 0 ≤ c ∧ c ≤ 18446744073709551615) : Spc Try.prog 8 [row 26 (evsC L), .ex (str key), .ex (.int .u64 c)] fun _ => .ex (.bool true) := by
  obtain ⟨c, rfl⟩ : ∃ n : Nat, c = n := ⟨c.toNat, by omega⟩
  refine Spc.intro Try.func8 rfl (Nat.le_of_ble_eq_true rfl) fun w0 => ?_
  have hI := hIb w0
  have hA := Own.below w0
  refine J.heap0 1000 (newB w0) ?_
  refine J.seq (J.region mixed hI (by kernel_rfl) ?_)
  repeat (refine Plan.assign rfl rfl rfl rfl ?_)
  refine J.seq (J.seq (J.region mixed hI (by kernel_rfl) ?_))
  refine Plan.call (B := w0.heap.size) rfl rfl rfl (awakeP_fn) Try.func9 rfl rfl (hBb w0) (by repeat (exact Opnds.nil)) ?_
  repeat (first | refine Plan.move rfl rfl rfl rfl ?_ | refine Plan.un rfl rfl rfl rfl rfl ?_)
  refine Plan.call (B := w0.heap.size) rfl rfl rfl (few_fn L hl hok) Try.func10 rfl rfl (hBb w0) (by repeat (first | exact Opnds.nil | refine Opnds.cons rfl (by exact Sub.old (fun _ h => h)) ?_)) ?_
  repeat (first | refine Plan.move rfl rfl rfl rfl ?_ | refine Plan.pick rfl rfl rfl rfl rfl ?_ | refine Plan.un rfl rfl rfl rfl rfl ?_)
  refine Plan.splitND (fun hf => ?_) (fun hf => ?_)
  · repeat (first | refine Plan.skip rfl rfl ?_ | refine Plan.pick rfl rfl rfl rfl rfl ?_)
    refine J.condT rfl ?_
    refine J.seq (J.region mixed hI (by kernel_rfl) ?_)
    refine Plan.call (B := w0.heap.size) rfl rfl rfl (awakeP_fn) Try.func9 rfl rfl (hBb w0) (by repeat (exact Opnds.nil)) ?_
    repeat (refine Plan.assign rfl rfl rfl rfl ?_)
    exact J.ret (Nrm.ret1 rfl (fun _ h => h) rfl fun B _ => Sub.refl _)
  have hl60 : L.length ≤ 60 := hf.1
  repeat (refine Plan.move rfl rfl rfl rfl ?_)
  refine Plan.call (B := w0.heap.size) rfl rfl rfl (unlike_fn L (by omega) hok) Try.func18 rfl rfl (hBb w0) (by repeat (first | exact Opnds.nil | refine Opnds.cons rfl (by exact Sub.old (fun _ h => h)) ?_)) ?_
  repeat (first | refine Plan.pick rfl rfl rfl rfl rfl ?_ | refine Plan.un rfl rfl rfl rfl rfl ?_)
  refine J.condND rfl (fun hu => ?_) (fun hu => ?_)
  · refine J.seq (J.region mixed hI (by kernel_rfl) ?_)
    refine Plan.call (B := w0.heap.size) rfl rfl rfl (awakeP_fn) Try.func9 rfl rfl (hBb w0) (by repeat (exact Opnds.nil)) ?_
    repeat (refine Plan.assign rfl rfl rfl rfl ?_)
    exact J.ret (Nrm.ret1 rfl (fun _ h => h) rfl fun B _ => Sub.refl _)
  refine J.skip ?_
  obtain ⟨items, hit⟩ : ∃ items, items = itemsM key L := ⟨_, rfl⟩
  have hiu : unlikeM items := by rw [hit]; exact items_unlike hu
  have hil : items.length ≤ 60 := by rw [hit]; have := items_len key L; omega
  have hio : ∀ e ∈ items, e.okV := fun e he => by rw [hit] at he; exact hok e (order_node e (List.mem_filter.1 he).1).1
  have hN : SpcR Try.prog 16 [row 26 (evsC L), .ex (str key)] emp fun B => own B 41 26 (evsC items) := fun w args F hd _ => by rw [hit]; exact items_fn L (by omega) hok key w args hd
  refine J.seq (J.region mixed hI (by kernel_rfl) ?_)
  repeat (refine Plan.move rfl rfl rfl rfl ?_)
  refine Plan.callRO (key := 1000) rfl rfl rfl hN (fun _ => rfl) Try.func16 rfl rfl (by intro _ e; cases e; decide) (by repeat (first | exact Opnds.nil | refine Opnds.cons rfl (by first | exact Sub.refl _ | exact Sub.old (fun _ h => h)) ?_)) rfl hA Ent.emp fun Bi m ci hm => ?_
  obtain rfl : m = items.length := by rw [evs_len] at hm; omega
  repeat (refine Plan.assign rfl rfl rfl rfl ?_)
  refine J.seq (J.seq (J.region mixed hI (by kernel_rfl) ?_))
  repeat (first | refine Plan.move rfl rfl rfl rfl ?_ | refine Plan.lenE rfl rfl rfl rfl (by exact Try.underlying22) ?_ | (refine Plan.ints rfl rfl rfl rfl rfl rfl ?_; (skip)))
  refine J.condD rfl (fun h0 => ?_) (fun h0 => ?_)
  · refine J.seq (J.region mixed hI (by kernel_rfl) ?_)
    repeat (refine Plan.assign rfl rfl rfl rfl ?_)
    exact J.ret (Nrm.ret1 rfl (fun _ h => h) rfl fun B _ => Sub.refl _)
  have hpos : 0 < items.length := by omega
  refine J.skip ?_
  refine J.tellC (key := 1000) (q := 0) rfl rfl (row_at (by rw [evs_len]; omega)) ?_
  rintro ⟨g, rfl⟩
  refine J.seq (J.region mixed hI (by kernel_rfl) ?_)
  repeat (first | refine Plan.move rfl rfl rfl rfl ?_ | refine Plan.lenE rfl rfl rfl rfl (by exact Try.underlying22) ?_ | (refine Plan.convInt rfl rfl rfl rfl (by exact Try.underlying3) (by first | exact Try.underlying3 | exact Try.underlying35) ?_; (refine Plan.int (u64r (by omega)) ?_)))
  refine Plan.remI rfl rfl rfl rfl rfl (by omega) ?_
  obtain ⟨k, hk⟩ : ∃ k, k = c % items.length := ⟨_, rfl⟩
  have hkl : k < items.length := by rw [hk]; exact Nat.mod_lt _ hpos
  rw [← hk]
  refine Plan.convInt rfl rfl rfl rfl (by exact Try.underlying35) (by exact Try.underlying3) ?_
  refine Plan.int (i64r (by omega)) ?_
  repeat (refine Plan.assign rfl rfl rfl rfl ?_)
  obtain ⟨d, hd⟩ : ∃ d, d = dotOf items[k] := ⟨_, rfl⟩
  have hkd : ((evsC items).drop (k * 26)).take 2 = [vi d.1, vi d.2] := by rw [evs_dot items hkl, hd]; rfl
  have hdo : okD d := by
    have := hio _ (List.getElem_mem hkl)
    rw [hd]; exact ⟨this.1, this.2.1⟩
  refine J.seq (J.region mixed hI (by kernel_rfl) ?_)
  repeat (refine Plan.move rfl rfl rfl rfl ?_)
  refine Plan.indexC (off := k * 26) rfl rfl rfl rfl rfl eltE hkl (by omega) ?_
  refine Plan.fieldC (off := k * 26) rfl rfl rfl rfl Try.underlying41 rfl (by kernel_rfl) rfl ?_
  refine Plan.loadAggC (key := 1000) (q := 0) (off := k * 26) (vs := [vi d.1, vi d.2]) rfl rfl rfl rfl rfl rfl (row_reads hkd) Try.underlying26 rfl (by kernel_rfl) (by decide) ?_
  refine Plan.build (cells := #[vi 10, str key, str [], str [], vi 0, vi d.1, vi d.2]) rfl rfl (ps := [(0, _), (1, _), (5, _)]) rfl (Parts.cons rfl (Parts.cons rfl (Parts.cons rfl Parts.nil))) (by kernel_rfl) ?_
  refine Plan.build (cells := (xrM key d 0).enc.toArray) rfl rfl (ps := [(3, _)]) rfl (Parts.cons rfl Parts.nil) (by kernel_rfl) ?_
  refine Plan.allocC (key := 1000) (z := .agg ev0.enc.toArray) rfl rfl rfl (by intro _ e; cases e; decide) (by kernel_rfl) rfl hA fun ξ => ?_
  refine Plan.storeC (key := 1000) (q := 1) (off := 0) rfl rfl rfl rfl rfl rfl (by simp [Value.cells, Value.oneCell', EvV.enc, str]) (by show _ = some (xrM key d 0).enc.toArray.size; kernel_rfl) rfl hA rfl (obj_pat (Nat.le_of_ble_eq_true rfl)) ?_
  repeat (fail)
  refine J.seq (J.seq (J.region mixed hI (by kernel_rfl) ?_))
  repeat (refine Plan.move rfl rfl rfl rfl ?_)
  refine J.block (J.loop (rvE w0 L key items g ci k ξ d) (fun i => i ≤ 16) (fun i => 16 - i) 0 (Nat.zero_le _) ?_ ?_)
  · repeat (first | exact Weak.nil | refine Weak.cons rfl (Sub.refl _) ?_)
  intro i hi
  refine J.seq (J.region mixed hI (by kernel_rfl) ?_)
  repeat ((refine Plan.ints rfl rfl rfl rfl rfl rfl ?_; (skip)))
  refine J.seq (J.condD rfl (fun hc2 => ?_) (fun hc2 => ?_))
  · have hlt : i < 16 := by omega
    refine J.skip ?_
    refine J.seq (J.block ?_)
    refine J.seq (J.region mixed hI (by kernel_rfl) ?_)
    repeat (first | refine Plan.move rfl rfl rfl rfl ?_ | refine Plan.assign rfl rfl rfl rfl ?_)
    refine J.region mixed hI (by kernel_rfl) ?_
    repeat (first | refine Plan.move rfl rfl rfl rfl ?_ | refine Plan.fieldC rfl rfl rfl rfl (by exact Try.underlying41) rfl (by kernel_rfl) (by exact (rfl : _ = 3)) ?_)
    refine Plan.indexArr (off := 3 + i) (len := 16) (sz := 1) rfl rfl rfl rfl rfl Try.underlying37 (by kernel_rfl) (by omega) (by omega) (by simp) ?_
    refine Plan.storeC (key := 1000) (q := 1) (off := 3 + i) rfl rfl rfl rfl rfl rfl (by simp [Value.cells, Value.oneCell']) (by kernel_rfl) rfl hA rfl (obj_pat (show 3 + i + 1 ≤ (xrM key d i).enc.length by rw [encE]; omega)) ?_
    have hset : (xrM key d i).enc.take (3 + i) ++ (vi 1048576).cells.toList ++ (xrM key d i).enc.drop (3 + i + (vi 1048576).cells.toList.length) = (xrM key d (i + 1)).enc := xr_set key d hlt
    rw [hset]
    repeat (fail)
    refine J.region mixed hI (by kernel_rfl) ?_
    repeat (first | refine Plan.move rfl rfl rfl rfl ?_ | (refine Plan.ints rfl rfl rfl rfl rfl rfl ?_; (refine Plan.int (i64r (by omega)) ?_)))
    refine Plan.int (y := ((i + 1 : Nat) : Int)) (by omega) ?_
    repeat (fail)
    exact Nrm.next (i + 1) hlt (by omega) (by repeat (first | exact Weak.nil | refine Weak.cons rfl (Sub.refl _) ?_))
  have hie : i = 16 := by omega
  subst hie
  refine J.exit ?_
  obtain ⟨x, hx⟩ : ∃ x, x = xrM key d 16 := ⟨_, rfl⟩
  have hxo : x.okV := by rw [hx]; exact xr_okV key hkey hdo 16
  unfold rvE
  rw [← hx]
  refine J.seq (J.region mixed hI (by kernel_rfl) ?_)
  repeat (refine Plan.move rfl rfl rfl rfl ?_)
  refine Plan.indexC (off := k * 26) rfl rfl rfl rfl rfl eltE hkl (by omega) ?_
  refine Plan.fieldC (off := k * 26) rfl rfl rfl rfl Try.underlying41 rfl (by kernel_rfl) rfl ?_
  refine Plan.loadAggC (key := 1000) (q := 0) (off := k * 26) (vs := [vi d.1, vi d.2]) rfl rfl rfl rfl rfl rfl (row_reads hkd) Try.underlying26 rfl (by kernel_rfl) (by decide) ?_
  refine Plan.allocC (key := 1000) (z := aggD 0 0) rfl rfl rfl (by intro _ e; cases e; decide) (by kernel_rfl) rfl hA fun ζ => ?_
  refine Plan.storeC (key := 1000) (q := 2) (off := 0) rfl rfl rfl rfl rfl rfl (by simp [Value.cells, Value.oneCell']) (by kernel_rfl) rfl hA rfl (obj_pat (Nat.le_of_ble_eq_true rfl)) ?_
  repeat (fail)
  refine J.seq (J.seq (J.region mixed hI (by kernel_rfl) ?_))
  repeat (first | refine Plan.move rfl rfl rfl rfl ?_ | (refine Plan.ints rfl rfl rfl rfl rfl rfl ?_; (skip)) | refine Plan.fieldC rfl rfl rfl rfl (by first | exact Try.underlying41 | exact Try.underlying26) rfl (by kernel_rfl) (by exact (rfl : _ = 0)) ?_ | refine Plan.loadC (key := 1000) (q := 2) rfl rfl rfl rfl rfl rfl (obj_reads1 rfl) (by exact Try.underlying3) (by rfl) (by decide) ?_)
  by_cases g1 : d.1 < 0
  case pos =>
    refine Plan.boolv (y := true) (decide_eq_true g1) ?_
    repeat (first | refine Plan.move rfl rfl rfl rfl ?_ | refine Plan.skip rfl rfl ?_ | refine Plan.pick rfl rfl rfl rfl rfl ?_)
    refine J.condT rfl ?_
    refine J.seq (J.region mixed hI (by kernel_rfl) ?_)
    repeat (refine Plan.assign rfl rfl rfl rfl ?_)
    exact J.ret (Nrm.ret1 rfl (fun _ h => h) rfl fun B _ => Sub.refl _)
  case neg =>
  refine Plan.boolv (y := false) (decide_eq_false g1) ?_
  repeat (first | refine Plan.move rfl rfl rfl rfl ?_ | refine Plan.pick rfl rfl rfl rfl rfl ?_ | (refine Plan.ints rfl rfl rfl rfl rfl rfl ?_; (skip)) | refine Plan.fieldC rfl rfl rfl rfl (by first | exact Try.underlying41 | exact Try.underlying26) rfl (by kernel_rfl) (by first | exact (rfl : _ = 0) | exact (rfl : _ = 1)) ?_ | refine Plan.loadC (key := 1000) (q := 2) rfl rfl rfl rfl rfl rfl (obj_reads1 rfl) (by exact Try.underlying3) (by rfl) (by decide) ?_)
  by_cases g2 : d.1 ≥ 16
  case pos =>
    refine Plan.boolv (y := true) (decide_eq_true g2) ?_
    repeat (first | refine Plan.move rfl rfl rfl rfl ?_ | refine Plan.skip rfl rfl ?_ | refine Plan.pick rfl rfl rfl rfl rfl ?_)
    refine J.condT rfl ?_
    refine J.seq (J.region mixed hI (by kernel_rfl) ?_)
    repeat (refine Plan.assign rfl rfl rfl rfl ?_)
    exact J.ret (Nrm.ret1 rfl (fun _ h => h) rfl fun B _ => Sub.refl _)
  case neg =>
  refine Plan.boolv (y := false) (decide_eq_false g2) ?_
  repeat (first | refine Plan.move rfl rfl rfl rfl ?_ | refine Plan.pick rfl rfl rfl rfl rfl ?_ | (refine Plan.ints rfl rfl rfl rfl rfl rfl ?_; (skip)) | refine Plan.fieldC rfl rfl rfl rfl (by first | exact Try.underlying41 | exact Try.underlying26) rfl (by kernel_rfl) (by exact (rfl : _ = 1)) ?_ | refine Plan.loadC (key := 1000) (q := 2) rfl rfl rfl rfl rfl rfl (obj_reads1 rfl) (by exact Try.underlying3) (by rfl) (by decide) ?_)
  by_cases g3 : d.2 < 1
  case pos =>
    refine Plan.boolv (y := true) (decide_eq_true g3) ?_
    repeat (first | refine Plan.skip rfl rfl ?_ | refine Plan.pick rfl rfl rfl rfl rfl ?_)
    refine J.condT rfl ?_
    refine J.seq (J.region mixed hI (by kernel_rfl) ?_)
    repeat (refine Plan.assign rfl rfl rfl rfl ?_)
    exact J.ret (Nrm.ret1 rfl (fun _ h => h) rfl fun B _ => Sub.refl _)
  case neg =>
  refine Plan.boolv (y := false) (decide_eq_false g3) ?_
  repeat (first | refine Plan.pick rfl rfl rfl rfl rfl ?_ | (refine Plan.ints rfl rfl rfl rfl rfl rfl ?_; (skip)) | refine Plan.fieldC rfl rfl rfl rfl (by first | exact Try.underlying41 | exact Try.underlying26) rfl (by kernel_rfl) (by exact (rfl : _ = 1)) ?_ | refine Plan.loadC (key := 1000) (q := 2) rfl rfl rfl rfl rfl rfl (obj_reads1 rfl) (by exact Try.underlying3) (by rfl) (by decide) ?_)
  by_cases g4 : d.2 > 1048576
  case pos =>
    refine Plan.boolv (y := true) (decide_eq_true g4) ?_
    repeat (fail)
    refine J.condT rfl ?_
    refine J.seq (J.region mixed hI (by kernel_rfl) ?_)
    repeat (refine Plan.assign rfl rfl rfl rfl ?_)
    exact J.ret (Nrm.ret1 rfl (fun _ h => h) rfl fun B _ => Sub.refl _)
  case neg =>
  refine Plan.boolv (y := false) (decide_eq_false g4) ?_
  repeat (fail)
  refine J.condF rfl ?_
  refine J.skip ?_
  have hdp : dotP d.1 d.2 := ⟨by omega, by omega, by omega, by omega⟩
  have hMo : ∀ e ∈ L ++ [x], e.okV := fun e he => by
    rcases List.mem_append.1 he with h | h
    · exact hok e h
    · rw [List.mem_singleton.1 h]; exact hxo
  have c1 := items_fn (L ++ [x]) (by simp; omega) hMo key
  rw [hx, rem_items hdp, ← hx, ← hit, hd, rest_at hiu hkl] at c1
  refine J.seeC (t := 7) (key := 1000) (q := 0) rfl rfl rfl (fun w F h => row_rowH h) ?_
  refine J.base fun w1 hw1 => ?_
  have hI1 := hIb w1
  refine J.heapBack (key := 1000) (fun _ h => h) rfl ?_
  refine J.seq ?_
  refine J.loose2 [(6, str key)] [(1, .ex (str key))] mixed hI1 rfl rfl rfl (by kernel_rfl) (by kernel_rfl) (by kernel_rfl) rfl rfl (fun ⟨_, _, h⟩ => h) (fun _ _ _ _ h => h) (by repeat (first | exact Weak.nil | refine Weak.cons rfl (Sub.refl _) ?_)) ?_ ?_
  · exact Gives.cons [(1, .ex (str key))] (by kernel_rfl) rfl (by kernel_rfl) (Plan.move rfl rfl rfl rfl (Plan.gives rfl)) Gives.nil
  refine Plan.litTight (B := w1.heap.size) (m := 0) (vs := []) rfl rfl rfl eltE rfl (fun w h => h.size) rfl (by simp) (by decide) ?_
  repeat (refine Plan.move rfl rfl rfl rfl ?_)
  refine Plan.appendFullOwn rfl rfl rfl rfl (Sub.refl _) rfl (Sub.old fun w h => hI w1 w hw1 h) eltE (evs_one L) (by rw [evs_len]; simp [flat]; omega) ?_
  rw [show flat [] ++ evsC L = evsC L from rfl]
  refine Plan.loadAggC (key := 1000) (q := 1) (vs := x.enc) rfl rfl rfl rfl rfl rfl obj_whole Try.underlying41 rfl (by rw [encE]; kernel_rfl) (by decide) ?_
  refine Plan.lit (B := w1.heap.size) rfl rfl rfl eltE rfl (hBb w1) rfl (by simp [Value.cells, EvV.enc]) (by decide) ?_
  refine Plan.append (B := w1.heap.size) (news := evsC [x]) rfl rfl rfl rfl (Sub.refl _) rfl (Sub.rowEq (by simp [evsC, flat, Value.cells]) Sub.own) eltE (by intro _ e; cases e; decide) (hGb w1) (evs_one _) (by rw [evs_len, evs_len]; simp; omega) ?_
  rw [← evs_app]
  repeat (refine Plan.assign rfl rfl rfl rfl ?_)
  refine Plan.call (B := w1.heap.size) rfl rfl rfl c1 Try.func16 rfl rfl (hBb w1) (Opnds.cons rfl Sub.own (Opnds.cons rfl (Sub.refl _) Opnds.nil)) ?_
  repeat (refine Plan.assign rfl rfl rfl rfl ?_)
  refine J.base fun w2 hw2 => ?_
  have hI2 := hIb w2
  refine J.nameOld (t := 12) rfl fun u hu => ?_
  have hur : (row 26 (evsC (items.take k ++ items.drop (k + 1)))).den w2 u := own_row hu
  have hln : (items.take k ++ items.drop (k + 1)).length ≤ 60 := by simp; omega
  have hso : ∀ e ∈ items.take k ++ items.drop (k + 1), e.okV := fun e he => by
    rcases List.mem_append.1 he with h | h
    · exact hio e (List.mem_of_mem_take h)
    · exact hio e (List.mem_of_mem_drop h)
  have hst : evsC (items.take k) = ((evsC items).take (k * 26)).drop (0 * 26) := by
    have h1 : evsC items = evsC (items.take k) ++ evsC (items.drop k) := by rw [← evs_app, List.take_append_drop]
    rw [h1, List.take_left' (by rw [evs_len, List.length_take, Nat.min_eq_left (by omega)])]; rfl
  have hsd : evsC (items.drop (k + 1)) = ((evsC items).take (items.length * 26)).drop ((k + 1) * 26) := by
    have h1 : evsC items = evsC (items.take (k + 1)) ++ evsC (items.drop (k + 1)) := by rw [← evs_app, List.take_append_drop]
    rw [List.take_of_length_le (by rw [evs_len]; omega)]
    rw [h1, List.drop_left' (by rw [evs_len, List.length_take, Nat.min_eq_left (by omega)])]
  refine J.seq ?_
  refine J.loose2 [(0, u)] [(12, .ex u)] mixed hI2 rfl rfl rfl (by kernel_rfl) (by kernel_rfl) (by kernel_rfl) rfl rfl (fun ⟨_, _, h⟩ => h) (fun _ _ _ _ h => h) (by repeat (first | exact Weak.nil | refine Weak.cons rfl (Sub.refl _) ?_)) ?_ ?_
  · exact Gives.cons [(12, .ex u)] (by kernel_rfl) rfl (by kernel_rfl) (Plan.move rfl rfl rfl rfl (Plan.gives rfl)) Gives.nil
  repeat (refine Plan.assign rfl rfl rfl rfl ?_)
  refine Plan.litTight (B := w2.heap.size) (m := 0) (vs := []) rfl rfl rfl eltE rfl (fun w h => h.size) rfl (by simp) (by decide) ?_
  repeat (refine Plan.move rfl rfl rfl rfl ?_)
  refine Plan.sliceRow (m := items.length) (a0 := 0) (b0 := k) rfl rfl rfl rfl (Sub.old fun w h => hI1 w2 w hw2 h) eltE (by rw [evs_len]) (.inl ⟨rfl, rfl⟩) (.inr ⟨_, _, rfl, rfl⟩) (Nat.zero_le _) (by omega) ?_
  rw [← hst]
  refine Plan.appendFullOwn rfl rfl rfl rfl (Sub.refl _) rfl (Sub.refl _) eltE (evs_one _) (by rw [evs_len, List.length_take]; simp [flat]; omega) ?_
  rw [show flat [] ++ evsC (items.take k) = evsC (items.take k) from rfl]
  repeat (first | refine Plan.move rfl rfl rfl rfl ?_ | (refine Plan.ints rfl rfl rfl rfl rfl rfl ?_; (refine Plan.int (i64r (by omega)) ?_)))
  refine Plan.int (y := ((k + 1 : Nat) : Int)) (by omega) ?_
  refine Plan.sliceRow (m := items.length) (a0 := k + 1) (b0 := items.length) rfl rfl rfl rfl (Sub.old fun w h => hI1 w2 w hw2 h) eltE (by rw [evs_len]) (.inr ⟨_, _, rfl, rfl⟩) (.inl ⟨rfl, rfl⟩) (by omega) (Nat.le_refl _) ?_
  rw [← hsd]
  refine Plan.append (B := w2.heap.size) (news := evsC (items.drop (k + 1))) rfl rfl rfl rfl (Sub.refl _) rfl (Sub.refl _) eltE (by intro _ e; cases e; decide) (hGb w2) (evs_one _) (by rw [evs_len, evs_len, List.length_take, List.length_drop]; omega) ?_
  rw [← evs_app]
  refine Plan.call (B := w2.heap.size) rfl rfl rfl (sameE_fn (items.take k ++ items.drop (k + 1)) (by omega) hso) Try.func13 rfl rfl (hBb w2) (Opnds.cons rfl (Sub.known (fun _ h => h) hur) (Opnds.cons rfl Sub.own Opnds.nil)) ?_
  repeat (refine Plan.assign rfl rfl rfl rfl ?_)
  exact J.ret (Nrm.ret1 rfl (fun w h => hI w1 w hw1 (hI1 w2 w hw2 h)) rfl fun B _ => Sub.refl _)
theorem lawRemovesC (ls : List (List Value)) (key : List UInt8) (c : Int) (hl : ls.length ≤ 9223372036854775807) (hcs : ∀ c ∈ ls, CellsOk kdsEvent c) (hkey : key.length ≤ 9223372036854775807) (hc : 0 ≤ c ∧ c ≤ 18446744073709551615) : Spc Try.prog 8 [row 26 ls.flatten, .ex (str key), .ex (.int .u64 c)] fun _ => .ex (.bool true) := by
  obtain ⟨es, h1, h2, h3⟩ := evs_of ls hcs
  rw [h2]
  exact lawRemoves es (by omega) h3 key hkey c hc
end Go.Proofs.Ytfglecmimoeinaa
end
