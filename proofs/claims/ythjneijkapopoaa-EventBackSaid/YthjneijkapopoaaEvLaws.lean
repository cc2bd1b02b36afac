/-
  EventDecodes, EventOne, EventBack.
-/
import Derived.Test.YthjneijkapopoaaEvRefDec
import Derived.Test.YthjneijkapopoaaEvAwake
import Derived.Test.YthjneijkapopoaaFreeFull2
set_option linter.unusedSimpArgs false
set_option linter.unusedVariables false
set_option maxRecDepth 20000
namespace Go.Proofs.Ythjneijkapopoaa
open Go.Free Go.RowKit Go.Proofs
set_option maxHeartbeats 4000000

theorem formedE (zs : Array Value) (h : zs.size = kdsEvent.length) : (Value.agg zs).formed Try.prog 31 = true := by
  have hc : Try.prog.cellsOf 31 = 26 := by kernel_rfl
  unfold Value.formed
  rw [Try.underlying31]
  simp only [hc, h]
  rfl
theorem Plan.eqEv {ops : Array Oper} {Q : Exit → Act → World → Prop} {n : Nat} {I : World → Prop} {k i : Nat} {E : Env} {o : Oper} {d : Bool} {x y : Operand} {yt : TypeId} {op : BinOp} {a b : EvV} (r v : Bool) (ho : ops[i]? = some o) (hop : o.op = .binOp op 31 x y yt) (hg : wantB ops E o = some true)
    (hx : opF E x = some (.ex (aggE a))) (hy : opF E y = some (.ex (aggE b))) (ha : a.okV) (hb : b.okV) (hr : r = true ↔ a.enc = b.enc) (hv : (op = .eql ∧ v = r) ∨ (op = .neq ∧ v = !r))
    (h : Plan Try.prog ops Q n I d k (i + 1) (setE o.dst (.ex (.bool v)) E)) : Plan Try.prog ops Q n I d (k + 1) i E :=
  Plan.eqAgg (m := 9) (l := kdsEvent) (xs := a.enc) (ys := b.enc) (r := r) ho hop hg hx hy (by decide) (by kernel_rfl) (by kernel_rfl) (by kernel_rfl) (enc_ok ha) (enc_ok hb) formedE hr hv h

theorem eventDecodesE (l : List UInt8) (hl : l.length ≤ 9223372036854775807) : Spc Try.prog 10 [.ex (str l)] fun _ => .ex (.bool true) := by
  refine Spc.intro Try.func10 rfl (Nat.le_of_ble_eq_true rfl) fun w0 => ?_
  have hI := hIb w0
  have hA := Own.below w0
  have ok := decR_ok l
  have k1 := decode_fn l hl
  have k2 := refdecode_fn l hl
  generalize decR l = R at *
  generalize decE l = er at *
  refine J.heap0 1000 (newB w0) ?_
  repeat (first | refine Plan.assign rfl rfl rfl rfl ?_ | refine J.seq (J.region mixed hI (by kernel_rfl) ?_) | refine J.seq (J.seq (J.region mixed hI (by kernel_rfl) ?_)))
  refine Plan.call (B := w0.heap.size) rfl rfl rfl (awakeE_fn) Try.func18 rfl rfl (hBb w0) (by repeat (exact Opnds.nil)) ?_
  repeat (first | refine Plan.move rfl rfl rfl rfl ?_ | refine Plan.un rfl rfl rfl rfl rfl ?_ | refine J.seq (J.region mixed hI (by kernel_rfl) ?_) | refine J.condF rfl ?_ | refine J.skip ?_)
  refine Plan.convSB rfl rfl rfl rfl Try.underlying9 Try.underlying40 Try.underlying5 (by omega) ?_
  refine Plan.call (B := w0.heap.size) rfl rfl rfl (k1) Try.func29 rfl rfl (hBb w0) (by repeat (first | exact Opnds.nil | refine Opnds.cons rfl (by exact Sub.refl _) ?_)) ?_
  repeat (first | refine Plan.move rfl rfl rfl rfl ?_ | refine Plan.extract rfl rfl rfl rfl rfl ?_)
  refine Plan.allocC (key := 1000) (z := .agg ev0.enc.toArray) rfl rfl rfl (by intro _ e; cases e; decide) (by kernel_rfl) rfl hA fun α => ?_
  refine Plan.storeC (key := 1000) (q := 0) (off := 0) rfl rfl rfl rfl rfl rfl (by simp [Value.cells, Value.oneCell', EvV.enc, str]) (by show _ = some R.enc.toArray.size; kernel_rfl) rfl hA rfl (obj_pat (Nat.le_of_ble_eq_true rfl)) ?_
  repeat (first | refine Plan.move rfl rfl rfl rfl ?_ | refine Plan.assign rfl rfl rfl rfl ?_ | refine J.seq (J.region mixed hI (by kernel_rfl) ?_))
  refine Plan.call (B := w0.heap.size) rfl rfl rfl (k2) Try.func30 rfl rfl (hBb w0) (by repeat (first | exact Opnds.nil | refine Opnds.cons rfl (by exact Sub.refl _) ?_)) ?_
  repeat (first | refine Plan.move rfl rfl rfl rfl ?_ | refine Plan.extract rfl rfl rfl rfl rfl ?_)
  refine Plan.allocC (key := 1000) (z := .agg ev0.enc.toArray) rfl rfl rfl (by intro _ e; cases e; decide) (by kernel_rfl) rfl hA fun β => ?_
  refine Plan.storeC (key := 1000) (q := 1) (off := 0) rfl rfl rfl rfl rfl rfl (by simp [Value.cells, Value.oneCell', EvV.enc, str]) (by show _ = some R.enc.toArray.size; kernel_rfl) rfl hA rfl (obj_pat (Nat.le_of_ble_eq_true rfl)) ?_
  repeat (first | refine Plan.assign rfl rfl rfl rfl ?_ | refine J.seq (J.region mixed hI (by kernel_rfl) ?_))
  refine Plan.loadAggC (key := 1000) (q := 0) (vs := R.enc) rfl rfl rfl rfl rfl rfl obj_whole Try.underlying31 rfl (by rw [encE]; kernel_rfl) (by decide) ?_
  refine Plan.loadAggC (key := 1000) (q := 1) (vs := R.enc) rfl rfl rfl rfl rfl rfl obj_whole Try.underlying31 rfl (by rw [encE]; kernel_rfl) (by decide) ?_
  refine Plan.eqEv (a := R) (b := R) true true rfl rfl rfl rfl rfl ok ok (by simp) (.inl ⟨rfl, rfl⟩) ?_
  repeat (first | refine Plan.move rfl rfl rfl rfl ?_ | refine Plan.assign rfl rfl rfl rfl ?_ | refine Plan.pick rfl rfl rfl rfl rfl ?_ | (refine Plan.ints rfl rfl rfl rfl rfl rfl ?_; (skip)))
  refine Plan.eqT rfl ?_
  repeat (fail)
  exact J.ret (Nrm.ret1 rfl (fun _ h => h) rfl fun B _ => Sub.refl _)

theorem eventOneE (l : List UInt8) (hl : l.length ≤ 9223372036854775807) : Spc Try.prog 12 [.ex (str l)] fun _ => .ex (.bool true) := by
  refine Spc.intro Try.func12 rfl (Nat.le_of_ble_eq_true rfl) fun w0 => ?_
  have hI := hIb w0
  have hA := Own.below w0
  have ok := decR_ok l
  have k1 := decode_fn l hl
  have d1 := @dec_right l
  have d2 := (dec_cases l).2.2.2.1
  generalize decV l = V at *
  generalize decR l = R at *
  generalize decE l = er at *
  refine J.heap0 1000 (newB w0) ?_
  repeat (first | refine Plan.assign rfl rfl rfl rfl ?_ | refine J.seq (J.region mixed hI (by kernel_rfl) ?_) | refine J.seq (J.seq (J.region mixed hI (by kernel_rfl) ?_)))
  refine Plan.call (B := w0.heap.size) rfl rfl rfl (awakeE_fn) Try.func18 rfl rfl (hBb w0) (by repeat (exact Opnds.nil)) ?_
  repeat (first | refine Plan.move rfl rfl rfl rfl ?_ | refine Plan.un rfl rfl rfl rfl rfl ?_ | refine J.seq (J.region mixed hI (by kernel_rfl) ?_) | refine J.condF rfl ?_ | refine J.skip ?_)
  refine Plan.convSB rfl rfl rfl rfl Try.underlying9 Try.underlying40 Try.underlying5 (by omega) ?_
  refine Plan.call (B := w0.heap.size) rfl rfl rfl (k1) Try.func29 rfl rfl (hBb w0) (by repeat (first | exact Opnds.nil | refine Opnds.cons rfl (by exact Sub.refl _) ?_)) ?_
  repeat (first | refine Plan.move rfl rfl rfl rfl ?_ | refine Plan.extract rfl rfl rfl rfl rfl ?_)
  refine Plan.allocC (key := 1000) (z := .agg ev0.enc.toArray) rfl rfl rfl (by intro _ e; cases e; decide) (by kernel_rfl) rfl hA fun α => ?_
  refine Plan.storeC (key := 1000) (q := 0) (off := 0) rfl rfl rfl rfl rfl rfl (by simp [Value.cells, Value.oneCell', EvV.enc, str]) (by show _ = some R.enc.toArray.size; kernel_rfl) rfl hA rfl (obj_pat (Nat.le_of_ble_eq_true rfl)) ?_
  repeat (first | refine Plan.move rfl rfl rfl rfl ?_ | refine Plan.assign rfl rfl rfl rfl ?_ | (refine Plan.ints rfl rfl rfl rfl rfl rfl ?_; (skip)) | refine J.seq (J.seq (J.region mixed hI (by kernel_rfl) ?_)))
  refine J.condN rfl (fun he => ?_) (fun he => ?_)
  · obtain rfl := d2 (by omega)
    repeat (refine J.seq (J.region mixed hI (by kernel_rfl) ?_))
    refine Plan.loadAggC (key := 1000) (q := 0) (vs := ev0.enc) rfl rfl rfl rfl rfl rfl obj_whole Try.underlying31 rfl (by rw [encE]; kernel_rfl) (by decide) ?_
    refine Plan.build (cells := ev0.enc.toArray) rfl rfl (ps := []) rfl Parts.nil (by kernel_rfl) ?_
    refine Plan.eqEv (a := ev0) (b := ev0) true true rfl rfl rfl rfl rfl ok ok (by simp) (.inl ⟨rfl, rfl⟩) ?_
    repeat (refine Plan.assign rfl rfl rfl rfl ?_)
    exact J.ret (Nrm.ret1 rfl (fun _ h => h) rfl fun B _ => Sub.refl _)
  obtain ⟨hr, he2, rfl⟩ := d1 (by omega)
  repeat (first | refine J.seq (J.region mixed hI (by kernel_rfl) ?_) | refine J.skip ?_)
  refine Plan.loadAggC (key := 1000) (q := 0) (vs := R.enc) rfl rfl rfl rfl rfl rfl obj_whole Try.underlying31 rfl (by rw [encE]; kernel_rfl) (by decide) ?_
  refine Plan.call (B := w0.heap.size) rfl rfl rfl (encode_yes R ok hr) Try.func19 rfl rfl (hBb w0) (by repeat (first | exact Opnds.nil | refine Opnds.cons rfl (by exact Sub.refl _) ?_)) ?_
  rw [he2]
  repeat (first | refine Plan.move rfl rfl rfl rfl ?_ | refine Plan.assign rfl rfl rfl rfl ?_ | refine Plan.extract rfl rfl rfl rfl rfl ?_ | (refine Plan.ints rfl rfl rfl rfl rfl rfl ?_; (skip)) | refine J.seq (J.region mixed hI (by kernel_rfl) ?_))
  refine Plan.convBS rfl rfl rfl rfl Sub.own Try.underlying40 Try.underlying9 Try.underlying5 ?_
  repeat (refine Plan.move rfl rfl rfl rfl ?_)
  refine Plan.strs rfl rfl rfl rfl rfl rfl ?_
  refine Plan.eqT rfl ?_
  repeat (first | refine Plan.move rfl rfl rfl rfl ?_ | refine Plan.pick rfl rfl rfl rfl rfl ?_)
  refine Plan.loadAggC (key := 1000) (q := 0) (vs := R.enc) rfl rfl rfl rfl rfl rfl obj_whole Try.underlying31 rfl (by rw [encE]; kernel_rfl) (by decide) ?_
  refine Plan.call (B := w0.heap.size) rfl rfl rfl (right_fn R ok) Try.func22 rfl rfl (hBb w0) (by repeat (first | exact Opnds.nil | refine Opnds.cons rfl (by exact Sub.refl _) ?_)) ?_
  refine Plan.isT hr ?_
  repeat (first | refine Plan.assign rfl rfl rfl rfl ?_ | refine Plan.pick rfl rfl rfl rfl rfl ?_)
  exact J.ret (Nrm.ret1 rfl (fun _ h => h) rfl fun B _ => Sub.refl _)

theorem encB_ge {e : EvV} (h : rightP e) : 21 ≤ (encB e).length := by
  have h19 : ∀ l : List Int, l.length ≤ (nums l).length := by
    intro l
    induction l with
    | nil => simp [nums]
    | cons x l ih =>
      have := num_pos x.toNat
      simp only [nums, List.flatMap_cons, List.length_append, List.length_cons, numI] at ih ⊢
      omega
  have h0 := h19 (encNs e)
  have h0' : (encNs e).length = 19 := rfl
  have h1 : 21 ≤ (encB1 e).length := by
    have a1 := num_pos e.kind.toNat
    have a2 := num_pos e.key.length
    unfold encB1 txt numI; simp only [List.length_append]; omega
  have h2 : (encB1 e).length ≤ (encB2 e).length := by unfold encB2; split <;> simp
  have h3 : (encB2 e).length ≤ (encB3 e).length := by unfold encB3; split <;> simp
  have h4 : (encB3 e).length ≤ (encB4 e).length := by unfold encB4; split <;> simp
  have h5 : (encB4 e).length ≤ (encB e).length := by
    unfold encB; split
    · simp only [List.length_append]; omega
    · exact Nat.le_refl _
  omega
theorem eventBackE (e : EvV) (h : e.okV) (cut : Int) (hcut : 0 ≤ cut ∧ cut ≤ 18446744073709551615) (c : UInt8) : Spc Try.prog 11 [.ex (aggE e), .ex (.int .u64 cut), .ex (.int .u8 c.toNat)] fun _ => .ex (.bool true) := by
  obtain ⟨cut, rfl⟩ : ∃ m : Nat, cut = m := ⟨cut.toNat, by omega⟩
  refine Spc.intro Try.func11 rfl (Nat.le_of_ble_eq_true rfl) fun w0 => ?_
  have hI := hIb w0
  have hA := Own.below w0
  refine J.heap0 1000 (newB w0) ?_
  repeat (refine J.seq (J.region mixed hI (by kernel_rfl) ?_))
  refine Plan.boxC (key := 1000) rfl rfl rfl (by intro _ e; cases e; decide) rfl rfl hA fun β => ?_
  repeat (first | refine Plan.assign rfl rfl rfl rfl ?_ | refine J.seq (J.seq (J.region mixed hI (by kernel_rfl) ?_)))
  refine Plan.call (B := w0.heap.size) rfl rfl rfl (awakeE_fn) Try.func18 rfl rfl (hBb w0) (by repeat (exact Opnds.nil)) ?_
  repeat (first | refine Plan.un rfl rfl rfl rfl rfl ?_ | refine J.seq (J.region mixed hI (by kernel_rfl) ?_) | refine J.condF rfl ?_ | refine J.skip ?_)
  refine Plan.loadAggC (key := 1000) (q := 0) (vs := e.enc) rfl rfl rfl rfl rfl rfl obj_whole Try.underlying31 rfl (by rw [encE]; kernel_rfl) (by decide) ?_
  by_cases hr : rightP e
  · have hge := encB_ge hr
    have hle := encB_le hr
    obtain ⟨j, hj⟩ : ∃ j, j = cut % (encB e).length := ⟨_, rfl⟩
    have hjl : j < (encB e).length := by rw [hj]; exact Nat.mod_lt _ (by omega)
    have b1 := dec_back hr
    have b2 := dec_cut hr hjl
    have b3 := dec_more hr c
    have k1 := decode_fn (encB e) (by omega)
    have k2 := decode_fn ((encB e).take j) (by rw [List.length_take]; omega)
    have k3 := decode_fn (encB e ++ [c]) (by rw [List.length_append]; simp; omega)
    have o1 := decR_ok (encB e)
    rw [b1.1] at k1
    rw [b3] at k3
    have b1' := b1.2
    generalize decR (encB e) = R1 at *
    generalize decR ((encB e).take j) = R2 at *
    generalize decE ((encB e).take j) = er2 at *
    generalize decR (encB e ++ [c]) = R3 at *
    refine Plan.call (B := w0.heap.size) rfl rfl rfl (encode_yes e h hr) Try.func19 rfl rfl (hBb w0) (by repeat (first | exact Opnds.nil | refine Opnds.cons rfl (by exact Sub.refl _) ?_)) ?_
    repeat (first | refine Plan.move rfl rfl rfl rfl ?_ | refine Plan.assign rfl rfl rfl rfl ?_ | refine Plan.extract rfl rfl rfl rfl rfl ?_)
    refine J.reheap (key := 1000) 1002 rfl ?_
    refine J.mark fun w1 hw1 => ?_
    have hI := hIb w1
    have hA := Own.below w1
    refine J.heap0 1000 (newB w1) ?_
    repeat (first | refine Plan.move rfl rfl rfl rfl ?_ | (refine Plan.ints rfl rfl rfl rfl rfl rfl ?_; (skip)) | refine J.seq (J.region mixed hI (by kernel_rfl) ?_) | refine J.seq (J.seq (J.region mixed hI (by kernel_rfl) ?_)) | refine J.condF rfl ?_ | refine J.skip ?_)
    refine Plan.call (B := w1.heap.size) rfl rfl rfl k1 Try.func29 rfl rfl (hBb w1) (by repeat (first | exact Opnds.nil | refine Opnds.cons rfl (by exact Sub.oldOwn (fun _ h => h)) ?_)) ?_
    repeat (first | refine Plan.move rfl rfl rfl rfl ?_ | refine Plan.extract rfl rfl rfl rfl rfl ?_)
    refine Plan.allocC (key := 1000) (z := .agg ev0.enc.toArray) rfl rfl rfl (by intro _ e; cases e; decide) (by kernel_rfl) rfl hA fun α => ?_
    refine Plan.storeC (key := 1000) (q := 0) (off := 0) rfl rfl rfl rfl rfl rfl (by simp [Value.cells, Value.oneCell', EvV.enc, str]) (by show _ = some R1.enc.toArray.size; kernel_rfl) rfl hA rfl (obj_pat (Nat.le_of_ble_eq_true rfl)) ?_
    repeat (refine Plan.assign rfl rfl rfl rfl ?_)
    refine J.unmark (t := 1002) (fun _ h => h) rfl ?_
    repeat (first | refine Plan.move rfl rfl rfl rfl ?_ | (refine Plan.ints rfl rfl rfl rfl rfl rfl ?_; (skip)) | refine J.seq (J.seq (J.region mixed hI (by kernel_rfl) ?_)))
    refine Plan.loadAggC (key := 1000) (q := 0) (vs := R1.enc) rfl rfl rfl rfl rfl rfl obj_whole Try.underlying31 rfl (by rw [encE]; kernel_rfl) (by decide) ?_
    refine Plan.loadAggC (key := 1002) (q := 0) (vs := e.enc) rfl rfl rfl rfl rfl rfl obj_whole Try.underlying31 rfl (by rw [encE]; kernel_rfl) (by decide) ?_
    refine Plan.eqEv (a := R1) (b := e) true false rfl rfl rfl rfl rfl o1 h (by simp [b1']) (.inr ⟨rfl, rfl⟩) ?_
    repeat (first | refine Plan.move rfl rfl rfl rfl ?_ | refine Plan.pick rfl rfl rfl rfl rfl ?_ | (refine Plan.ints rfl rfl rfl rfl rfl rfl ?_; (skip)) | refine Plan.lenB rfl rfl rfl rfl (by exact Sub.oldOwn (fun _ h => h)) Try.underlying40 ?_)
    refine Plan.isF (by omega) ?_
    repeat (first | refine Plan.move rfl rfl rfl rfl ?_ | refine Plan.lenB rfl rfl rfl rfl (by first | exact Sub.refl _ | exact Sub.oldOwn (fun _ h => h)) Try.underlying40 ?_ | (refine Plan.convInt rfl rfl rfl rfl (by exact Try.underlying3) (by first | exact Try.underlying3 | exact Try.underlying59) ?_; (refine Plan.int (u64r (by omega)) ?_)) | refine J.seq (J.region mixed hI (by kernel_rfl) ?_) | refine J.condF rfl ?_ | refine J.skip ?_)
    refine Plan.remI rfl rfl rfl rfl rfl (by omega) ?_
    rw [← hj]
    refine Plan.sliceB (a0 := 0) (b0 := j) rfl rfl rfl rfl (Sub.oldOwn (fun _ h => h)) eltB (.inl ⟨rfl, rfl⟩) (.inr ⟨_, _, rfl, rfl⟩) (Nat.zero_le _) (by omega) ?_
    rw [List.drop_zero]
    refine Plan.call (B := w1.heap.size) rfl rfl rfl k2 Try.func29 rfl rfl (hBb w1) (by repeat (first | exact Opnds.nil | refine Opnds.cons rfl (by exact Sub.refl _) ?_)) ?_
    repeat (first | refine Plan.move rfl rfl rfl rfl ?_ | refine Plan.extract rfl rfl rfl rfl rfl ?_)
    refine Plan.allocC (key := 1000) (z := .agg ev0.enc.toArray) rfl rfl rfl (by intro _ e; cases e; decide) (by kernel_rfl) rfl hA fun γ => ?_
    refine Plan.storeC (key := 1000) (q := 1) (off := 0) rfl rfl rfl rfl rfl rfl (by simp [Value.cells, Value.oneCell', EvV.enc, str]) (by show _ = some R2.enc.toArray.size; kernel_rfl) rfl hA rfl (obj_pat (Nat.le_of_ble_eq_true rfl)) ?_
    repeat (first | refine Plan.move rfl rfl rfl rfl ?_ | refine Plan.assign rfl rfl rfl rfl ?_ | refine Plan.lenB rfl rfl rfl rfl (by first | exact Sub.refl _ | exact Sub.oldOwn (fun _ h => h)) Try.underlying40 ?_ | refine J.seq (J.region mixed hI (by kernel_rfl) ?_))
    refine Plan.sliceFull rfl rfl rfl rfl (Sub.oldOwn (fun _ h => h)) eltB (by rw [bs_length]) rfl rfl ?_
    repeat (refine Plan.move rfl rfl rfl rfl ?_)
    refine Plan.lit (B := w1.heap.size) rfl rfl rfl eltB rfl (hBb w1) rfl (by simp [Value.cells]) (by decide) ?_
    refine Plan.appendFullRow (sz := 1) (xs := bs (encB e)) (news := bs [c]) rfl rfl rfl rfl Sub.full1 rfl Sub.own eltB (by simp [bs]) (by simp [bs, Value.oneCell']) (by rw [bs_length, bs_length]; simp; omega) ?_
    rw [← bs_append]
    refine Plan.call (B := w1.heap.size) rfl rfl rfl k3 Try.func29 rfl rfl (hBb w1) (by repeat (first | exact Opnds.nil | refine Opnds.cons rfl (by exact Sub.refl _) ?_)) ?_
    repeat (first | refine Plan.move rfl rfl rfl rfl ?_ | refine Plan.extract rfl rfl rfl rfl rfl ?_)
    refine Plan.allocC (key := 1000) (z := .agg ev0.enc.toArray) rfl rfl rfl (by intro _ e; cases e; decide) (by kernel_rfl) rfl hA fun δ => ?_
    refine Plan.storeC (key := 1000) (q := 2) (off := 0) rfl rfl rfl rfl rfl rfl (by simp [Value.cells, Value.oneCell', EvV.enc, str]) (by show _ = some R3.enc.toArray.size; kernel_rfl) rfl hA rfl (obj_pat (Nat.le_of_ble_eq_true rfl)) ?_
    repeat (first | refine Plan.move rfl rfl rfl rfl ?_ | refine Plan.assign rfl rfl rfl rfl ?_ | (refine Plan.ints rfl rfl rfl rfl rfl rfl ?_; (skip)) | refine J.seq (J.region mixed hI (by kernel_rfl) ?_))
    refine Plan.neT (by omega) ?_
    repeat (first | refine Plan.move rfl rfl rfl rfl ?_ | refine Plan.assign rfl rfl rfl rfl ?_ | refine Plan.pick rfl rfl rfl rfl rfl ?_ | (refine Plan.ints rfl rfl rfl rfl rfl rfl ?_; (skip)))
    exact J.ret (Nrm.ret1 rfl (fun _ h => hIb w0 _ _ hw1 h) rfl fun B _ => Sub.refl _)
  · refine Plan.call (B := w0.heap.size) rfl rfl rfl (encode_no e h hr) Try.func19 rfl rfl (hBb w0) (by repeat (first | exact Opnds.nil | refine Opnds.cons rfl (by exact Sub.refl _) ?_)) ?_
    repeat (first | refine Plan.move rfl rfl rfl rfl ?_ | refine Plan.assign rfl rfl rfl rfl ?_ | refine Plan.extract rfl rfl rfl rfl rfl ?_ | (refine Plan.ints rfl rfl rfl rfl rfl rfl ?_; (skip)) | refine J.seq (J.region mixed hI (by kernel_rfl) ?_) | refine J.seq (J.seq (J.region mixed hI (by kernel_rfl) ?_)) | refine J.condT rfl ?_)
    refine Plan.loadAggC (key := 1000) (q := 0) (vs := e.enc) rfl rfl rfl rfl rfl rfl obj_whole Try.underlying31 rfl (by rw [encE]; kernel_rfl) (by decide) ?_
    refine Plan.call (B := w0.heap.size) rfl rfl rfl (right_fn e h) Try.func22 rfl rfl (hBb w0) (by repeat (first | exact Opnds.nil | refine Opnds.cons rfl (by exact Sub.refl _) ?_)) ?_
    refine Plan.isF hr ?_
    repeat (first | refine Plan.move rfl rfl rfl rfl ?_ | refine Plan.assign rfl rfl rfl rfl ?_ | refine Plan.pick rfl rfl rfl rfl rfl ?_ | (refine Plan.ints rfl rfl rfl rfl rfl rfl ?_; (skip)) | refine Plan.un rfl rfl rfl rfl rfl ?_ | refine Plan.lenB rfl rfl rfl rfl (by exact Sub.own) Try.underlying40 ?_)
    exact J.ret (Nrm.ret1 rfl (fun _ h => h) rfl fun B _ => Sub.refl _)
end Go.Proofs.Ythjneijkapopoaa
