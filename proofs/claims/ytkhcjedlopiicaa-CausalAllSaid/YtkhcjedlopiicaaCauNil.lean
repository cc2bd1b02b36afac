/-
  Events that come too early: New, Len; a nil buffer; the law's awake; the law CausalNil.
-/
import Derived.Test.YtkhcjedlopiicaaCauOffer
set_option linter.unusedSimpArgs false
set_option linter.unusedVariables false
set_option maxRecDepth 20000
namespace Go.Proofs.Ytkhcjedlopiicaa
open Go.Free Go.RowKit Go.Proofs
set_option maxHeartbeats 8000000

theorem newC_fn : SpcC Try.prog 36 [] emp (fun _ : Nat => True) (fun β => .ex (ptr β)) (fun β => bagCE β []) := by
  refine SpcC.intro Try.func36 rfl (Nat.le_of_ble_eq_true rfl) fun w0 F => ?_
  have hI := kept_below F w0
  have hA := Own.kept F w0
  repeat (first | refine Plan.assign rfl rfl rfl rfl ?_ | refine J.seq (J.region mixed hI (by kernel_rfl) ?_))
  refine Plan.build rfl rfl rfl Parts.nil (cells := #[.slice none 0 0]) (by kernel_rfl) ?_
  refine Plan.boxC (key := 1000) rfl rfl rfl (by intro _ e; cases e; decide) rfl rfl hA fun β => ?_
  repeat (refine Plan.assign rfl rfl rfl rfl ?_)
  refine fun a w h1 h2 h3 => ?_
  refine J.nilRow (key := 1000) 134 28 rfl ?_ a w h1 h2 h3
  exact J.ret (Nrm.retC1 (key := 1000) β rfl rfl rfl trivial (Sub.refl _) (Ent.right.trans (bag_closeE (l := []) (cap := 0) (B := none))))
theorem lenC_fn (β : Nat) (B : List (Dt × EvV)) : SpcR Try.prog 40 [.ex (ptr β)] (bagCE β B) fun _ => .ex (vi B.length) := by
  refine SpcR.intro Try.func40 rfl (Nat.le_of_ble_eq_true rfl) fun w0 => ?_
  have hI := hIb w0
  repeat (first | refine Plan.move rfl rfl rfl rfl ?_ | refine Plan.assign rfl rfl rfl rfl ?_ | refine J.seq (J.region mixed hI (by kernel_rfl) ?_) | refine J.seq (J.seq (J.region mixed hI (by kernel_rfl) ?_)))
  refine Plan.eqlPtr rfl rfl rfl rfl (by kernel_rfl) ?_
  repeat (first | refine Plan.move rfl rfl rfl rfl ?_ | refine J.seq (J.region mixed hI (by kernel_rfl) ?_) | refine J.condF rfl ?_ | refine J.skip ?_)
  refine Plan.nilOk rfl rfl rfl rfl ?_
  refine Plan.fieldC rfl rfl rfl rfl (by exact Try.underlying80) rfl (by kernel_rfl) (by exact (rfl : _ = 0)) ?_
  refine Plan.callR (key := 1000) (B := 0) (q := 0) rfl rfl rfl (len_fnE β B) Try.func61 rfl rfl (fun _ _ => Nat.zero_le _) (by repeat (first | exact Opnds.nil | refine Opnds.cons rfl (by exact Sub.refl _) ?_)) rfl rfl (by decide) ?_
  repeat (refine Plan.assign rfl rfl rfl rfl ?_)
  exact J.ret (Nrm.ret1 rfl (fun _ h => h) rfl fun B _ => Sub.refl _)
theorem lenC_nil : Spc Try.prog 40 [.ex (.pointer none)] fun _ => .ex (vi 0) := by
  refine Spc.intro Try.func40 rfl (Nat.le_of_ble_eq_true rfl) fun w0 => ?_
  have hI := hIb w0
  repeat (first | refine Plan.move rfl rfl rfl rfl ?_ | refine Plan.assign rfl rfl rfl rfl ?_ | refine Plan.eqlPtr rfl rfl rfl rfl (by kernel_rfl) ?_ | refine J.seq (J.region mixed hI (by kernel_rfl) ?_) | refine J.seq (J.seq (J.region mixed hI (by kernel_rfl) ?_)) | refine J.condT rfl ?_)
  exact J.ret (Nrm.ret1 rfl (fun _ h => h) rfl fun B _ => Sub.refl _)
theorem offer_nil (e : EvV) (v : Nat → Int) : Spc Try.prog 38 [.ex (.pointer none), .ex (aggE e), .ex (aggV v)] fun _ => .ex (.slice none 0 0) := by
  refine Spc.intro Try.func38 rfl (Nat.le_of_ble_eq_true rfl) fun w0 => ?_
  have hI := hIb w0
  repeat (refine J.seq (J.region mixed hI (by kernel_rfl) ?_))
  refine Plan.boxP rfl rfl rfl rfl ?_
  refine Plan.boxP rfl rfl rfl rfl ?_
  repeat (first | refine Plan.move rfl rfl rfl rfl ?_ | refine Plan.assign rfl rfl rfl rfl ?_ | refine Plan.eqlPtr rfl rfl rfl rfl (by kernel_rfl) ?_ | refine J.seq (J.region mixed hI (by kernel_rfl) ?_) | refine J.seq (J.seq (J.region mixed hI (by kernel_rfl) ?_)) | refine J.condT rfl ?_)
  exact J.ret (Nrm.ret1 rfl (fun _ h => h) rfl fun B _ => Sub.refl _)
def evW : EvV := ⟨0, 1, 0, fun _ => 0, 11, [107], [], [], 0, 0, 0⟩
abbrev zeroV : Nat → Int := fun _ => 0
theorem evW_ok : evW.okV := by
  refine ⟨?_, ?_, ?_, fun i _ => ?_, ?_, ?_, ?_, ?_, ?_, ?_, ?_⟩ <;> first | (unfold in64 evW; simp only; omega) | (unfold evW; simp)
theorem zeroV_ok : okV zeroV := fun i _ => by unfold in64 zeroV; omega
theorem evW_told : toldE zeroV (comeE evW zeroV []) = ([evW], []) := by
  have h1 : comeE evW zeroV [] = [((0, 1), evW)] := by
    have hr : rightP evW := by decide
    have hh : ¬ hasP zeroV evW.r evW.n := by decide
    unfold comeE
    rw [if_pos ⟨hr, hh, rfl, by decide⟩]
    rfl
  rw [h1]
  rfl
theorem held_nil : heldB [] := ⟨sorted_nil, by simp⟩
theorem awakeC_fn : Spc Try.prog 35 [] fun _ => .ex (.bool true) := by
  refine Spc.intro Try.func35 rfl (Nat.le_of_ble_eq_true rfl) fun w0 => ?_
  have hI := hIb w0
  have hA := Own.below w0
  refine J.heap0 1000 (newB w0) ?_
  have ho := fun β => offer_fn β [] held_nil (by simp) evW evW_ok zeroV zeroV_ok
  rw [evW_told] at ho
  repeat (first | refine Plan.assign rfl rfl rfl rfl ?_ | refine J.seq (J.region mixed hI (by kernel_rfl) ?_))
  refine Plan.callN (key := 1000) rfl rfl rfl (newC_fn) Try.func36 rfl rfl (by intro _ e; cases e; decide) (by repeat (exact Opnds.nil)) rfl hA ?_
  intro β _
  repeat (first | refine Plan.move rfl rfl rfl rfl ?_ | refine Plan.assign rfl rfl rfl rfl ?_ | refine Plan.eqlPtr rfl rfl rfl rfl (by kernel_rfl) ?_ | refine J.seq (J.region mixed hI (by kernel_rfl) ?_) | refine J.seq (J.seq (J.region mixed hI (by kernel_rfl) ?_)) | refine J.condF rfl ?_ | refine J.skip ?_)
  refine Plan.build (cells := #[vi 0, vi 1]) rfl rfl (ps := [(1, _)]) rfl (Parts.cons rfl Parts.nil) (by kernel_rfl) ?_
  refine Plan.build (cells := evW.op.toArray) rfl rfl (ps := [(0, _), (1, _)]) rfl (Parts.cons rfl (Parts.cons rfl Parts.nil)) (by kernel_rfl) ?_
  refine Plan.build (cells := evW.enc.toArray) rfl rfl (ps := [(0, _), (3, _)]) rfl (Parts.cons rfl (Parts.cons rfl Parts.nil)) (by kernel_rfl) ?_
  refine Plan.build (cells := (vList zeroV).toArray) rfl rfl (ps := []) rfl Parts.nil (by kernel_rfl) ?_
  refine Plan.callC (key := 1000) (q := 0) rfl rfl rfl (ho β) Try.func38 rfl rfl (by intro _ e; cases e; decide) (by repeat (first | exact Opnds.nil | refine Opnds.cons rfl (by exact Sub.refl _) ?_)) rfl hA rfl ?_
  rintro ⟨O, oc⟩ _
  repeat (refine Plan.assign rfl rfl rfl rfl ?_)
  refine J.sepC (key := 1000) (q := 0) rfl rfl ?_
  repeat (first | refine Plan.move rfl rfl rfl rfl ?_ | refine J.seq (J.region mixed hI (by kernel_rfl) ?_))
  refine Plan.lenE rfl rfl rfl rfl Try.underlying73 ?_
  repeat (first | refine Plan.move rfl rfl rfl rfl ?_ | (refine Plan.ints rfl rfl rfl rfl rfl rfl ?_; (skip)))
  refine Plan.callR (key := 1000) (B := 0) (q := 0) rfl rfl rfl (lenC_fn β []) Try.func40 rfl rfl (fun _ _ => Nat.zero_le _) (by repeat (first | exact Opnds.nil | refine Opnds.cons rfl (by exact Sub.refl _) ?_)) rfl rfl (by decide) ?_
  repeat (first | refine Plan.assign rfl rfl rfl rfl ?_ | refine Plan.pick rfl rfl rfl rfl rfl ?_ | (refine Plan.ints rfl rfl rfl rfl rfl rfl ?_; (skip)))
  exact J.ret (Nrm.ret1 rfl (fun _ h => h) rfl fun B _ => Sub.refl _)
theorem lawCauNil (e : EvV) (v : Nat → Int) : Spc Try.prog 12 [.ex (aggE e), .ex (aggV v)] fun _ => .ex (.bool true) := by
  refine Spc.intro Try.func12 rfl (Nat.le_of_ble_eq_true rfl) fun w0 => ?_
  have hI := hIb w0
  have hA := Own.below w0
  refine J.heap0 1000 (newB w0) ?_
  repeat (refine J.seq (J.region mixed hI (by kernel_rfl) ?_))
  refine Plan.boxC (key := 1000) rfl rfl rfl (by intro _ e; cases e; decide) rfl rfl hA fun a => ?_
  refine Plan.boxC (key := 1000) rfl rfl rfl (by intro _ e; cases e; decide) rfl rfl hA fun b => ?_
  repeat (first | refine Plan.assign rfl rfl rfl rfl ?_ | refine J.seq (J.seq (J.region mixed hI (by kernel_rfl) ?_)))
  refine Plan.call (B := w0.heap.size) rfl rfl rfl (awakeC_fn) Try.func35 rfl rfl (hBb w0) (by repeat (exact Opnds.nil)) ?_
  repeat (first | refine Plan.move rfl rfl rfl rfl ?_ | refine Plan.assign rfl rfl rfl rfl ?_ | refine Plan.un rfl rfl rfl rfl rfl ?_ | refine J.seq (J.region mixed hI (by kernel_rfl) ?_) | refine J.condF rfl ?_ | refine J.skip ?_)
  refine Plan.loadAggC (key := 1000) (q := 0) (off := 0) (vs := e.enc) rfl rfl rfl rfl rfl rfl (obj_reads rfl) Try.underlying86 rfl (by rw [encE]; kernel_rfl) (by decide) ?_
  refine Plan.loadAggC (key := 1000) (q := 1) (off := 0) (vs := vList v) rfl rfl rfl rfl rfl rfl (obj_reads rfl) Try.underlying42 rfl (by kernel_rfl) (by decide) ?_
  refine Plan.call (B := w0.heap.size) rfl rfl rfl (offer_nil e v) Try.func38 rfl rfl (hBb w0) (by repeat (first | exact Opnds.nil | refine Opnds.cons rfl (by exact Sub.refl _) ?_)) ?_
  refine Plan.lenE rfl rfl rfl rfl Try.underlying73 ?_
  repeat (first | refine Plan.move rfl rfl rfl rfl ?_ | (refine Plan.ints rfl rfl rfl rfl rfl rfl ?_; (skip)))
  refine Plan.call (B := w0.heap.size) rfl rfl rfl (lenC_nil) Try.func40 rfl rfl (hBb w0) (by repeat (first | exact Opnds.nil | refine Opnds.cons rfl (by exact Sub.refl _) ?_)) ?_
  repeat (first | refine Plan.assign rfl rfl rfl rfl ?_ | refine Plan.pick rfl rfl rfl rfl rfl ?_ | (refine Plan.ints rfl rfl rfl rfl rfl rfl ?_; (skip)))
  exact J.ret (Nrm.ret1 rfl (fun _ h => h) rfl fun B _ => Sub.refl _)
def kdsVV : List Kd := List.replicate 16 (.int .i64)
theorem vvC_of {c : List Value} (h : CellsOk kdsVV c) : ∃ v : Nat → Int, c = vList v ∧ okV v := by
  obtain ⟨_, _, rfl, ⟨d0, rfl, g0⟩, _, _, rfl, ⟨d1, rfl, g1⟩, _, _, rfl, ⟨d2, rfl, g2⟩, _, _, rfl, ⟨d3, rfl, g3⟩, _, _, rfl, ⟨d4, rfl, g4⟩, _, _, rfl, ⟨d5, rfl, g5⟩, _, _, rfl, ⟨d6, rfl, g6⟩, _, _, rfl, ⟨d7, rfl, g7⟩,
    _, _, rfl, ⟨d8, rfl, g8⟩, _, _, rfl, ⟨d9, rfl, g9⟩, _, _, rfl, ⟨d10, rfl, g10⟩, _, _, rfl, ⟨d11, rfl, g11⟩, _, _, rfl, ⟨d12, rfl, g12⟩, _, _, rfl, ⟨d13, rfl, g13⟩, _, _, rfl, ⟨d14, rfl, g14⟩, _, _, rfl, ⟨d15, rfl, g15⟩, rfl⟩ := h
  refine ⟨fun i => [d0, d1, d2, d3, d4, d5, d6, d7, d8, d9, d10, d11, d12, d13, d14, d15].getD i 0, rfl, fun i hi => ?_⟩
  match i, hi with
  | 0, _ => exact in64_wf.1 g0
  | 1, _ => exact in64_wf.1 g1
  | 2, _ => exact in64_wf.1 g2
  | 3, _ => exact in64_wf.1 g3
  | 4, _ => exact in64_wf.1 g4
  | 5, _ => exact in64_wf.1 g5
  | 6, _ => exact in64_wf.1 g6
  | 7, _ => exact in64_wf.1 g7
  | 8, _ => exact in64_wf.1 g8
  | 9, _ => exact in64_wf.1 g9
  | 10, _ => exact in64_wf.1 g10
  | 11, _ => exact in64_wf.1 g11
  | 12, _ => exact in64_wf.1 g12
  | 13, _ => exact in64_wf.1 g13
  | 14, _ => exact in64_wf.1 g14
  | 15, _ => exact in64_wf.1 g15
  | _ + 16, h => exact absurd h (by omega)
theorem lawCauNilC (a b : List Value) (ha : CellsOk kdsEvent a) (hb : CellsOk kdsVV b) : Spc Try.prog 12 [.ex (.agg a.toArray), .ex (.agg b.toArray)] fun _ => .ex (.bool true) := by
  obtain ⟨e, rfl, _⟩ := ev_of ha
  obtain ⟨v, rfl, _⟩ := vvC_of hb
  exact lawCauNil e v
end Go.Proofs.Ytkhcjedlopiicaa
