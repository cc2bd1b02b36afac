/-
  Laid together: EvFns2, EvCan, EvRight, EvCanFn, EvRightFn, VlqPlain, VlqFns, VlqTake, VlqRef, EvEnc, VlqRef2, VlqText, EvDec, EvDec2.
-/
import Derived.Test.YtmljgobenlpnfaaGreatTLPD
import Derived.Laws.Cover1
set_option linter.unusedSimpArgs false
set_option linter.unusedVariables false
set_option maxRecDepth 20000

section
namespace Go.Proofs.YtmljgobenlpnfaaGreat
open Go.Free Go.RowKit Go.Proofs
set_option maxHeartbeats 4000000
theorem adds_fn (k : Int) : Spc Tryz.prog 31 [.ex (vi k)] fun _ => .ex (.bool (decide (addP k))) := by
  refine Spc.intro Tryz.func31 rfl (Nat.le_of_ble_eq_true rfl) fun w0 => ?_
  have hI := hIb w0
  have hA := Own.below w0
  refine J.heap0 1000 (newB w0) ?_
  repeat' (first | refine Plan.move rfl rfl rfl rfl ?_ | refine Plan.assign rfl rfl rfl rfl ?_ | (refine Plan.ints rfl rfl rfl rfl rfl rfl ?_; (skip)) | refine J.seq (J.region mixed hI (by kernel_rfl) ?_) | refine J.region mixed hI (by kernel_rfl) ?_ | refine J.seq (J.seq (J.region mixed hI (by kernel_rfl) ?_)) | refine J.skip ?_ | refine J.block ?_ | refine J.condD rfl (fun _ => ?_) (fun _ => ?_))
  all_goals exact J.ret (Nrm.ret1 rfl (fun _ h => h) rfl fun B _ => Sub.of_eq (congrArg (fun b => Fa.ex (.bool b)) (by
    first
    | refine (decide_eq_true ?_).symm
    | refine (decide_eq_false ?_).symm
    | refine decide_eq_decide.2 ?_
    | refine beq_decide ?_
    | refine bne_decide ?_
    all_goals ((try simp only [fieldP, valueP, numP, refP, kindP, addP, dotP, hasP, rightVP] at *); omega))))
theorem has_fn (d : Nat → Int) (r n : Int) : Spc Tryz.prog 55 [.ex (aggV d), .ex (aggD r n)] fun _ => .ex (.bool (decide (hasP d r n))) := by
  refine Spc.intro Tryz.func55 rfl (Nat.le_of_ble_eq_true rfl) fun w0 => ?_
  have hI := hIb w0
  have hA := Own.below w0
  refine J.heap0 1000 (newB w0) ?_
  repeat (refine J.seq (J.region mixed hI (by kernel_rfl) ?_))
  refine Plan.boxC (key := 1000) rfl rfl rfl (by intro _ e; cases e; decide) rfl rfl hA fun β => ?_
  refine Plan.boxC (key := 1000) rfl rfl rfl (by intro _ e; cases e; decide) rfl rfl hA fun γ => ?_
  repeat (first | refine Plan.assign rfl rfl rfl rfl ?_ | refine J.seq (J.region mixed hI (by kernel_rfl) ?_))
  refine Plan.loadAggC (key := 1000) (q := 1) (vs := [vi r, vi n]) rfl rfl rfl rfl rfl rfl (obj_reads rfl) Tryz.underlying34 rfl (by kernel_rfl) (by decide) ?_
  refine Plan.call (B := w0.heap.size) rfl rfl rfl (dot_fn r n) Tryz.func39 rfl rfl (hBb w0) (by repeat (first | exact Opnds.nil | refine Opnds.cons rfl (by exact Sub.refl _) ?_)) ?_
  repeat (refine Plan.move rfl rfl rfl rfl ?_)
  refine Plan.splitD (fun h => ?_) (fun h => ?_)
  · have h0 := h.1
    have h1 := h.2.1
    repeat (first | refine Plan.fieldC rfl rfl rfl rfl (by first | exact Tryz.underlying58 | exact Tryz.underlying34) rfl (by kernel_rfl) (by first | exact (rfl : _ = 0) | exact (rfl : _ = 1)) ?_ | refine Plan.loadC (key := 1000) (q := 1) rfl rfl rfl rfl rfl rfl (obj_reads1 rfl) (by exact Tryz.underlying3) (by rfl) (by decide) ?_)
    refine Plan.indexArr (off := r.toNat) (len := 16) (sz := 1) rfl rfl rfl rfl rfl Tryz.underlying36 (by kernel_rfl) h0 (by omega) (by simp) ?_
    refine Plan.loadC (key := 1000) (q := 0) rfl rfl rfl rfl rfl rfl (obj_reads1 (vList_get d (by omega))) Tryz.underlying3 rfl (by decide) ?_
    repeat (first | refine Plan.assign rfl rfl rfl rfl ?_ | refine Plan.pick rfl rfl rfl rfl rfl ?_ | (refine Plan.ints rfl rfl rfl rfl rfl rfl ?_; (skip)))
    exact J.ret (Nrm.ret1 rfl (fun _ h => h) rfl fun B _ => Sub.of_eq (congrArg (fun b => Fa.ex (.bool b)) (by
    first
    | refine (decide_eq_true ?_).symm
    | refine (decide_eq_false ?_).symm
    | refine decide_eq_decide.2 ?_
    | refine beq_decide ?_
    | refine bne_decide ?_
    all_goals ((try simp only [fieldP, valueP, numP, refP, kindP, addP, dotP, hasP, rightVP] at *); omega))))
  · repeat (first | refine Plan.assign rfl rfl rfl rfl ?_ | refine Plan.skip rfl rfl ?_ | refine Plan.pick rfl rfl rfl rfl rfl ?_)
    exact J.ret (Nrm.ret1 rfl (fun _ h => h) rfl fun B _ => Sub.of_eq (congrArg (fun b => Fa.ex (.bool b)) (by
    first
    | refine (decide_eq_true ?_).symm
    | refine (decide_eq_false ?_).symm
    | refine decide_eq_decide.2 ?_
    | refine beq_decide ?_
    | refine bne_decide ?_
    all_goals ((try simp only [fieldP, valueP, numP, refP, kindP, addP, dotP, hasP, rightVP] at *); omega))))
theorem rightV_no {d : Nat → Int} {i : Nat} (hi : i < 16) (h : d i < 0 ∨ 1048576 < d i) : ¬ rightVP d := fun hr => by have := hr i hi; omega
theorem rightV_fn (d : Nat → Int) : Spc Tryz.prog 38 [.ex (aggV d)] fun _ => .ex (.bool (decide (rightVP d))) := by
  refine Spc.intro Tryz.func38 rfl (Nat.le_of_ble_eq_true rfl) fun w0 => ?_
  have hI := hIb w0
  have hA := Own.below w0
  refine J.heap0 1000 (newB w0) ?_
  repeat (refine J.seq (J.region mixed hI (by kernel_rfl) ?_))
  refine Plan.boxC (key := 1000) rfl rfl rfl (by intro _ e; cases e; decide) rfl rfl hA fun β => ?_
  repeat (first | refine Plan.assign rfl rfl rfl rfl ?_ | refine J.seq (J.seq (J.region mixed hI (by kernel_rfl) ?_)))
  refine Plan.loadAggC (key := 1000) (q := 0) (vs := vList d) rfl rfl rfl rfl rfl rfl (obj_reads rfl) Tryz.underlying36 rfl (by kernel_rfl) (by decide) ?_
  repeat (refine Plan.move rfl rfl rfl rfl ?_)
  refine J.block (J.loop (fun i : Nat => [(5, .ex (aggV d)), (6, .ex (vi i))]) (fun i => i ≤ 16 ∧ ∀ j, j < i → 0 ≤ d j ∧ d j ≤ 1048576) (fun i => 16 - i) 0 ⟨by omega, fun j h => by omega⟩ ?_ ?_)
  · repeat (first | exact Weak.nil | refine Weak.cons rfl (Sub.refl _) ?_)
  rintro i ⟨hi, hj⟩
  repeat (first | (refine Plan.ints rfl rfl rfl rfl rfl rfl ?_; (skip)) | refine J.seq (J.region mixed hI (by kernel_rfl) ?_))
  refine J.seq (J.condD rfl (fun hlt => ?_) (fun hlt => ?_))
  · have hlt' : i < 16 := by omega
    repeat (refine J.skip ?_)
    refine J.seq (J.block ?_)
    repeat (refine J.seq (J.region mixed hI (by kernel_rfl) ?_))
    refine Plan.indexAgg (len := 16) (v := vi (d i)) rfl rfl rfl rfl rfl Tryz.underlying36 (by kernel_rfl) Tryz.underlying3 rfl (by omega) (by omega) (by rw [Int.toNat_natCast]; exact vList_get d hlt') ?_
    repeat (first | refine Plan.move rfl rfl rfl rfl ?_ | refine Plan.assign rfl rfl rfl rfl ?_ | (refine Plan.ints rfl rfl rfl rfl rfl rfl ?_; (skip)) | refine J.seq (J.region mixed hI (by kernel_rfl) ?_))
    refine Plan.splitD (fun h1 => ?_) (fun h1 => ?_)
    · repeat (first | refine Plan.assign rfl rfl rfl rfl ?_ | refine Plan.skip rfl rfl ?_ | refine Plan.pick rfl rfl rfl rfl rfl ?_ | refine J.seq (J.region mixed hI (by kernel_rfl) ?_) | refine J.condT rfl ?_)
      exact J.ret (Nrm.ret1 rfl (fun _ h => h) rfl fun B _ => Sub.of_eq (by rw [decide_eq_false (rightV_no hlt' (.inl h1))]))
    repeat (first | refine Plan.move rfl rfl rfl rfl ?_ | refine Plan.pick rfl rfl rfl rfl rfl ?_ | (refine Plan.ints rfl rfl rfl rfl rfl rfl ?_; (skip)))
    refine J.condD rfl (fun h2 => ?_) (fun h2 => ?_)
    · repeat (first | refine Plan.assign rfl rfl rfl rfl ?_ | refine J.seq (J.region mixed hI (by kernel_rfl) ?_))
      exact J.ret (Nrm.ret1 rfl (fun _ h => h) rfl fun B _ => Sub.of_eq (by rw [decide_eq_false (rightV_no hlt' (.inr h2))]))
    repeat (first | refine Plan.move rfl rfl rfl rfl ?_ | (refine Plan.ints rfl rfl rfl rfl rfl rfl ?_; (refine Plan.int (i64r (by omega)) ?_)) | refine J.region mixed hI (by kernel_rfl) ?_ | refine J.skip ?_)
    refine Plan.int (y := ((i + 1 : Nat) : Int)) (by omega) ?_
    repeat (fail)
    refine Nrm.next (i + 1) ⟨by omega, fun j h => ?_⟩ (by omega) (by repeat (first | exact Weak.nil | refine Weak.cons rfl (Sub.refl _) ?_))
    by_cases e : j = i
    · subst e; omega
    · exact hj j (by omega)
  refine J.exit ?_
  repeat (first | refine Plan.assign rfl rfl rfl rfl ?_ | refine J.seq (J.region mixed hI (by kernel_rfl) ?_))
  exact J.ret (Nrm.ret1 rfl (fun _ h => h) rfl fun B _ => Sub.of_eq (by rw [decide_eq_true (show rightVP d from fun j h => hj j (by omega))]))
theorem covers_fn (b a : EvV) : Spc Tryz.prog 58 [.ex (aggE b), .ex (aggE a)] fun _ => .ex (.bool (decide (hasP b.d a.r a.n))) := by
  refine Spc.intro Tryz.func58 rfl (Nat.le_of_ble_eq_true rfl) fun w0 => ?_
  have hI := hIb w0
  have hA := Own.below w0
  refine J.heap0 1000 (newB w0) ?_
  repeat (refine J.seq (J.region mixed hI (by kernel_rfl) ?_))
  refine Plan.boxC (key := 1000) rfl rfl rfl (by intro _ e; cases e; decide) rfl rfl hA fun β => ?_
  refine Plan.boxC (key := 1000) rfl rfl rfl (by intro _ e; cases e; decide) rfl rfl hA fun γ => ?_
  repeat (first | refine Plan.assign rfl rfl rfl rfl ?_ | refine Plan.fieldC rfl rfl rfl rfl (by first | exact Tryz.underlying58 | exact Tryz.underlying40) rfl (by kernel_rfl) (by exact (rfl : _ = 3)) ?_ | refine J.seq (J.region mixed hI (by kernel_rfl) ?_))
  refine Plan.loadAggC (key := 1000) (q := 0) (vs := vList b.d) rfl rfl rfl rfl rfl rfl (obj_reads rfl) Tryz.underlying36 rfl (by kernel_rfl) (by decide) ?_
  repeat (refine Plan.fieldC rfl rfl rfl rfl (by first | exact Tryz.underlying58 | exact Tryz.underlying40) rfl (by kernel_rfl) (by exact (rfl : _ = 0)) ?_)
  refine Plan.loadAggC (key := 1000) (q := 1) (vs := [vi a.r, vi a.n]) rfl rfl rfl rfl rfl rfl (obj_reads rfl) Tryz.underlying34 rfl (by kernel_rfl) (by decide) ?_
  refine Plan.call (B := w0.heap.size) rfl rfl rfl (has_fn b.d a.r a.n) Tryz.func55 rfl rfl (hBb w0) (by repeat (first | exact Opnds.nil | refine Opnds.cons rfl (by exact Sub.refl _) ?_)) ?_
  repeat (refine Plan.assign rfl rfl rfl rfl ?_)
  exact J.ret (Nrm.ret1 rfl (fun _ h => h) rfl fun B _ => Sub.refl _)
end Go.Proofs.YtmljgobenlpnfaaGreat
end

section
namespace Go.Proofs.YtmljgobenlpnfaaGreat
open Go.Free Go.RowKit Go.Proofs
set_option maxHeartbeats 4000000
def partsV (k : Int) : List Value := [.bool (decide (fieldP k)), .bool (decide (valueP k)), .bool (decide (numP k)), .bool (decide (refP k))]
theorem parts_of {k : Int} {b1 b2 b3 b4 : Bool} (h1 : b1 = decide (fieldP k)) (h2 : b2 = decide (valueP k)) (h3 : b3 = decide (numP k)) (h4 : b4 = decide (refP k)) : partsV k = [.bool b1, .bool b2, .bool b3, .bool b4] := by subst h1 h2 h3 h4; rfl
theorem uses_tup {k : Int} {vs : List Value} {b : Bool} (h1 : partsV k = vs) (h2 : b = decide (kindP k)) : Fa.tup [.ex (.agg (partsV k).toArray), .ex (.bool (decide (kindP k)))] = Fa.tup [.ex (.agg vs.toArray), .ex (.bool b)] := by rw [h1, h2]
theorem uses_fn (k : Int) : Spc Tryz.prog 79 [.ex (vi k)] fun _ => .tup [.ex (.agg (partsV k).toArray), .ex (.bool (decide (kindP k)))] := by
  refine Spc.intro Tryz.func79 rfl (Nat.le_of_ble_eq_true rfl) fun w0 => ?_
  have hI := hIb w0
  have hA := Own.below w0
  refine J.heap0 1000 (newB w0) ?_
  repeat (refine J.seq (J.region mixed hI (by kernel_rfl) ?_))
  refine Plan.allocC (key := 1000) (z := .agg #[.bool false, .bool false, .bool false, .bool false]) rfl rfl rfl (by intro _ e; cases e; decide) (by kernel_rfl) rfl hA fun β => ?_
  repeat' (first | refine Plan.move rfl rfl rfl rfl ?_ | refine Plan.assign rfl rfl rfl rfl ?_ | (refine Plan.ints rfl rfl rfl rfl rfl rfl ?_; (skip)) | refine J.seq (J.region mixed hI (by kernel_rfl) ?_) | refine J.region mixed hI (by kernel_rfl) ?_ | refine J.seq (J.seq (J.region mixed hI (by kernel_rfl) ?_)) | refine J.skip ?_ | refine J.block ?_ | refine Plan.build (cells := #[.bool false, .bool true, .bool false, .bool false]) rfl rfl (ps := [(1, _)]) rfl (Parts.cons rfl Parts.nil) (by kernel_rfl) ?_ | refine Plan.build (cells := #[.bool false, .bool false, .bool true, .bool false]) rfl rfl (ps := [(2, _)]) rfl (Parts.cons rfl Parts.nil) (by kernel_rfl) ?_ | refine Plan.build (cells := #[.bool true, .bool false, .bool false, .bool false]) rfl rfl (ps := [(0, _)]) rfl (Parts.cons rfl Parts.nil) (by kernel_rfl) ?_ | refine Plan.build (cells := #[.bool true, .bool true, .bool false, .bool false]) rfl rfl (ps := [(0, _), (1, _)]) rfl (Parts.cons rfl (Parts.cons rfl Parts.nil)) (by kernel_rfl) ?_ | refine Plan.build (cells := #[.bool true, .bool false, .bool true, .bool false]) rfl rfl (ps := [(0, _), (2, _)]) rfl (Parts.cons rfl (Parts.cons rfl Parts.nil)) (by kernel_rfl) ?_ | refine Plan.build (cells := #[.bool false, .bool true, .bool false, .bool true]) rfl rfl (ps := [(1, _), (3, _)]) rfl (Parts.cons rfl (Parts.cons rfl Parts.nil)) (by kernel_rfl) ?_ | refine Plan.build (cells := #[.bool false, .bool false, .bool false, .bool true]) rfl rfl (ps := [(3, _)]) rfl (Parts.cons rfl Parts.nil) (by kernel_rfl) ?_ | refine Plan.build (cells := #[.bool false, .bool false, .bool false, .bool false]) rfl rfl (ps := []) rfl Parts.nil (by kernel_rfl) ?_ | refine Plan.storeC (key := 1000) (q := 0) (off := 0) rfl rfl rfl rfl rfl rfl (by simp [Value.cells, Value.oneCell']) (by kernel_rfl) rfl hA rfl (obj_pat (Nat.le_of_ble_eq_true rfl)) ?_ | refine J.condD rfl (fun _ => ?_) (fun _ => ?_) | refine Plan.splitD (fun _ => ?_) (fun _ => ?_))
  all_goals refine J.ret (Nrm.retCT (key := 1000) (q := 0) rfl (fun _ h => h) rfl rfl rfl obj_whole Tryz.underlying135 rfl (by kernel_rfl) fun B _ => ⟨_, _, uses_tup (parts_of ?_ ?_ ?_ ?_) ?_, rfl, Sub.refl _⟩)
  all_goals first
    | refine (decide_eq_true ?_).symm
    | refine (decide_eq_false ?_).symm
    | refine beq_decide ?_
  all_goals ((try simp only [fieldP, valueP, numP, refP, kindP, addP, dotP, hasP, rightVP] at *); omega)
end Go.Proofs.YtmljgobenlpnfaaGreat
end

section
namespace Go.Proofs.YtmljgobenlpnfaaGreat
open Go.Free Go.RowKit Go.Proofs
set_option maxHeartbeats 8000000
section
variable {P : Program} {ops : Array Oper} {Q : Exit → Act → World → Prop} {n : Nat} {I : World → Prop} {k i : Nat} {E : Env} {o : Oper} {d : Bool}
theorem _root_.Go.Free.Plan.max3 {ts : Array TypeId} {x y z : Operand} {kd : IntKind} {p q r : Int} (ho : ops[i]? = some o) (hop : o.op = .call { callee := .builtin .max, args := #[x, y, z], argTypes := ts }) (hg : wantB ops E o = some true)
    (hx : opF E x = some (.ex (.int kd p))) (hy : opF E y = some (.ex (.int kd q))) (hz : opF E z = some (.ex (.int kd r)))
    (h : Plan P ops Q n I d k (i + 1) (setE o.dst (.ex (.int kd (max p (max q r)))) E)) : Plan P ops Q n I d (k + 1) i E :=
  Plan.step ho (Step.run ho hg fun a w _ hs => by
    have h1 := hs x (by simp [hop, Op.operands, Call.operands]) _ hx
    have h2 := hs y (by simp [hop, Op.operands, Call.operands]) _ hy
    have h3 := hs z (by simp [hop, Op.operands, Call.operands]) _ hz
    simp only [Fa.den] at h1 h2 h3
    have e : max p (max q r) = (if r > (if q > p then q else p) then r else (if q > p then q else p)) := by
      repeat' split
      all_goals omega
    rw [e] at *
    refine ⟨_, w, ?_, Below.refl _ _, by simp only [Fa.den]; rfl⟩
    simp only [execOp, hop, resolve, invoke, builtin, List.map_toArray, List.map_cons, List.map_nil, h1, h2, h3, Sem.run_bind, Sem.run_pure, Result.andThen_ok, run_max_int3]) h
end
def canP (e : EvV) : Prop := kindP e.kind ∧ e.key ≠ [] ∧ e.key.length ≤ 64 ∧ e.field.length ≤ 64 ∧ e.value.length ≤ 64 ∧ -1099511627776 ≤ e.num ∧ e.num ≤ 1099511627776 ∧
  (fieldP e.kind ∨ e.field = []) ∧ (valueP e.kind ∨ e.value = []) ∧ (numP e.kind ∨ e.num = 0) ∧ (refP e.kind ∨ (e.rr = 0 ∧ e.rn = 0))
instance (e : EvV) : Decidable (canP e) := by unfold canP; infer_instance
def rightP (e : EvV) : Prop := dotP e.r e.n ∧ 0 ≤ e.time ∧ e.time ≤ 1152921504606846975 ∧ rightVP e.d ∧ e.d e.r.toNat = e.n - 1 ∧ canP e ∧ (hasP e.d e.rr e.rn ∨ (e.kind ≠ 10 ∧ e.rr = 0 ∧ e.rn = 0))
instance (e : EvV) : Decidable (rightP e) := by unfold rightP; infer_instance
theorem in64_0 : in64 0 := by unfold in64; omega
theorem formedDot (zs : Array Value) (h : zs.size = 2) : (Value.agg zs).formed Tryz.prog 34 = true := by
  have hc : Tryz.prog.cellsOf 34 = 2 := by kernel_rfl
  unfold Value.formed
  rw [Tryz.underlying34]
  simp only [hc, h]
  rfl
theorem Plan.eqDot {ops : Array Oper} {Q : Exit → Act → World → Prop} {n : Nat} {I : World → Prop} {k i : Nat} {E : Env} {o : Oper} {d : Bool} {x y : Operand} {yt : TypeId} {op : BinOp} {a b a' b' : Int} (r v : Bool) (ho : ops[i]? = some o) (hop : o.op = .binOp op 34 x y yt) (hg : wantB ops E o = some true)
    (hx : opF E x = some (.ex (.agg [vi a, vi b].toArray))) (hy : opF E y = some (.ex (.agg [vi a', vi b'].toArray))) (h1 : in64 a) (h2 : in64 b) (h3 : in64 a') (h4 : in64 b') (hr : r = true ↔ a = a' ∧ b = b') (hv : (op = .eql ∧ v = r) ∨ (op = .neq ∧ v = !r))
    (h : Plan Tryz.prog ops Q n I d k (i + 1) (setE o.dst (.ex (.bool v)) E)) : Plan Tryz.prog ops Q n I d (k + 1) i E :=
  Plan.eqAgg (m := 9) (l := [.int .i64, .int .i64]) (xs := [vi a, vi b]) (ys := [vi a', vi b']) (r := r) ho hop hg hx hy (by decide) (by kernel_rfl) (by kernel_rfl) (by kernel_rfl)
    ⟨_, _, rfl, intF h1, _, _, rfl, intF h2, rfl⟩ ⟨_, _, rfl, intF h3, _, _, rfl, intF h4, rfl⟩ formedDot (by rw [hr]; simp) hv h
end Go.Proofs.YtmljgobenlpnfaaGreat
end

section
namespace Go.Proofs.YtmljgobenlpnfaaGreat
open Go.Free Go.RowKit Go.Proofs
set_option maxHeartbeats 8000000
theorem can_fn (e : EvV) (h : e.okV) : Spc Tryz.prog 54 [.ex (aggO e)] fun _ => .ex (.bool (decide (canP e))) := by
  refine Spc.intro Tryz.func54 rfl (Nat.le_of_ble_eq_true rfl) fun w0 => ?_
  have hI := hIb w0
  have hA := Own.below w0
  have hrr := h.2.2.2.2.2.2.2.2.2.1
  have hrn := h.2.2.2.2.2.2.2.2.2.2
  refine J.heap0 1000 (newB w0) ?_
  repeat (refine J.seq (J.region mixed hI (by kernel_rfl) ?_))
  refine Plan.boxC (key := 1000) rfl rfl rfl (by intro _ e; cases e; decide) rfl rfl hA fun β => ?_
  repeat (first | refine Plan.assign rfl rfl rfl rfl ?_ | refine Plan.fieldC rfl rfl rfl rfl (by first | exact Tryz.underlying40 | exact Tryz.underlying38) rfl (by kernel_rfl) (by exact (rfl : _ = 0)) ?_ | refine Plan.loadC (key := 1000) (q := 0) rfl rfl rfl rfl rfl rfl (obj_reads1 rfl) (by exact Tryz.underlying3) (by rfl) (by decide) ?_ | refine J.seq (J.region mixed hI (by kernel_rfl) ?_))
  refine Plan.call (B := w0.heap.size) rfl rfl rfl (uses_fn e.kind) Tryz.func79 rfl rfl (hBb w0) (by repeat (first | exact Opnds.nil | refine Opnds.cons rfl (by exact Sub.refl _) ?_)) ?_
  repeat (first | refine Plan.move rfl rfl rfl rfl ?_ | refine Plan.extract rfl rfl rfl rfl rfl ?_)
  refine Plan.allocC (key := 1000) (z := .agg #[.bool false, .bool false, .bool false, .bool false]) rfl rfl rfl (by intro _ e; cases e; decide) (by kernel_rfl) rfl hA fun γ => ?_
  refine Plan.storeC (key := 1000) (q := 1) (off := 0) rfl rfl rfl rfl rfl rfl (by simp [Value.cells, Value.oneCell', partsV]) (by show _ = some (partsV e.kind).toArray.size; kernel_rfl) rfl hA rfl (obj_pat (Nat.le_of_ble_eq_true rfl)) ?_
  repeat' (first | refine Plan.move rfl rfl rfl rfl ?_ | refine Plan.assign rfl rfl rfl rfl ?_ | refine Plan.skip rfl rfl ?_ | refine Plan.pick rfl rfl rfl rfl rfl ?_ | refine Plan.lenStr rfl rfl rfl rfl Tryz.underlying9 ?_ | (refine Plan.ints rfl rfl rfl rfl rfl rfl ?_; (skip)) | refine Plan.un rfl rfl rfl rfl rfl ?_ | refine Plan.fieldC rfl rfl rfl rfl (by first | exact Tryz.underlying40 | exact Tryz.underlying38 | exact Tryz.underlying135) rfl (by kernel_rfl) (by first | exact (rfl : _ = 0) | exact (rfl : _ = 1) | exact (rfl : _ = 2) | exact (rfl : _ = 3) | exact (rfl : _ = 4) | exact (rfl : _ = 5)) ?_ | refine Plan.loadC (key := 1000) (q := 0) rfl rfl rfl rfl rfl rfl (obj_reads1 rfl) (by first | exact Tryz.underlying3 | exact Tryz.underlying9 | exact Tryz.underlying4) (by rfl) (by decide) ?_ | refine Plan.loadC (key := 1000) (q := 1) rfl rfl rfl rfl rfl rfl (obj_reads1 rfl) (by first | exact Tryz.underlying3 | exact Tryz.underlying4) (by rfl) (by decide) ?_ | refine J.seq (J.region mixed hI (by kernel_rfl) ?_) | refine J.seq (J.seq (J.region mixed hI (by kernel_rfl) ?_)) | refine J.condT rfl ?_ | refine J.skip ?_ | refine Plan.max3 rfl rfl rfl rfl rfl rfl ?_ | refine Plan.loadAggC (key := 1000) (q := 0) (vs := [vi e.rr, vi e.rn]) rfl rfl rfl rfl rfl rfl (obj_reads rfl) Tryz.underlying34 rfl (by kernel_rfl) (by decide) ?_ | refine Plan.build (cells := #[vi 0, vi 0]) rfl rfl (ps := []) rfl Parts.nil (by kernel_rfl) ?_ | refine Plan.eqDot (decide (e.rr = 0 ∧ e.rn = 0)) (decide (e.rr = 0 ∧ e.rn = 0)) rfl rfl rfl rfl rfl hrr hrn in64_0 in64_0 (by simp) (.inl ⟨rfl, rfl⟩) ?_ | refine Plan.strs rfl rfl rfl rfl rfl rfl ?_ | refine J.condD rfl (fun _ => ?_) (fun _ => ?_) | refine Plan.splitD (fun _ => ?_) (fun _ => ?_) | refine Plan.splitND (fun _ => ?_) (fun _ => ?_) | refine Plan.splitE (fun _ => ?_) (fun _ => ?_))
  all_goals exact J.ret (Nrm.ret1 rfl (fun _ h => h) rfl fun B _ => Sub.of_eq (congrArg (fun b => Fa.ex (.bool b)) (by
    first
    | refine (decide_eq_true ?_).symm
    | refine (decide_eq_false ?_).symm
    | refine decide_eq_decide.2 ?_
    | refine beq_decide ?_
    | refine bne_decide ?_
    all_goals ((try simp only [fieldP, valueP, numP, refP, kindP, addP, dotP, hasP, canP, rightP, IntKind.wrap_i64] at *); first | omega | grind))))
end Go.Proofs.YtmljgobenlpnfaaGreat
end

section
namespace Go.Proofs.YtmljgobenlpnfaaGreat
open Go.Free Go.RowKit Go.Proofs
set_option maxHeartbeats 8000000
theorem right_fn (e : EvV) (h : e.okV) : Spc Tryz.prog 24 [.ex (aggE e)] fun _ => .ex (.bool (decide (rightP e))) := by
  refine Spc.intro Tryz.func24 rfl (Nat.le_of_ble_eq_true rfl) fun w0 => ?_
  have hI := hIb w0
  have hA := Own.below w0
  have hrr := h.2.2.2.2.2.2.2.2.2.1
  have hrn := h.2.2.2.2.2.2.2.2.2.2
  refine J.heap0 1000 (newB w0) ?_
  have hn64 : -9223372036854775808 ≤ e.n ∧ e.n ≤ 9223372036854775807 := h.2.1
  repeat' (first | refine Plan.move rfl rfl rfl rfl ?_ | refine Plan.assign rfl rfl rfl rfl ?_ | refine Plan.skip rfl rfl ?_ | refine Plan.pick rfl rfl rfl rfl rfl ?_ | (refine Plan.ints rfl rfl rfl rfl rfl rfl ?_; (first | refine Plan.int (i64r (by omega)) ?_ | skip)) | refine Plan.un rfl rfl rfl rfl rfl ?_ | refine Plan.fieldC rfl rfl rfl rfl (by first | exact Tryz.underlying40 | exact Tryz.underlying38 | exact Tryz.underlying34) rfl (by kernel_rfl) (by first | exact (rfl : _ = 0) | exact (rfl : _ = 1) | exact (rfl : _ = 2) | exact (rfl : _ = 3) | exact (rfl : _ = 19) | exact (rfl : _ = 24)) ?_ | refine Plan.loadC (key := 1000) (q := 0) rfl rfl rfl rfl rfl rfl (obj_reads1 rfl) (by exact Tryz.underlying3) (by rfl) (by decide) ?_ | refine J.seq (J.region mixed hI (by kernel_rfl) ?_) | refine J.seq (J.seq (J.region mixed hI (by kernel_rfl) ?_)) | refine J.condT rfl ?_ | refine J.skip ?_ | refine Plan.call (B := w0.heap.size) rfl rfl rfl (rightV_fn e.d) Tryz.func38 rfl rfl (hBb w0) (by repeat (first | exact Opnds.nil | refine Opnds.cons rfl (by exact Sub.refl _) ?_)) ?_ | refine Plan.call (B := w0.heap.size) rfl rfl rfl (can_fn e h) Tryz.func54 rfl rfl (hBb w0) (by repeat (first | exact Opnds.nil | refine Opnds.cons rfl (by exact Sub.refl _) ?_)) ?_ | refine Plan.call (B := w0.heap.size) rfl rfl rfl (has_fn e.d e.rr e.rn) Tryz.func55 rfl rfl (hBb w0) (by repeat (first | exact Opnds.nil | refine Opnds.cons rfl (by exact Sub.refl _) ?_)) ?_ | refine Plan.indexArr (off := 3 + e.r.toNat) (len := 16) (sz := 1) rfl rfl rfl rfl rfl Tryz.underlying36 (by kernel_rfl) (by omega) (by omega) (by simp) ?_ | refine Plan.loadC (key := 1000) (q := 0) rfl rfl rfl rfl rfl rfl (obj_reads1 (enc_d e (by omega))) Tryz.underlying3 rfl (by decide) ?_ | refine Plan.loadAggC (key := 1000) (q := 0) (vs := vList e.d) rfl rfl rfl rfl rfl rfl (obj_reads rfl) Tryz.underlying36 rfl (by kernel_rfl) (by decide) ?_ | refine Plan.loadAggC (key := 1000) (q := 0) (vs := e.op) rfl rfl rfl rfl rfl rfl (obj_reads rfl) Tryz.underlying38 rfl (by kernel_rfl) (by decide) ?_ | refine Plan.loadAggC (key := 1000) (q := 0) (vs := [vi e.rr, vi e.rn]) rfl rfl rfl rfl rfl rfl (obj_reads rfl) Tryz.underlying34 rfl (by kernel_rfl) (by decide) ?_ | refine Plan.build (cells := #[vi 0, vi 0]) rfl rfl (ps := []) rfl Parts.nil (by kernel_rfl) ?_ | refine Plan.eqDot (decide (e.rr = 0 ∧ e.rn = 0)) (decide (e.rr = 0 ∧ e.rn = 0)) rfl rfl rfl rfl rfl hrr hrn in64_0 in64_0 (by simp) (.inl ⟨rfl, rfl⟩) ?_ | refine Plan.boxC (key := 1000) rfl rfl rfl (by intro _ e; cases e; decide) rfl rfl hA fun _ => ?_ | refine J.condD rfl (fun _ => ?_) (fun _ => ?_) | refine J.condND rfl (fun _ => ?_) (fun _ => ?_) | refine Plan.splitD (fun _ => ?_) (fun _ => ?_) | refine Plan.splitND (fun _ => ?_) (fun _ => ?_))
  all_goals exact J.ret (Nrm.ret1 rfl (fun _ h => h) rfl fun B _ => Sub.of_eq (congrArg (fun b => Fa.ex (.bool b)) (by
    first
    | refine (decide_eq_true ?_).symm
    | refine (decide_eq_false ?_).symm
    | refine decide_eq_decide.2 ?_
    | refine beq_decide ?_
    | refine bne_decide ?_
    all_goals ((try simp only [fieldP, valueP, numP, refP, kindP, addP, dotP, hasP, canP, rightP, IntKind.wrap_i64] at *); first | omega | grind))))
end Go.Proofs.YtmljgobenlpnfaaGreat
end

section
namespace Go.Proofs.YtmljgobenlpnfaaGreat
open Go.Free Go.RowKit Go.Proofs
def digit (m : Nat) : UInt8 := UInt8.ofNat (128 + m % 128)
def lastD (m : Nat) : UInt8 := UInt8.ofNat (m % 128)
theorem digit_nat (m : Nat) : (digit m).toNat = 128 + m % 128 := by simp [digit]; omega
theorem lastD_nat (m : Nat) : (lastD m).toNat = m % 128 := by simp [lastD]; omega
def numHi (m : Nat) : List UInt8 := if _h : m = 0 then [] else numHi (m / 128) ++ [digit m]
decreasing_by omega
theorem numHi_zero : numHi 0 = [] := by unfold numHi; rfl
theorem numHi_pos {m : Nat} (h : m ≠ 0) : numHi m = numHi (m / 128) ++ [digit m] := by rw [numHi]; simp [h]
def num (u : Nat) : List UInt8 := numHi (u / 128) ++ [lastD u]
def bl (n : Nat) : Nat := if n = 0 then 0 else Nat.log2 n + 1
theorem bl_lt (n : Nat) : n < 2 ^ bl n := by
  unfold bl
  by_cases h : n = 0
  · simp [h]
  · simp only [if_neg h]; exact Nat.lt_log2_self
theorem bl_le {n : Nat} (h : n ≠ 0) : 2 ^ (bl n - 1) ≤ n := by
  unfold bl; simp only [if_neg h, Nat.add_sub_cancel]; exact Nat.log2_self_le h
theorem bl_of {n b : Nat} (h1 : n < 2 ^ (b + 1)) (h2 : 2 ^ b ≤ n) : bl n = b + 1 := by
  have h0 : n ≠ 0 := by have := Nat.pow_pos (n := b) (show 0 < 2 by decide); omega
  have e1 := bl_lt n
  have e2 := bl_le h0
  have : bl n - 1 < b + 1 := (Nat.pow_lt_pow_iff_right (by decide)).1 (Nat.lt_of_le_of_lt e2 h1)
  have : b < bl n := (Nat.pow_lt_pow_iff_right (by decide)).1 (Nat.lt_of_le_of_lt h2 e1)
  omega
theorem bl_shift {n k : Nat} (h : 2 ^ k ≤ n) : bl n = bl (n / 2 ^ k) + k := by
  have hpos : 0 < n / 2 ^ k := Nat.div_pos h (Nat.pow_pos (by decide))
  have e1 := bl_lt (n / 2 ^ k)
  have e2 := bl_le (Nat.pos_iff_ne_zero.1 hpos)
  have hb : 1 ≤ bl (n / 2 ^ k) := by unfold bl; rw [if_neg (Nat.pos_iff_ne_zero.1 hpos)]; omega
  obtain ⟨b, hbb⟩ : ∃ b, bl (n / 2 ^ k) = b + 1 := ⟨bl (n / 2 ^ k) - 1, by omega⟩
  rw [hbb] at e1 e2 ⊢
  rw [show b + 1 + k = (b + k) + 1 by omega]
  refine bl_of ?_ ?_
  · have := (Nat.div_lt_iff_lt_mul (Nat.pow_pos (n := k) (show 0 < 2 by decide))).1 e1
    rw [show b + k + 1 = (b + 1) + k by omega, Nat.pow_add]; exact this
  · have := (Nat.le_div_iff_mul_le (Nat.pow_pos (n := k) (show 0 < 2 by decide))).1 e2
    rw [Nat.add_sub_cancel, ← Nat.pow_add] at this; exact this
def ahead (u : Nat) : Nat := (max (bl u) 1 - 1) / 7
theorem ahead_lt (u : Nat) : u < 128 ^ (ahead u + 1) := by
  have h := bl_lt u
  have : bl u ≤ 7 * (ahead u + 1) := by unfold ahead; omega
  have h2 : 2 ^ bl u ≤ 2 ^ (7 * (ahead u + 1)) := Nat.pow_le_pow_right (by decide) this
  rw [Nat.pow_mul] at h2
  exact Nat.lt_of_lt_of_le h h2
theorem ahead_le {u : Nat} (h : ahead u ≠ 0) : 128 ^ ahead u ≤ u := by
  have hu : u ≠ 0 := by rintro rfl; simp [ahead, bl] at h
  have h1 := bl_le hu
  have : 7 * ahead u ≤ bl u - 1 := by unfold ahead; omega
  have h2 : 2 ^ (7 * ahead u) ≤ 2 ^ (bl u - 1) := Nat.pow_le_pow_right (by decide) this
  rw [Nat.pow_mul] at h2
  exact Nat.le_trans h2 h1
theorem ahead_bd {u : Nat} (h : u < 2 ^ 64) : ahead u ≤ 9 := by
  have : bl u ≤ 64 := by
    by_cases hu : u = 0
    · simp [hu, bl]
    · have h1 := bl_le hu
      have : bl u - 1 < 64 := (Nat.pow_lt_pow_iff_right (by decide)).1 (Nat.lt_of_le_of_lt h1 h)
      omega
  unfold ahead; omega
def emit (u K q : Nat) : List UInt8 := (List.range q).map fun i => digit (u / 128 ^ (K - i))
theorem emit_succ (u K q : Nat) : emit u K (q + 1) = emit u K q ++ [digit (u / 128 ^ (K - q))] := by simp [emit, List.range_succ]
theorem numHi_emit : ∀ (K m : Nat), m < 128 ^ K → (K ≠ 0 → 128 ^ (K - 1) ≤ m) → numHi m = (List.range K).map fun i => digit (m / 128 ^ (K - 1 - i))
  | 0, m, h, _ => by
    obtain rfl : m = 0 := by simpa using h
    rw [numHi_zero]; rfl
  | K + 1, m, h, h2 => by
    have h2' := h2 (by omega)
    simp only [Nat.add_sub_cancel] at h2'
    have hm : m ≠ 0 := by have := Nat.pow_pos (n := K) (show 0 < 128 by decide); omega
    rw [numHi_pos hm]
    have ih := numHi_emit K (m / 128) (by rw [Nat.div_lt_iff_lt_mul (by decide), ← Nat.pow_succ]; exact h) (fun hK => by
      rw [Nat.le_div_iff_mul_le (by decide), ← Nat.pow_succ]; show 128 ^ (K - 1 + 1) ≤ m; rw [show K - 1 + 1 = K by omega]; exact h2')
    rw [ih, List.range_succ, List.map_append]
    congr 1
    · refine List.map_congr_left fun i hi => ?_
      have hi' : i < K := List.mem_range.1 hi
      rw [Nat.div_div_eq_div_mul, ← Nat.pow_succ']
      congr 3; omega
    · simp
theorem num_emit (u : Nat) : num u = emit u (ahead u) (ahead u) ++ [lastD u] := by
  unfold num
  congr 1
  have h1 := ahead_lt u
  rw [numHi_emit (ahead u) (u / 128) (by rw [Nat.div_lt_iff_lt_mul (by decide), ← Nat.pow_succ]; exact h1) (fun h => by
    rw [Nat.le_div_iff_mul_le (by decide), ← Nat.pow_succ]; show 128 ^ (ahead u - 1 + 1) ≤ u; rw [show ahead u - 1 + 1 = ahead u by omega]; exact ahead_le h)]
  unfold emit
  refine List.map_congr_left fun i hi => ?_
  have hi' : i < ahead u := List.mem_range.1 hi
  rw [Nat.div_div_eq_div_mul, ← Nat.pow_succ']
  congr 3; omega
theorem num_length (u : Nat) : (num u).length = ahead u + 1 := by rw [num_emit]; simp [emit]
theorem num_le {u : Nat} (h : u < 2 ^ 64) : (num u).length ≤ 10 := by rw [num_length]; have := ahead_bd h; omega
/-! ### Taking -/
def takeL : Nat → Nat → List UInt8 → Nat × Nat × Nat
  | _, _, [] => (0, 0, 2)
  | n, i, c :: r =>
    if i = 0 ∧ c = 128 then (0, 0, 3)
    else if 144115188075855872 ≤ n then (0, 0, 4)
    else if c.toNat < 128 then (n * 128 + c.toNat % 128, i + 1, 0) else takeL (n * 128 + c.toNat % 128) (i + 1) r
def vTake (l : List UInt8) (at_ : Int) : Nat × Nat × Nat :=
  if at_ < 0 ∨ (l.length : Int) < at_ then (0, 0, 1)
  else if (takeL 0 0 (l.drop at_.toNat)).2.2 = 0 then ((takeL 0 0 (l.drop at_.toNat)).1, at_.toNat + (takeL 0 0 (l.drop at_.toNat)).2.1, 0) else (0, 0, (takeL 0 0 (l.drop at_.toNat)).2.2)
theorem takeL_bd : ∀ (l : List UInt8) (n i : Nat), n < 2 ^ 64 → (takeL n i l).1 < 2 ^ 64 ∧ (takeL n i l).2.1 ≤ i + l.length ∧ ((takeL n i l).2.2 = 0 → i < (takeL n i l).2.1) ∧ (takeL n i l).2.2 ≤ 4 ∧ ((takeL n i l).2.2 ≠ 0 → (takeL n i l).1 = 0 ∧ (takeL n i l).2.1 = 0)
  | [], n, i, _ => by simp [takeL]
  | c :: r, n, i, h => by
    unfold takeL
    by_cases h1 : i = 0 ∧ c = 128
    · simp [h1]
    · rw [if_neg h1]
      by_cases h2 : 144115188075855872 ≤ n
      · rw [if_pos h2]; simp
      · rw [if_neg h2]
        have hlt : n * 128 + c.toNat % 128 < 2 ^ 64 := by omega
        by_cases h3 : c.toNat < 128
        · rw [if_pos h3]; simp only [List.length_cons]
          refine ⟨hlt, by omega, fun _ => by omega, by omega, fun hh => absurd rfl hh⟩
        · rw [if_neg h3]
          obtain ⟨e1, e2, e3, e4, e5⟩ := takeL_bd r (n * 128 + c.toNat % 128) (i + 1) hlt
          simp only [List.length_cons]
          exact ⟨e1, by omega, fun h => by have := e3 h; omega, e4, e5⟩
theorem vTake_bd (l : List UInt8) (at_ : Int) : (vTake l at_).1 < 2 ^ 64 ∧ (vTake l at_).2.1 ≤ l.length ∧ (vTake l at_).2.2 ≤ 4 ∧ ((vTake l at_).2.2 = 0 → 0 ≤ at_ ∧ at_ < (vTake l at_).2.1) ∧ ((vTake l at_).2.2 ≠ 0 → (vTake l at_).1 = 0 ∧ (vTake l at_).2.1 = 0) := by
  unfold vTake
  split
  · simp
  · rename_i h
    obtain ⟨e1, e2, e3, e4, e5⟩ := takeL_bd (l.drop at_.toNat) 0 0 (by decide)
    rw [List.length_drop] at e2
    split
    · rename_i h0
      have := e3 h0
      refine ⟨e1, by show at_.toNat + _ ≤ _; omega, by simp, fun _ => ?_, fun hh => absurd rfl hh⟩
      show 0 ≤ at_ ∧ at_ < ((at_.toNat + _ : Nat) : Int)
      omega
    · rename_i h0
      exact ⟨by simp, by simp, e4, fun hh => absurd hh h0, fun _ => ⟨rfl, rfl⟩⟩
theorem takeL_hi : ∀ (m : Nat) (r : List UInt8), m < 2 ^ 57 → takeL 0 0 (numHi m ++ r) = takeL m (numHi m).length r := by
  intro m
  induction m using Nat.strongRecOn with
  | _ m ih =>
    intro r hm
    by_cases h0 : m = 0
    · subst h0; rw [numHi_zero]; rfl
    · rw [numHi_pos h0, List.append_assoc, ih (m / 128) (by omega) _ (by omega)]
      simp only [List.singleton_append, List.length_append, List.length_singleton]
      have hd := digit_nat m
      conv => lhs; unfold takeL
      rw [if_neg, if_neg (by omega), if_neg (by omega)]
      · rw [hd]; congr 1; omega
      · rintro ⟨hl, hc⟩
        have hm0 : m / 128 = 0 := by
          by_cases hz : m / 128 = 0
          · exact hz
          · rw [numHi_pos hz] at hl; simp at hl
        have : (digit m).toNat = 128 := by rw [hc]; rfl
        omega
theorem takeL_num (u : Nat) (hu : u < 2 ^ 64) (r : List UInt8) : takeL 0 0 (num u ++ r) = (u, (num u).length, 0) := by
  have hl := lastD_nat u
  unfold num
  rw [List.append_assoc, takeL_hi (u / 128) _ (by omega)]
  simp only [List.singleton_append, List.length_append, List.length_singleton]
  unfold takeL
  rw [if_neg, if_neg (by omega), if_pos (by omega)]
  · rw [hl]; congr 1; omega
  · rintro ⟨_, hc⟩
    have : (lastD u).toNat = 128 := by rw [hc]; rfl
    omega
end Go.Proofs.YtmljgobenlpnfaaGreat
end

section
namespace Go.Proofs.YtmljgobenlpnfaaGreat
open Go.Free Go.RowKit Go.Proofs
theorem u64n {x : Nat} (h : x < 2 ^ 64) : IntKind.u64.wrap (x : Int) = x := by rw [IntKind.wrap_u64]; omega
theorem u8n (x : Nat) : IntKind.u8.wrap (x : Int) = ((x % 256 : Nat) : Int) := by rw [IntKind.wrap_u8]; omega
theorem fdivn (x k : Nat) : (x : Int).fdiv (2 ^ k) = ((x / 2 ^ k : Nat) : Int) := by
  rw [Int.fdiv_eq_ediv_of_nonneg _ (by exact Int.le_of_lt (Int.pow_pos (by decide)))]
  simp
def tab8 : List UInt8 := (List.range 256).map fun n => UInt8.ofNat (bl n)
theorem lenEnd {n x u : Nat} (h : bl u = n + bl x) (hx : x < 256) (hn : n ≤ 56) : bl u < 128 := by
  have : bl x ≤ 8 := by
    by_cases h0 : x = 0
    · simp [h0, bl]
    · have h1 := bl_le h0
      have : bl x - 1 < 8 := (Nat.pow_lt_pow_iff_right (a := 2) (by decide)).1 (by omega)
      omega
  omega
def lenEnv (s : Nat × Nat) : Env := [(0, .ex (.int .u64 s.1)), (2, .ex (.int .i64 s.2))]
theorem bits_Len64 (u : Nat) (hu : u < 2 ^ 64) : Spc Tryz.prog 110 [.ex (.int .u64 u)] fun _ => .ex (.int .i64 (bl u)) := by
  refine Spc.intro Tryz.func110 rfl (Nat.le_of_ble_eq_true rfl) fun w0 => ?_
  have hI := hIb w0
  refine J.seq (J.region mixed hI (by kernel_rfl) ?_)
  repeat (refine Plan.assign rfl rfl rfl rfl ?_)
  refine J.seqMid lenEnv (fun s => s.1 < 2 ^ 32 ∧ bl u = s.2 + bl s.1 ∧ s.2 ≤ 32) ?_ ?_
  · refine J.seq (J.region mixed hI (by kernel_rfl) ?_)
    repeat (first | refine Plan.move rfl rfl rfl rfl ?_ | refine Plan.ints rfl rfl rfl rfl rfl rfl ?_)
    refine J.cond rfl (fun hc => ?_) (fun hc => ?_)
    · have h : 2 ^ 32 ≤ u := by have : (4294967296 : Int) ≤ u := by simpa using hc
                                omega
      refine J.seq (J.region mixed hI (by kernel_rfl) ?_)
      refine Plan.move rfl rfl rfl rfl ?_
      refine Plan.shift rfl rfl rfl rfl rfl rfl ?_
      refine Plan.int (fdivn u 32) ?_
      repeat (refine Plan.assign rfl rfl rfl rfl ?_)
      refine (J.region mixed hI (by kernel_rfl) ?_)
      repeat (refine Plan.assign rfl rfl rfl rfl ?_)
      exact Nrm.mid (u / 2 ^ 32, 32) ⟨by show u / 2 ^ 32 < _; omega, by show bl u = 32 + bl (u / 2 ^ 32); rw [bl_shift h]; omega, by show 32 ≤ 32; omega⟩ (Weak.cons rfl (Sub.refl _) (Weak.cons rfl (Sub.refl _) Weak.nil))
    · have h : u < 2 ^ 32 := by have : ¬ (4294967296 : Int) ≤ u := by simpa using hc
                                omega
      refine J.skip ?_
      exact Nrm.mid (u, 0) ⟨h, by simp, by show 0 ≤ 32; omega⟩ (Weak.cons rfl (Sub.refl _) (Weak.cons rfl (Sub.refl _) Weak.nil))
  rintro ⟨x, n⟩ ⟨hx, hb, hn⟩
  simp only at hx hb hn
  refine J.seqMid lenEnv (fun s => s.1 < 2 ^ 16 ∧ bl u = s.2 + bl s.1 ∧ s.2 ≤ 48) ?_ ?_
  · refine J.seq (J.region mixed hI (by kernel_rfl) ?_)
    repeat (first | refine Plan.move rfl rfl rfl rfl ?_ | refine Plan.ints rfl rfl rfl rfl rfl rfl ?_)
    refine J.cond rfl (fun hc => ?_) (fun hc => ?_)
    · have h : 2 ^ 16 ≤ x := by have : (65536 : Int) ≤ x := by simpa using hc
                                omega
      refine J.seq (J.region mixed hI (by kernel_rfl) ?_)
      refine Plan.move rfl rfl rfl rfl ?_
      refine Plan.shift rfl rfl rfl rfl rfl rfl ?_
      refine Plan.int (fdivn x 16) ?_
      repeat (refine Plan.assign rfl rfl rfl rfl ?_)
      refine (J.region mixed hI (by kernel_rfl) ?_)
      refine Plan.move rfl rfl rfl rfl ?_
      refine Plan.ints rfl rfl rfl rfl rfl rfl ?_
      refine Plan.int (y := ((n + 16 : Nat) : Int)) (by rw [i64r (by omega)]; omega) ?_
      repeat (refine Plan.assign rfl rfl rfl rfl ?_)
      exact Nrm.mid (x / 2 ^ 16, n + 16) ⟨by show x / 2 ^ 16 < _; omega, by show bl u = n + 16 + bl (x / 2 ^ 16); rw [hb, bl_shift h]; omega, by show n + 16 ≤ 48; omega⟩ (Weak.cons rfl (Sub.refl _) (Weak.cons rfl (Sub.refl _) Weak.nil))
    · have h : x < 2 ^ 16 := by have : ¬ (65536 : Int) ≤ x := by simpa using hc
                                omega
      refine J.skip ?_
      exact Nrm.mid (x, n) ⟨h, hb, by show n ≤ 48; omega⟩ (Weak.cons rfl (Sub.refl _) (Weak.cons rfl (Sub.refl _) Weak.nil))
  clear hx hb hn x n
  rintro ⟨x, n⟩ ⟨hx, hb, hn⟩
  simp only at hx hb hn
  refine J.seqMid lenEnv (fun s => s.1 < 2 ^ 8 ∧ bl u = s.2 + bl s.1 ∧ s.2 ≤ 56) ?_ ?_
  · refine J.seq (J.region mixed hI (by kernel_rfl) ?_)
    repeat (first | refine Plan.move rfl rfl rfl rfl ?_ | refine Plan.ints rfl rfl rfl rfl rfl rfl ?_)
    refine J.cond rfl (fun hc => ?_) (fun hc => ?_)
    · have h : 2 ^ 8 ≤ x := by have : (256 : Int) ≤ x := by simpa using hc
                               omega
      refine J.seq (J.region mixed hI (by kernel_rfl) ?_)
      refine Plan.move rfl rfl rfl rfl ?_
      refine Plan.shift rfl rfl rfl rfl rfl rfl ?_
      refine Plan.int (fdivn x 8) ?_
      repeat (refine Plan.assign rfl rfl rfl rfl ?_)
      refine (J.region mixed hI (by kernel_rfl) ?_)
      refine Plan.move rfl rfl rfl rfl ?_
      refine Plan.ints rfl rfl rfl rfl rfl rfl ?_
      refine Plan.int (y := ((n + 8 : Nat) : Int)) (by rw [i64r (by omega)]; omega) ?_
      repeat (refine Plan.assign rfl rfl rfl rfl ?_)
      exact Nrm.mid (x / 2 ^ 8, n + 8) ⟨by show x / 2 ^ 8 < _; omega, by show bl u = n + 8 + bl (x / 2 ^ 8); rw [hb, bl_shift h]; omega, by show n + 8 ≤ 56; omega⟩ (Weak.cons rfl (Sub.refl _) (Weak.cons rfl (Sub.refl _) Weak.nil))
    · have h : x < 2 ^ 8 := by have : ¬ (256 : Int) ≤ x := by simpa using hc
                               omega
      refine J.skip ?_
      exact Nrm.mid (x, n) ⟨h, hb, by show n ≤ 56; omega⟩ (Weak.cons rfl (Sub.refl _) (Weak.cons rfl (Sub.refl _) Weak.nil))
  clear hx hb hn x n
  rintro ⟨x, n⟩ ⟨hx, hb, hn⟩
  simp only at hx hb hn
  have hlt := lenEnd hb (by omega) hn
  have htab : ∀ x : Fin 256, (tab8.getD x.val 0).toNat = bl x.val := by decide +kernel
  refine J.seq (J.region mixed hI (by kernel_rfl) ?_)
  repeat (refine Plan.move rfl rfl rfl rfl ?_)
  refine Plan.convInt rfl rfl rfl rfl Tryz.underlying148 Tryz.underlying5 ?_
  refine Plan.int (y := (x : Int)) (by rw [u8n]; omega) ?_
  refine Plan.index (p := tab8) rfl rfl rfl (by kernel_rfl) rfl Tryz.underlying9 (by omega) (by show (x : Int) < ((List.length tab8 : Nat) : Int); rw [show List.length tab8 = 256 from by simp [tab8]]; omega) ?_
  refine Plan.int (y := (bl x : Int)) (by rw [Int.toNat_natCast]; exact congrArg _ (htab ⟨x, by omega⟩)) ?_
  refine Plan.convInt rfl rfl rfl rfl Tryz.underlying5 Tryz.underlying3 ?_
  refine Plan.int (y := (bl x : Int)) (i64r (by omega)) ?_
  refine Plan.ints rfl rfl rfl rfl rfl rfl ?_
  refine Plan.int (y := (bl u : Int)) (by rw [i64r (by omega)]; omega) ?_
  repeat (refine Plan.assign rfl rfl rfl rfl ?_)
  exact J.ret (Nrm.ret1 rfl (fun _ h => h) rfl fun B _ => Sub.refl _)
theorem vlq_own (l : List UInt8) (hl : l.length ≤ 140737488355308) : Spc Tryz.prog 109 [bytesF l] fun B => ownB B l := by
  refine Spc.intro Tryz.func109 rfl (Nat.le_of_ble_eq_true rfl) fun w0 => ?_
  have hI := hIb w0
  refine J.seq (J.region mixed hI (by kernel_rfl) ?_)
  repeat (refine Plan.assign rfl rfl rfl rfl ?_)
  refine J.seq (J.region mixed hI (by kernel_rfl) ?_)
  repeat (refine Plan.move rfl rfl rfl rfl ?_)
  refine Plan.lenRow rfl rfl rfl rfl (Sub.old fun _ h => h) Tryz.underlying56 (m := l.length) (by simp [bs]) (by decide) ?_
  refine Plan.ints rfl rfl rfl rfl rfl rfl ?_
  refine Plan.int (y := ((l.length + 10 : Nat) : Int)) (by rw [i64r (by omega)]; omega) ?_
  refine Plan.make0 (B := w0.heap.size) rfl rfl rfl rfl rfl eltB (hBb w0) (by omega) ?_
  repeat (refine Plan.move rfl rfl rfl rfl ?_)
  refine Plan.append rfl rfl rfl rfl (Sub.refl _) rfl (Sub.old fun _ h => h) eltB (by intro d hd; cases hd; decide) (hGb w0) (bs_one l) (by simp [bs]; omega) ?_
  repeat (refine Plan.assign rfl rfl rfl rfl ?_)
  exact J.ret (Nrm.ret1 rfl (fun _ h => h) rfl fun B hB => Sub.trans (Sub.of_eq (by simp)) (Sub.ownLower hB))
theorem or128 (x : Nat) : IntKind.u8.wrap ((BitVec.ofInt IntKind.u8.bits (IntKind.u8.wrap (x : Int)) ||| BitVec.ofInt IntKind.u8.bits 128).toNat : Int) = (digit x).toNat := by
  have h : ∀ y : Fin 256, (BitVec.ofInt 8 (y.val : Int) ||| BitVec.ofInt 8 128).toNat = 128 + y.val % 128 := by decide +kernel
  have := h ⟨x % 256, by omega⟩
  simp only at this
  rw [u8n, digit_nat]
  show IntKind.u8.wrap ((BitVec.ofInt 8 ((x % 256 : Nat) : Int) ||| BitVec.ofInt 8 128).toNat : Int) = _
  rw [this, IntKind.wrap_u8]
  omega
theorem and127 (x : Nat) : IntKind.u8.wrap ((BitVec.ofInt IntKind.u8.bits (IntKind.u8.wrap (x : Int)) &&& BitVec.ofInt IntKind.u8.bits 127).toNat : Int) = (lastD x).toNat := by
  have h : ∀ y : Fin 256, (BitVec.ofInt 8 (y.val : Int) &&& BitVec.ofInt 8 127).toNat = y.val % 128 := by decide +kernel
  have := h ⟨x % 256, by omega⟩
  simp only at this
  rw [u8n, lastD_nat]
  show IntKind.u8.wrap ((BitVec.ofInt 8 ((x % 256 : Nat) : Int) &&& BitVec.ofInt 8 127).toNat : Int) = _
  rw [this, IntKind.wrap_u8]
  omega
def putEnv (w0 : World) (l : List UInt8) (u q : Nat) : Env := [(1, .ex (.int .u64 u)), (5, ownB w0.heap.size (l ++ emit u (ahead u) q)), (6, .ex (.int .i64 ((7 * (ahead u - q) : Nat) : Int)))]
theorem vlq_Put (l : List UInt8) (u : Nat) (hu : u < 2 ^ 64) (hl : l.length ≤ 140737488355308) : Spc Tryz.prog 90 [bytesF l, .ex (.int .u64 u)] fun B => ownB B (l ++ num u) := by
  refine Spc.intro Tryz.func90 rfl (Nat.le_of_ble_eq_true rfl) fun w0 => ?_
  have hI := hIb w0
  have hbd := ahead_bd hu
  have hbl : bl u ≤ 70 := by have : ahead u ≤ 9 := hbd; unfold ahead at this; omega
  refine J.seq (J.region mixed hI (by kernel_rfl) ?_)
  repeat (refine Plan.assign rfl rfl rfl rfl ?_)
  refine J.seq (J.region mixed hI (by kernel_rfl) ?_)
  repeat (refine Plan.move rfl rfl rfl rfl ?_)
  refine Plan.call (B := w0.heap.size) rfl rfl rfl (vlq_own l hl) Tryz.func109 rfl rfl (hBb w0) (Opnds.cons rfl (Sub.old fun _ h => h) Opnds.nil) ?_
  repeat (refine Plan.assign rfl rfl rfl rfl ?_)
  refine J.seq (J.seq (J.region mixed hI (by kernel_rfl) ?_))
  repeat (refine Plan.move rfl rfl rfl rfl ?_)
  refine Plan.call (B := 0) (R := fun _ => .ex (.int .i64 (bl u))) rfl rfl rfl (bits_Len64 u hu) Tryz.func110 rfl rfl (fun _ _ => Nat.zero_le _) (Opnds.cons rfl (Sub.refl _) Opnds.nil) ?_
  refine Plan.max2 rfl rfl rfl rfl rfl ?_
  refine Plan.int (y := ((max (bl u) 1 : Nat) : Int)) (by split <;> omega) ?_
  refine Plan.ints rfl rfl rfl rfl rfl rfl ?_
  refine Plan.int (y := ((max (bl u) 1 - 1 : Nat) : Int)) (by rw [i64r (by omega)]; omega) ?_
  refine Plan.ints rfl rfl rfl rfl rfl rfl ?_
  refine Plan.int (y := (ahead u : Int)) (by rw [Int.tdiv_eq_ediv_of_nonneg (by omega), i64r (by omega)]; unfold ahead; omega) ?_
  refine Plan.ints rfl rfl rfl rfl rfl rfl ?_
  refine Plan.int (y := ((7 * (ahead u - 0) : Nat) : Int)) (by rw [i64r (by omega)]; omega) ?_
  repeat (refine Plan.assign rfl rfl rfl rfl ?_)
  refine J.block (J.loop (putEnv w0 l u) (fun q => q ≤ ahead u) (fun q => ahead u - q) 0 (Nat.zero_le _) ?_ ?_)
  · exact Weak.cons rfl (Sub.refl _) (Weak.cons rfl (Sub.of_eq (by simp [emit])) (Weak.cons rfl (Sub.refl _) Weak.nil))
  intro q hq
  have hel : (emit u (ahead u) q).length = q := by simp [emit]
  refine J.seq (J.seq (J.region mixed hI (by kernel_rfl) ?_))
  repeat (first | refine Plan.move rfl rfl rfl rfl ?_ | refine Plan.ints rfl rfl rfl rfl rfl rfl ?_)
  refine J.cond rfl (fun hc => ?_) (fun hc => ?_)
  · have hlt : q < ahead u := by have : (0 : Int) < ((7 * (ahead u - q) : Nat) : Int) := by simpa using hc
                                 omega
    refine J.skip ?_
    refine J.seq (J.block (J.region mixed hI (by kernel_rfl) ?_))
    refine Plan.move rfl rfl rfl rfl ?_
    refine Plan.move rfl rfl rfl rfl ?_
    refine Plan.move rfl rfl rfl rfl ?_
    refine Plan.shift (v := .int .u64 ((u / 128 ^ (ahead u - q) : Nat) : Int)) rfl rfl rfl rfl rfl ?_ ?_
    · unfold shVal
      rw [if_neg (by omega)]
      simp only [Int.toNat_natCast]
      have hmin : min (7 * (ahead u - q)) IntKind.u64.bits = 7 * (ahead u - q) := Nat.min_eq_left (by show 7 * (ahead u - q) ≤ 64; omega)
      rw [hmin, fdivn, Nat.pow_mul]
    refine Plan.convInt rfl rfl rfl rfl Tryz.underlying148 Tryz.underlying5 ?_
    refine Plan.ints rfl rfl rfl rfl rfl rfl ?_
    refine Plan.int (or128 _) ?_
    refine Plan.lit (B := w0.heap.size) rfl rfl rfl eltB rfl (hBb w0) rfl (by simp [Value.cells]) (by decide) ?_
    refine Plan.append (news := bs [digit (u / 128 ^ (ahead u - q))]) rfl rfl rfl rfl (Sub.refl _) rfl Sub.own eltB (by intro d hd; cases hd; decide) (hGb w0) (bs_one _) (by simp [bs, hel]; omega) ?_
    repeat (refine Plan.assign rfl rfl rfl rfl ?_)
    refine (J.region mixed hI (by kernel_rfl) ?_)
    refine Plan.move rfl rfl rfl rfl ?_
    refine Plan.ints rfl rfl rfl rfl rfl rfl ?_
    refine Plan.int (y := ((7 * (ahead u - (q + 1)) : Nat) : Int)) (by rw [i64r (by omega)]; omega) ?_
    repeat (refine Plan.assign rfl rfl rfl rfl ?_)
    refine Nrm.weak (putEnv w0 l u (q + 1)) ?_ fun a w h1 h2 h3 => ⟨q + 1, by omega, by omega, h1, h2, h3⟩
    refine Weak.cons rfl (Sub.refl _) (Weak.cons rfl (Sub.of_eq ?_) (Weak.cons rfl (Sub.refl _) Weak.nil))
    rw [← bs_append, emit_succ, List.append_assoc]
  · have hge : q = ahead u := by have : ¬ (0 : Int) < ((7 * (ahead u - q) : Nat) : Int) := by simpa using hc
                                 omega
    subst hge
    refine J.exit ?_
    refine J.seq (J.region mixed hI (by kernel_rfl) ?_)
    repeat (refine Plan.move rfl rfl rfl rfl ?_)
    refine Plan.convInt rfl rfl rfl rfl Tryz.underlying148 Tryz.underlying5 ?_
    refine Plan.ints rfl rfl rfl rfl rfl rfl ?_
    refine Plan.int (and127 _) ?_
    refine Plan.lit (B := w0.heap.size) rfl rfl rfl eltB rfl (hBb w0) rfl (by simp [Value.cells]) (by decide) ?_
    refine Plan.append (news := bs [lastD u]) rfl rfl rfl rfl (Sub.refl _) rfl Sub.own eltB (by intro d hd; cases hd; decide) (hGb w0) (bs_one _) (by simp [bs, hel]; omega) ?_
    repeat (refine Plan.assign rfl rfl rfl rfl ?_)
    refine J.ret (Nrm.ret1 rfl (fun _ h => h) rfl fun B hB => Sub.trans (Sub.of_eq ?_) (Sub.ownLower hB))
    rw [← bs_append, List.append_assoc, ← num_emit]
end Go.Proofs.YtmljgobenlpnfaaGreat
end

section
namespace Go.Proofs.YtmljgobenlpnfaaGreat
open Go.Free Go.RowKit Go.Proofs
theorem mk_u64 (n c : Nat) (hn : n < 2 ^ 57) (hc : c < 128) : IntKind.u64.wrap ((BitVec.ofInt IntKind.u64.bits ((n * 128 : Nat) : Int) ||| BitVec.ofInt IntKind.u64.bits (c : Int)).toNat : Int) = ((n * 128 + c : Nat) : Int) := by
  have h : (BitVec.ofInt IntKind.u64.bits ((n * 128 : Nat) : Int) ||| BitVec.ofInt IntKind.u64.bits (c : Int)).toNat = n * 128 + c := by
    show (BitVec.ofInt 64 ((n * 128 : Nat) : Int) ||| BitVec.ofInt 64 (c : Int)).toNat = _
    rw [BitVec.toNat_or, ofInt_u64 _ (by omega), ofInt_u64 _ (by omega)]
    have := Nat.shiftLeft_add_eq_or_of_lt (a := n) (b := c) (i := 7) (by omega)
    rw [Nat.shiftLeft_eq] at this
    exact this.symm
  rw [h, u64n (by omega)]
theorem and127n (c : UInt8) : IntKind.u8.wrap ((BitVec.ofInt IntKind.u8.bits (c.toNat : Int) &&& BitVec.ofInt IntKind.u8.bits 127).toNat : Int) = ((c.toNat % 128 : Nat) : Int) := by
  have h := and127 c.toNat
  rw [w8, lastD_nat] at h
  exact h
theorem takeL_at (l : List UInt8) (n i : Nat) (h : i < l.length) : takeL n i (l.drop i) =
    if i = 0 ∧ l.getD i 0 = 128 then (0, 0, 3) else if 144115188075855872 ≤ n then (0, 0, 4)
    else if (l.getD i 0).toNat < 128 then (n * 128 + (l.getD i 0).toNat % 128, i + 1, 0) else takeL (n * 128 + (l.getD i 0).toNat % 128) (i + 1) (l.drop (i + 1)) := by
  have hg : l.getD i 0 = l[i] := by simp [List.getD_eq_getElem?_getD, List.getElem?_eq_getElem h]
  rw [List.drop_eq_getElem_cons h, hg]
  rfl
def takeRes (l : List UInt8) (p : Int) : Fa := .tup [.ex (.int .u64 (vTake l p).1), .ex (.int .i64 (vTake l p).2.1), .ex (.int .i64 (vTake l p).2.2)]
def tkEnv (w0 : World) (l : List UInt8) (p : Int) (s : Nat × Nat) : Env :=
  [(0, .old w0 (bytesF l)), (1, .ex (.int .i64 p)), (7, .ex (.int .u64 s.1)), (20, bytesF (l.drop p.toNat)), (21, .ex (.int .i64 (l.drop p.toNat).length)), (22, .ex (.int .i64 s.2))]
theorem vlq_Take (l : List UInt8) (p : Int) (hp : -9223372036854775808 ≤ p ∧ p ≤ 9223372036854775807) (hl : l.length ≤ 9223372036854775807) : Spc Tryz.prog 103 [bytesF l, .ex (.int .i64 p)] fun _ => takeRes l p := by
  refine Spc.intro Tryz.func103 rfl (Nat.le_of_ble_eq_true rfl) fun w0 => ?_
  have hI := hIb w0
  refine J.seq (J.region mixed hI (by kernel_rfl) ?_)
  repeat (refine Plan.assign rfl rfl rfl rfl ?_)
  refine J.seq (J.seq (J.region mixed hI (by kernel_rfl) ?_))
  refine Plan.move rfl rfl rfl rfl ?_
  refine Plan.ints rfl rfl rfl rfl rfl rfl ?_
  by_cases h0 : p < 0
  · have hv : vTake l p = (0, 0, 1) := by unfold vTake; rw [if_pos (.inl h0)]
    refine Plan.boolv (y := true) (by simp; omega) ?_
    repeat (first | refine Plan.move rfl rfl rfl rfl ?_ | refine Plan.skip rfl rfl ?_ | refine Plan.pick rfl rfl rfl rfl rfl ?_)
    refine J.cond rfl (fun _ => ?_) (fun h => by cases h)
    refine J.seq (J.region mixed hI (by kernel_rfl) ?_)
    repeat (refine Plan.assign rfl rfl rfl rfl ?_)
    refine J.ret (Nrm.ret3 rfl (fun _ h => h) fun B _ => ⟨_, rfl, Ress.cons rfl (Sub.of_eq (by rw [hv]; rfl)) (Ress.cons rfl (Sub.of_eq (by rw [hv]; rfl)) (Ress.cons rfl (Sub.of_eq (by rw [hv]; rfl)) Ress.nil))⟩)
  refine Plan.boolv (y := false) (by simp; omega) ?_
  repeat (refine Plan.move rfl rfl rfl rfl ?_)
  refine Plan.lenRow rfl rfl rfl rfl (Sub.old fun _ h => h) Tryz.underlying56 (m := l.length) (by simp [bs]) (by decide) ?_
  refine Plan.ints rfl rfl rfl rfl rfl rfl ?_
  by_cases h1 : (l.length : Int) < p
  · have hv : vTake l p = (0, 0, 1) := by unfold vTake; rw [if_pos (.inr h1)]
    refine Plan.boolv (y := true) (by simp; omega) ?_
    repeat (refine Plan.pick rfl rfl rfl rfl rfl ?_)
    refine J.cond rfl (fun _ => ?_) (fun h => by cases h)
    refine J.seq (J.region mixed hI (by kernel_rfl) ?_)
    repeat (refine Plan.assign rfl rfl rfl rfl ?_)
    refine J.ret (Nrm.ret3 rfl (fun _ h => h) fun B _ => ⟨_, rfl, Ress.cons rfl (Sub.of_eq (by rw [hv]; rfl)) (Ress.cons rfl (Sub.of_eq (by rw [hv]; rfl)) (Ress.cons rfl (Sub.of_eq (by rw [hv]; rfl)) Ress.nil))⟩)
  refine Plan.boolv (y := false) (by simp; omega) ?_
  repeat (refine Plan.pick rfl rfl rfl rfl rfl ?_)
  refine J.cond rfl (fun h => by cases h) (fun _ => ?_)
  have hlen : (l.drop p.toNat).length = l.length - p.toNat := List.length_drop
  refine J.skip ?_
  refine J.seq (J.region mixed hI (by kernel_rfl) ?_)
  repeat (refine Plan.assign rfl rfl rfl rfl ?_)
  refine J.seq (J.seq (J.region mixed hI (by kernel_rfl) ?_))
  refine Plan.move rfl rfl rfl rfl ?_
  refine Plan.move rfl rfl rfl rfl ?_
  refine Plan.int (y := ((p.toNat : Nat) : Int)) (by omega) ?_
  refine Plan.sliceRow (m := l.length) (a0 := p.toNat) (b0 := l.length) rfl rfl rfl rfl (Sub.old fun _ h => h) eltB (by simp [bs]) (.inr ⟨_, _, rfl, rfl⟩) (.inl ⟨rfl, rfl⟩) (by omega) (Nat.le_refl _) ?_
  have hrow : ((bs l).take (l.length * 1)).drop (p.toNat * 1) = bs (l.drop p.toNat) := by
    rw [Nat.mul_one, Nat.mul_one, ← bs_length l, List.take_length]; simp [bs, List.map_drop]
  rw [hrow]
  refine Plan.lenRow rfl rfl rfl rfl (Sub.refl _) Tryz.underlying56 (m := (l.drop p.toNat).length) (by simp [bs]) (by decide) ?_
  repeat (refine Plan.move rfl rfl rfl rfl ?_)
  refine J.block (J.loop (tkEnv w0 l p) (fun s => s.2 ≤ (l.drop p.toNat).length ∧ s.1 < 2 ^ 64 ∧ takeL 0 0 (l.drop p.toNat) = takeL s.1 s.2 ((l.drop p.toNat).drop s.2)) (fun s => (l.drop p.toNat).length - s.2) (0, 0) ⟨Nat.zero_le _, by decide, rfl⟩ ?_ ?_)
  · exact Weak.cons rfl (Sub.refl _) (Weak.cons rfl (Sub.refl _) (Weak.cons rfl (Sub.refl _) (Weak.cons rfl (Sub.refl _) (Weak.cons rfl (Sub.refl _) (Weak.cons rfl (Sub.refl _) Weak.nil)))))
  rintro ⟨m, i⟩ ⟨hi, hm, ht⟩
  simp only at hi hm ht
  have hnn : ¬ (p < 0 ∨ (l.length : Int) < p) := by omega
  refine J.seq (J.region mixed hI (by kernel_rfl) ?_)
  repeat (refine Plan.ints rfl rfl rfl rfl rfl rfl ?_)
  refine J.seq (J.cond rfl (fun hc => ?_) (fun hc => ?_))
  · have hlt : i < (l.drop p.toNat).length := by simpa using hc
    rw [takeL_at _ _ _ hlt] at ht
    obtain ⟨c, hcdef⟩ : ∃ c, c = (l.drop p.toNat).getD i 0 := ⟨_, rfl⟩
    rw [← hcdef] at ht
    have hc256 := c.toNat_lt
    refine J.skip ?_
    refine J.seq (J.block ?_)
    refine J.seq (J.region mixed hI (by kernel_rfl) ?_)
    repeat (refine Plan.move rfl rfl rfl rfl ?_)
    refine Plan.indexAddr (fun b : UInt8 => [.int .u8 b.toNat]) 1 (l.drop p.toNat) 0 rfl rfl rfl rfl (Sub.rowEq (bs_flat _) (Sub.refl _)) rfl eltB (fun _ => rfl) (by omega) (by omega) ?_
    rw [Int.toNat_natCast, ← hcdef]
    refine Plan.load rfl rfl rfl rfl (Sub.refl _) Tryz.underlying5 rfl ?_
    repeat (refine Plan.assign rfl rfl rfl rfl ?_)
    -- the switch
    refine J.seqMid (fun _ : Unit => [(0, .old w0 (bytesF l)), (1, .ex (.int .i64 p)), (7, .ex (.int .u64 m)), (8, .ex (.int .i64 i)), (9, .ex (.int .u8 c.toNat)), (20, bytesF (l.drop p.toNat)), (21, .ex (.int .i64 (l.drop p.toNat).length)), (22, .ex (.int .i64 i))])
      (fun _ => ¬ (i = 0 ∧ c = 128) ∧ ¬ 144115188075855872 ≤ m) ?_ ?_
    · refine J.block ?_
      refine J.seq (J.region mixed hI (by kernel_rfl) ?_)
      refine Plan.move rfl rfl rfl rfl ?_
      refine Plan.ints rfl rfl rfl rfl rfl rfl ?_
      refine Plan.boolv (y := decide (i = 0)) (by by_cases h : i = 0 <;> simp [h]) ?_
      have key : ∀ E : Env, Free.look E 0 = some (.old w0 (bytesF l)) → Free.look E 1 = some (.ex (.int .i64 p)) → Free.look E 7 = some (.ex (.int .u64 m)) → Free.look E 8 = some (.ex (.int .i64 i)) → Free.look E 9 = some (.ex (.int .u8 c.toNat)) → Free.look E 20 = some (bytesF (l.drop p.toNat)) → Free.look E 21 = some (.ex (.int .i64 (l.drop p.toNat).length)) → Free.look E 22 = some (.ex (.int .i64 i)) →
          Weak (fun w => Below w0.heap.size w0 w) E [(0, .old w0 (bytesF l)), (1, .ex (.int .i64 p)), (7, .ex (.int .u64 m)), (8, .ex (.int .i64 i)), (9, .ex (.int .u8 c.toNat)), (20, bytesF (l.drop p.toNat)), (21, .ex (.int .i64 (l.drop p.toNat).length)), (22, .ex (.int .i64 i))] :=
        fun E h0 h1 h2 h3 h4 h5 h6 h7 => Weak.cons h0 (Sub.refl _) (Weak.cons h1 (Sub.refl _) (Weak.cons h2 (Sub.refl _) (Weak.cons h3 (Sub.refl _) (Weak.cons h4 (Sub.refl _) (Weak.cons h5 (Sub.refl _) (Weak.cons h6 (Sub.refl _) (Weak.cons h7 (Sub.refl _) Weak.nil)))))))
      by_cases hform : i = 0 ∧ c = 128
      · have hv : vTake l p = (0, 0, 3) := by unfold vTake; rw [if_neg hnn, ht, if_pos hform]; rfl
        refine Plan.boolv (y := true) (by simp [hform.1]) ?_
        repeat (first | refine Plan.move rfl rfl rfl rfl ?_ | refine Plan.assign rfl rfl rfl rfl ?_ | refine Plan.pick rfl rfl rfl rfl rfl ?_ | refine Plan.ints rfl rfl rfl rfl rfl rfl ?_)
        refine Plan.boolv (y := true) (by rw [hform.2]; rfl) ?_
        repeat (fail)
        refine J.cond rfl (fun _ => ?_) (fun h => by cases h)
        refine J.seq (J.region mixed hI (by kernel_rfl) ?_)
        repeat (refine Plan.assign rfl rfl rfl rfl ?_)
        exact J.ret (Nrm.ret3 rfl (fun _ h => h) fun B _ => ⟨_, rfl, Ress.cons rfl (Sub.of_eq (by rw [hv]; rfl)) (Ress.cons rfl (Sub.of_eq (by rw [hv]; rfl)) (Ress.cons rfl (Sub.of_eq (by rw [hv]; rfl)) Ress.nil))⟩)
      · rw [if_neg hform] at ht
        by_cases hi0 : i = 0
        · have hc128 : ¬ c = 128 := fun h => hform ⟨hi0, h⟩
          have hc128' : ¬ c.toNat = 128 := fun h => hc128 (UInt8.toNat_inj.1 h)
          refine Plan.boolv (y := true) (by simp [hi0]) ?_
          repeat (first | refine Plan.move rfl rfl rfl rfl ?_ | refine Plan.assign rfl rfl rfl rfl ?_ | refine Plan.pick rfl rfl rfl rfl rfl ?_ | refine Plan.ints rfl rfl rfl rfl rfl rfl ?_)
          refine Plan.boolv (y := false) (by simp; omega) ?_
          repeat (fail)
          refine J.cond rfl (fun h => by cases h) (fun _ => ?_)
          refine J.seq (J.region mixed hI (by kernel_rfl) ?_)
          refine Plan.move rfl rfl rfl rfl ?_
          refine Plan.shift rfl rfl rfl rfl rfl rfl ?_
          refine Plan.int (fdivn m 57) ?_
          repeat (first | refine Plan.assign rfl rfl rfl rfl ?_ | refine Plan.ints rfl rfl rfl rfl rfl rfl ?_)
          refine J.cond rfl (fun h4 => ?_) (fun h4 => ?_)
          · have h4' : 144115188075855872 ≤ m := by
              have : ¬ m / 2 ^ 57 = 0 := by intro e; rw [e] at h4; simp at h4
              omega
            have hv : vTake l p = (0, 0, 4) := by unfold vTake; rw [if_neg hnn, ht, if_pos h4']; rfl
            refine J.seq (J.region mixed hI (by kernel_rfl) ?_)
            repeat (refine Plan.assign rfl rfl rfl rfl ?_)
            exact J.ret (Nrm.ret3 rfl (fun _ h => h) fun B _ => ⟨_, rfl, Ress.cons rfl (Sub.of_eq (by rw [hv]; rfl)) (Ress.cons rfl (Sub.of_eq (by rw [hv]; rfl)) (Ress.cons rfl (Sub.of_eq (by rw [hv]; rfl)) Ress.nil))⟩)
          · have h4' : ¬ 144115188075855872 ≤ m := by
              have : m / 2 ^ 57 = 0 := by
                have h5 : ((m / 2 ^ 57 : Nat) : Int) = 0 := by
                  by_cases hz : ((m / 2 ^ 57 : Nat) : Int) = 0
                  · exact hz
                  · exact absurd h4 (by simpa using hz)
                omega
              omega
            refine J.skip ?_
            exact Nrm.mid () ⟨hform, h4'⟩ (key _ rfl rfl rfl rfl rfl rfl rfl rfl)
        · refine Plan.boolv (y := false) (by simp [hi0]) ?_
          repeat (first | refine Plan.move rfl rfl rfl rfl ?_ | refine Plan.assign rfl rfl rfl rfl ?_ | refine Plan.skip rfl rfl ?_ | refine Plan.pick rfl rfl rfl rfl rfl ?_)
          refine J.cond rfl (fun h => by cases h) (fun _ => ?_)
          refine J.seq (J.region mixed hI (by kernel_rfl) ?_)
          refine Plan.move rfl rfl rfl rfl ?_
          refine Plan.shift rfl rfl rfl rfl rfl rfl ?_
          refine Plan.int (fdivn m 57) ?_
          repeat (first | refine Plan.assign rfl rfl rfl rfl ?_ | refine Plan.ints rfl rfl rfl rfl rfl rfl ?_)
          refine J.cond rfl (fun h4 => ?_) (fun h4 => ?_)
          · have h4' : 144115188075855872 ≤ m := by
              have : ¬ m / 2 ^ 57 = 0 := by intro e; rw [e] at h4; simp at h4
              omega
            have hv : vTake l p = (0, 0, 4) := by unfold vTake; rw [if_neg hnn, ht, if_pos h4']; rfl
            refine J.seq (J.region mixed hI (by kernel_rfl) ?_)
            repeat (refine Plan.assign rfl rfl rfl rfl ?_)
            exact J.ret (Nrm.ret3 rfl (fun _ h => h) fun B _ => ⟨_, rfl, Ress.cons rfl (Sub.of_eq (by rw [hv]; rfl)) (Ress.cons rfl (Sub.of_eq (by rw [hv]; rfl)) (Ress.cons rfl (Sub.of_eq (by rw [hv]; rfl)) Ress.nil))⟩)
          · have h4' : ¬ 144115188075855872 ≤ m := by
              have : m / 2 ^ 57 = 0 := by
                have h5 : ((m / 2 ^ 57 : Nat) : Int) = 0 := by
                  by_cases hz : ((m / 2 ^ 57 : Nat) : Int) = 0
                  · exact hz
                  · exact absurd h4 (by simpa using hz)
                omega
              omega
            refine J.skip ?_
            exact Nrm.mid () ⟨hform, h4'⟩ (key _ rfl rfl rfl rfl rfl rfl rfl rfl)
    rintro _ ⟨hform, h4⟩
    rw [if_neg hform, if_neg h4] at ht
    refine J.seq (J.region mixed hI (by kernel_rfl) ?_)
    refine Plan.move rfl rfl rfl rfl ?_
    refine Plan.shift rfl rfl rfl rfl rfl rfl ?_
    refine Plan.int (y := ((m * 128 : Nat) : Int)) (by show IntKind.u64.wrap ((m : Int) * 2 ^ 7) = _; rw [IntKind.wrap_u64]; omega) ?_
    refine Plan.move rfl rfl rfl rfl ?_
    refine Plan.ints rfl rfl rfl rfl rfl rfl ?_
    refine Plan.int (and127n c) ?_
    refine Plan.convInt rfl rfl rfl rfl Tryz.underlying5 Tryz.underlying148 ?_
    refine Plan.int (u64n (by omega)) ?_
    refine Plan.ints rfl rfl rfl rfl rfl rfl ?_
    refine Plan.int (mk_u64 m (c.toNat % 128) (by omega) (by omega)) ?_
    repeat (refine Plan.assign rfl rfl rfl rfl ?_)
    refine J.seq (J.region mixed hI (by kernel_rfl) ?_)
    repeat (first | refine Plan.move rfl rfl rfl rfl ?_ | refine Plan.ints rfl rfl rfl rfl rfl rfl ?_)
    refine J.cond rfl (fun h5 => ?_) (fun h5 => ?_)
    · have h5' : c.toNat < 128 := by have : (c.toNat : Int) < 128 := by simpa using h5
                                     omega
      rw [if_pos h5'] at ht
      have hv : vTake l p = (m * 128 + c.toNat % 128, p.toNat + (i + 1), 0) := by unfold vTake; rw [if_neg hnn, ht]; rfl
      refine J.seq (J.region mixed hI (by kernel_rfl) ?_)
      refine Plan.move rfl rfl rfl rfl ?_
      refine Plan.move rfl rfl rfl rfl ?_
      refine Plan.move rfl rfl rfl rfl ?_
      refine Plan.ints rfl rfl rfl rfl rfl rfl ?_
      refine Plan.int (y := ((p.toNat + i : Nat) : Int)) (by rw [i64r (by omega)]; omega) ?_
      refine Plan.ints rfl rfl rfl rfl rfl rfl ?_
      refine Plan.int (y := ((p.toNat + (i + 1) : Nat) : Int)) (by rw [i64r (by omega)]; omega) ?_
      repeat (refine Plan.assign rfl rfl rfl rfl ?_)
      exact J.ret (Nrm.ret3 rfl (fun _ h => h) fun B _ => ⟨_, rfl, Ress.cons rfl (Sub.of_eq (by rw [hv])) (Ress.cons rfl (Sub.of_eq (by rw [hv])) (Ress.cons rfl (Sub.of_eq (by rw [hv]; rfl)) Ress.nil))⟩)
    · have h5' : ¬ c.toNat < 128 := by have : ¬ (c.toNat : Int) < 128 := by simpa using h5
                                       omega
      rw [if_neg h5'] at ht
      refine J.skip ?_
      refine (J.region mixed hI (by kernel_rfl) ?_)
      refine Plan.ints rfl rfl rfl rfl rfl rfl ?_
      refine Plan.int (y := ((i + 1 : Nat) : Int)) (by rw [i64r (by omega)]; omega) ?_
      repeat (refine Plan.move rfl rfl rfl rfl ?_)
      refine Nrm.weak (tkEnv w0 l p (m * 128 + c.toNat % 128, i + 1)) ?_ fun a w h1 h2 h3 => ⟨(m * 128 + c.toNat % 128, i + 1), ⟨by show i + 1 ≤ _; omega, by show m * 128 + c.toNat % 128 < 2 ^ 64; omega, ht⟩, by show _ - (i + 1) < _ - i; omega, h1, h2, h3⟩
      exact Weak.cons rfl (Sub.refl _) (Weak.cons rfl (Sub.refl _) (Weak.cons rfl (Sub.refl _) (Weak.cons rfl (Sub.refl _) (Weak.cons rfl (Sub.refl _) (Weak.cons rfl (Sub.refl _) Weak.nil)))))
  · have hge : i = (l.drop p.toNat).length := by have : ¬ (i : Int) < (l.drop p.toNat).length := by simpa using hc
                                                 omega
    have hv : vTake l p = (0, 0, 2) := by
      unfold vTake; rw [if_neg hnn, ht, hge, List.drop_length]; rfl
    refine J.exit ?_
    refine J.seq (J.region mixed hI (by kernel_rfl) ?_)
    repeat (refine Plan.assign rfl rfl rfl rfl ?_)
    exact J.ret (Nrm.ret3 rfl (fun _ h => h) fun B _ => ⟨_, rfl, Ress.cons rfl (Sub.of_eq (by rw [hv]; rfl)) (Ress.cons rfl (Sub.of_eq (by rw [hv]; rfl)) (Ress.cons rfl (Sub.of_eq (by rw [hv]; rfl)) Ress.nil))⟩)
end Go.Proofs.YtmljgobenlpnfaaGreat
end

section
namespace Go.Proofs.YtmljgobenlpnfaaGreat
open Go.Free Go.RowKit Go.Proofs
def zig (x : Int) : Nat := if 0 ≤ x then (2 * x).toNat else (2 * (-(x + 1)) + 1).toNat
theorem zig_lt {x : Int} (h : -9223372036854775808 ≤ x ∧ x ≤ 9223372036854775807) : zig x < 2 ^ 64 := by unfold zig; split <;> omega
def zag (u : Nat) : Int := if u % 2 = 0 then (u / 2 : Nat) else -((u / 2 : Nat) : Int) - 1
theorem zag_zig (x : Int) : zag (zig x) = x := by unfold zag zig; split <;> split <;> omega
theorem vlq_PutText (l s : List UInt8) (hl : l.length + s.length ≤ 140737488355300) : Spc Tryz.prog 91 [bytesF l, .ex (str s)] fun B => ownB B (l ++ (num s.length ++ s)) := by
  refine Spc.intro Tryz.func91 rfl (Nat.le_of_ble_eq_true rfl) fun w0 => ?_
  have hI := hIb w0
  have hn := num_le (u := s.length) (by omega)
  refine J.seq (J.region mixed hI (by kernel_rfl) ?_)
  repeat (refine Plan.assign rfl rfl rfl rfl ?_)
  refine J.seq (J.region mixed hI (by kernel_rfl) ?_)
  repeat (first | refine Plan.move rfl rfl rfl rfl ?_ | refine Plan.lenStr rfl rfl rfl rfl Tryz.underlying9 ?_)
  refine Plan.convInt rfl rfl rfl rfl Tryz.underlying3 Tryz.underlying148 ?_
  refine Plan.int (u64n (by omega)) ?_
  refine Plan.call (B := w0.heap.size) rfl rfl rfl (vlq_Put l s.length (by omega) (by omega)) Tryz.func90 rfl rfl (hBb w0) (Opnds.cons rfl (Sub.old fun _ h => h) (Opnds.cons rfl (Sub.refl _) Opnds.nil)) ?_
  repeat (refine Plan.move rfl rfl rfl rfl ?_)
  refine Plan.appendStr rfl rfl rfl rfl (Sub.refl _) rfl Tryz.underlying9 eltB (by intro d hd; cases hd; decide) (hGb w0) (by simp [bs]; omega) ?_
  repeat (refine Plan.assign rfl rfl rfl rfl ?_)
  refine J.ret (Nrm.ret1 rfl (fun _ h => h) rfl fun B hB => Sub.trans (Sub.of_eq ?_) (Sub.ownLower hB))
  rw [← bs_append, List.append_assoc]
theorem p64 : ((2 ^ 64 : Nat) : Int) = 18446744073709551616 := by decide
theorem ofInt_m1 : BitVec.ofInt 64 (-1) = BitVec.allOnes 64 := by decide
theorem ofInt_0 : BitVec.ofInt 64 0 = 0#64 := by decide
theorem zig_go {x : Int} (h : -9223372036854775808 ≤ x ∧ x ≤ 9223372036854775807) :
    IntKind.u64.wrap (IntKind.i64.wrap ((BitVec.ofInt IntKind.i64.bits (IntKind.i64.wrap (x * 2 ^ min (Int.toNat 1) IntKind.i64.bits)) ^^^ BitVec.ofInt IntKind.i64.bits (x.fdiv (2 ^ min (Int.toNat 63) IntKind.i64.bits))).toNat : Int)) = (zig x : Int) := by
  have e1 : IntKind.i64.wrap (x * 2 ^ min (Int.toNat 1) IntKind.i64.bits) = IntKind.i64.wrap (2 * x) := by show IntKind.i64.wrap (x * 2 ^ 1) = _; congr 1; omega
  have hx : x.fdiv (2 ^ min (Int.toNat 63) IntKind.i64.bits) = if 0 ≤ x then 0 else -1 := by
    show x.fdiv (2 ^ 63) = _
    rw [Int.fdiv_eq_ediv_of_nonneg _ (by decide)]
    split <;> omega
  rw [e1, hx]
  clear e1 hx
  have hz := zig_lt h
  have hw : (IntKind.i64.wrap (2 * x)) % 18446744073709551616 = (2 * x) % 18446744073709551616 := by rw [IntKind.wrap_i64]; omega
  by_cases h0 : 0 ≤ x
  · rw [if_pos h0]
    have e2 : (BitVec.ofInt IntKind.i64.bits (IntKind.i64.wrap (2 * x)) ^^^ BitVec.ofInt IntKind.i64.bits 0).toNat = zig x := by
      show (BitVec.ofInt 64 (IntKind.i64.wrap (2 * x)) ^^^ BitVec.ofInt 64 0).toNat = _
      rw [ofInt_0, BitVec.xor_zero, BitVec.toNat_ofInt, p64, hw]
      unfold zig; rw [if_pos h0]; omega
    rw [e2, IntKind.wrap_i64, IntKind.wrap_u64]; omega
  · rw [if_neg h0]
    have e2 : (BitVec.ofInt IntKind.i64.bits (IntKind.i64.wrap (2 * x)) ^^^ BitVec.ofInt IntKind.i64.bits (-1)).toNat = zig x := by
      show (BitVec.ofInt 64 (IntKind.i64.wrap (2 * x)) ^^^ BitVec.ofInt 64 (-1)).toNat = _
      rw [ofInt_m1, BitVec.xor_allOnes, BitVec.toNat_not, BitVec.toNat_ofInt, p64, hw]
      unfold zig; rw [if_neg h0, show (2 ^ 64 - 1 : Nat) = 18446744073709551615 from rfl]; omega
    rw [e2, IntKind.wrap_i64, IntKind.wrap_u64]; omega
theorem vlq_PutInt (l : List UInt8) (x : Int) (h : -9223372036854775808 ≤ x ∧ x ≤ 9223372036854775807) (hl : l.length ≤ 140737488355300) : Spc Tryz.prog 92 [bytesF l, .ex (.int .i64 x)] fun B => ownB B (l ++ num (zig x)) := by
  refine Spc.intro Tryz.func92 rfl (Nat.le_of_ble_eq_true rfl) fun w0 => ?_
  have hI := hIb w0
  refine J.seq (J.region mixed hI (by kernel_rfl) ?_)
  repeat (refine Plan.assign rfl rfl rfl rfl ?_)
  refine J.seq (J.region mixed hI (by kernel_rfl) ?_)
  repeat (first | refine Plan.move rfl rfl rfl rfl ?_ | refine Plan.ints rfl rfl rfl rfl rfl rfl ?_ | refine Plan.shift rfl rfl rfl rfl rfl rfl ?_)
  refine Plan.convInt rfl rfl rfl rfl Tryz.underlying3 Tryz.underlying148 ?_
  refine Plan.int (zig_go h) ?_
  refine Plan.call (B := w0.heap.size) rfl rfl rfl (vlq_Put l (zig x) (zig_lt h) (by omega)) Tryz.func90 rfl rfl (hBb w0) (Opnds.cons rfl (Sub.old fun _ h => h) (Opnds.cons rfl (Sub.refl _) Opnds.nil)) ?_
  repeat (refine Plan.assign rfl rfl rfl rfl ?_)
  exact J.ret (Nrm.ret1 rfl (fun _ h => h) rfl fun B hB => Sub.ownLower hB)
theorem zag_go (u : Nat) (hu : u < 2 ^ 64) :
    IntKind.i64.wrap ((BitVec.ofInt IntKind.i64.bits (IntKind.i64.wrap ((u : Int).fdiv (2 ^ min (Int.toNat 1) IntKind.u64.bits))) ^^^ BitVec.ofInt IntKind.i64.bits (IntKind.i64.wrap (0 - IntKind.i64.wrap (IntKind.u64.wrap ((BitVec.ofInt IntKind.u64.bits (u : Int) &&& BitVec.ofInt IntKind.u64.bits 1).toNat : Int))))).toNat : Int) = zag u := by
  have e1 : (u : Int).fdiv (2 ^ min (Int.toNat 1) IntKind.u64.bits) = ((u / 2 : Nat) : Int) := fdivn u 1
  have e2 : (BitVec.ofInt IntKind.u64.bits (u : Int) &&& BitVec.ofInt IntKind.u64.bits 1).toNat = u % 2 := by
    show (BitVec.ofInt 64 (u : Int) &&& 1#64).toNat = _
    rw [BitVec.toNat_and, ofInt_u64 u hu]
    exact Nat.and_one_is_mod u
  have e0 : u / 2 < 2 ^ 63 := by omega
  rw [e1, e2]
  clear e1 e2
  rw [i64r (x := ((u / 2 : Nat) : Int)) (by omega), u64n (x := u % 2) (by omega), i64r (x := ((u % 2 : Nat) : Int)) (by omega), i64r (x := 0 - ((u % 2 : Nat) : Int)) (by omega)]
  unfold zag
  by_cases h0 : u % 2 = 0
  · rw [if_pos h0, h0]
    have : (BitVec.ofInt IntKind.i64.bits ((u / 2 : Nat) : Int) ^^^ BitVec.ofInt IntKind.i64.bits (0 - ((0 : Nat) : Int))).toNat = u / 2 := by
      show (BitVec.ofInt 64 ((u / 2 : Nat) : Int) ^^^ BitVec.ofInt 64 (0 - 0)).toNat = _
      rw [Int.sub_zero, ofInt_0, BitVec.xor_zero, ofInt_u64 _ (by omega)]
    rw [this, i64r (by omega)]
  · have h1 : u % 2 = 1 := by omega
    rw [if_neg h0, h1]
    have : (BitVec.ofInt IntKind.i64.bits ((u / 2 : Nat) : Int) ^^^ BitVec.ofInt IntKind.i64.bits (0 - ((1 : Nat) : Int))).toNat = 2 ^ 64 - 1 - u / 2 := by
      show (BitVec.ofInt 64 ((u / 2 : Nat) : Int) ^^^ BitVec.ofInt 64 (0 - 1)).toNat = _
      rw [show (0 - 1 : Int) = -1 from rfl, ofInt_m1, BitVec.xor_allOnes, BitVec.toNat_not, ofInt_u64 _ (by omega)]
    rw [this, IntKind.wrap_i64]; omega
theorem vlq_TakeInt (l : List UInt8) (p : Int) (hp : -9223372036854775808 ≤ p ∧ p ≤ 9223372036854775807) (hl : l.length ≤ 9223372036854775807) : Spc Tryz.prog 114 [bytesF l, .ex (.int .i64 p)] fun _ => .tup [.ex (.int .i64 (zag (vTake l p).1)), .ex (.int .i64 (vTake l p).2.1), .ex (.int .i64 (vTake l p).2.2)] := by
  refine Spc.intro Tryz.func114 rfl (Nat.le_of_ble_eq_true rfl) fun w0 => ?_
  have hI := hIb w0
  have hb := (vTake_bd l p).1
  refine J.seq (J.region mixed hI (by kernel_rfl) ?_)
  repeat (refine Plan.assign rfl rfl rfl rfl ?_)
  refine J.seq (J.region mixed hI (by kernel_rfl) ?_)
  repeat (refine Plan.move rfl rfl rfl rfl ?_)
  refine Plan.call (B := 0) (R := fun _ => takeRes l p) rfl rfl rfl (vlq_Take l p hp hl) Tryz.func103 rfl rfl (fun _ _ => Nat.zero_le _) (Opnds.cons rfl (Sub.old fun _ h => h) (Opnds.cons rfl (Sub.refl _) Opnds.nil)) ?_
  repeat (first | refine Plan.move rfl rfl rfl rfl ?_ | refine Plan.assign rfl rfl rfl rfl ?_ | refine Plan.extract rfl rfl rfl rfl rfl ?_)
  refine J.seq (J.region mixed hI (by kernel_rfl) ?_)
  repeat (first | refine Plan.move rfl rfl rfl rfl ?_ | refine Plan.shift rfl rfl rfl rfl rfl rfl ?_)
  refine Plan.convInt rfl rfl rfl rfl Tryz.underlying148 Tryz.underlying3 ?_
  repeat (first | refine Plan.move rfl rfl rfl rfl ?_ | refine Plan.ints rfl rfl rfl rfl rfl rfl ?_)
  refine Plan.convInt rfl rfl rfl rfl Tryz.underlying148 Tryz.underlying3 ?_
  refine Plan.un rfl rfl rfl rfl rfl ?_
  refine Plan.ints rfl rfl rfl rfl rfl rfl ?_
  refine Plan.int (zag_go _ hb) ?_
  repeat (first | refine Plan.move rfl rfl rfl rfl ?_ | refine Plan.assign rfl rfl rfl rfl ?_)
  exact J.ret (Nrm.ret3 rfl (fun _ h => h) fun B _ => ⟨_, rfl, Ress.cons rfl (Sub.refl _) (Ress.cons rfl (Sub.refl _) (Ress.cons rfl (Sub.refl _) Ress.nil))⟩)
end Go.Proofs.YtmljgobenlpnfaaGreat
end

section
namespace Go.Proofs.YtmljgobenlpnfaaGreat
open Go.Free Go.RowKit Go.Proofs
set_option maxHeartbeats 4000000
def numI (x : Int) : List UInt8 := num x.toNat
def txt (s : List UInt8) : List UInt8 := num s.length ++ s
def encNs (e : EvV) : List Int := [e.r, e.n, e.time, e.d 0, e.d 1, e.d 2, e.d 3, e.d 4, e.d 5, e.d 6, e.d 7, e.d 8, e.d 9, e.d 10, e.d 11, e.d 12, e.d 13, e.d 14, e.d 15]
def nums (l : List Int) : List UInt8 := l.flatMap numI
def encB1 (e : EvV) : List UInt8 := nums (encNs e) ++ numI e.kind ++ txt e.key
def encB2 (e : EvV) : List UInt8 := if fieldP e.kind then encB1 e ++ txt e.field else encB1 e
def encB3 (e : EvV) : List UInt8 := if valueP e.kind then encB2 e ++ txt e.value else encB2 e
def encB4 (e : EvV) : List UInt8 := if numP e.kind then encB3 e ++ num (zig e.num) else encB3 e
def encB (e : EvV) : List UInt8 := if refP e.kind then encB4 e ++ numI e.rr ++ numI e.rn else encB4 e
def small (x : Int) : Prop := 0 ≤ x ∧ x < 18446744073709551616
theorem numI_le {x : Int} (h : small x) : (numI x).length ≤ 10 := num_le (by have := h.1; have := h.2; omega)
theorem nums_le : ∀ {l : List Int}, (∀ x ∈ l, small x) → (nums l).length ≤ 10 * l.length
  | [], _ => by simp [nums]
  | x :: l, h => by
    have h1 := numI_le (h x List.mem_cons_self)
    have h2 := nums_le (l := l) fun y hy => h y (List.mem_cons_of_mem _ hy)
    simp only [nums, List.flatMap_cons, List.length_append, List.length_cons] at h2 ⊢
    omega
theorem encNs_small {e : EvV} (h : rightP e) : ∀ x ∈ encNs e, small x := by
  obtain ⟨⟨h1, h2, h3, h4⟩, h5, h6, h7, -⟩ := h
  intro x hx
  have hd : ∀ i, i < 16 → small (e.d i) := fun i hi => by have := h7 i hi; unfold small; omega
  simp only [encNs, List.mem_cons, List.not_mem_nil, or_false] at hx
  rcases hx with rfl | rfl | rfl | rfl | rfl | rfl | rfl | rfl | rfl | rfl | rfl | rfl | rfl | rfl | rfl | rfl | rfl | rfl | rfl
  · unfold small; omega
  · unfold small; omega
  · unfold small; omega
  all_goals exact hd _ (by decide)
theorem nums_snoc {l : List Int} {i : Nat} (h : i < l.length) : nums (l.take (i + 1)) = nums (l.take i) ++ numI (l.getD i 0) := by
  have e : l.take (i + 1) = l.take i ++ [l.getD i 0] := by
    rw [List.take_add_one, List.getElem?_eq_getElem h, List.getD_eq_getElem?_getD, List.getElem?_eq_getElem h]; rfl
  rw [e]
  simp [nums]
structure EncOk (e : EvV) : Prop where
  kind : 1 ≤ e.kind ∧ e.kind ≤ 11
  key : e.key.length ≤ 64
  field : e.field.length ≤ 64
  value : e.value.length ≤ 64
  num : -9223372036854775808 ≤ e.num ∧ e.num ≤ 9223372036854775807
  ref : refP e.kind → small e.rr ∧ small e.rn
theorem enc_okE {e : EvV} (h : rightP e) : EncOk e := by
  obtain ⟨-, -, -, h7, -, ⟨h8, -, h9, h10, h11, h12, h13, -⟩, h14⟩ := h
  refine ⟨h8, h9, h10, h11, by omega, fun _ => ?_⟩
  rcases h14 with ⟨⟨h1, h2, h3, h4⟩, _⟩ | ⟨_, h1, h2⟩
  · unfold small; omega
  · unfold small; omega
theorem txt_le {s : List UInt8} (h : s.length ≤ 64) : (txt s).length ≤ 74 := by
  have := num_le (u := s.length) (by omega)
  unfold txt; rw [List.length_append]; omega
theorem encB1_le {e : EvV} (h : rightP e) : (encB1 e).length ≤ 300 := by
  have h1 := nums_le (encNs_small h)
  have h2 : (encNs e).length = 19 := rfl
  have hk := (enc_okE h).kind
  have h3 := numI_le (x := e.kind) (by unfold small; omega)
  have h4 := txt_le (enc_okE h).key
  unfold encB1; simp only [List.length_append]; omega
theorem encB2_le {e : EvV} (h : rightP e) : (encB2 e).length ≤ 400 := by
  have h1 := encB1_le h
  have h4 := txt_le (enc_okE h).field
  unfold encB2; split <;> (try simp only [List.length_append]) <;> omega
theorem encB3_le {e : EvV} (h : rightP e) : (encB3 e).length ≤ 500 := by
  have h1 := encB2_le h
  have h4 := txt_le (enc_okE h).value
  unfold encB3; split <;> (try simp only [List.length_append]) <;> omega
theorem encB4_le {e : EvV} (h : rightP e) : (encB4 e).length ≤ 600 := by
  have h1 := encB3_le h
  have h4 := num_le (zig_lt (enc_okE h).num)
  unfold encB4; split <;> (try simp only [List.length_append]) <;> omega
theorem encB_le {e : EvV} (h : rightP e) : (encB e).length ≤ 700 := by
  have h1 := encB4_le h
  unfold encB
  by_cases hr : refP e.kind
  · have h2 := numI_le ((enc_okE h).ref hr).1
    have h3 := numI_le ((enc_okE h).ref hr).2
    rw [if_pos hr]; simp only [List.length_append]; omega
  · rw [if_neg hr]; omega
theorem encode_no (e : EvV) (h : e.okV) (hr : ¬ rightP e) : Spc Tryz.prog 64 [.ex (aggE e)] fun B => .tup [ownB B [], .ex (vi 1)] := by
  refine Spc.intro Tryz.func64 rfl (Nat.le_of_ble_eq_true rfl) fun w0 => ?_
  have hI := hIb w0
  have hA := Own.below w0
  have k := right_fn e h
  rw [decide_eq_false hr] at k
  refine J.heap0 1000 (newB w0) ?_
  repeat (refine J.seq (J.region mixed hI (by kernel_rfl) ?_))
  refine Plan.boxC (key := 1000) rfl rfl rfl (by intro _ e; cases e; decide) rfl rfl hA fun β => ?_
  repeat (first | refine Plan.assign rfl rfl rfl rfl ?_ | refine J.seq (J.seq (J.region mixed hI (by kernel_rfl) ?_)))
  refine Plan.loadAggC (key := 1000) (q := 0) (vs := e.enc) rfl rfl rfl rfl rfl rfl obj_whole Tryz.underlying40 rfl (by rw [encE]; kernel_rfl) (by decide) ?_
  refine Plan.call (B := w0.heap.size) rfl rfl rfl (k) Tryz.func24 rfl rfl (hBb w0) (by repeat (first | exact Opnds.nil | refine Opnds.cons rfl (by exact Sub.refl _) ?_)) ?_
  repeat (first | refine Plan.assign rfl rfl rfl rfl ?_ | refine Plan.un rfl rfl rfl rfl rfl ?_ | refine J.seq (J.region mixed hI (by kernel_rfl) ?_) | refine J.condT rfl ?_)
  exact J.ret (Nrm.ret2 rfl (fun _ h => h) fun B hB => ⟨_, rfl, Ress.cons rfl (Sub.nilOwn (fun _ h => Nat.le_trans hB h.size)) (Ress.cons rfl (Sub.refl _) Ress.nil)⟩)
def encEv (w0 : World) (B β : Nat) (e : EvV) (i : Nat) : Env :=
  [(1, .ex (ptr β)), (4, ownB B (nums ((encNs e).take i))), (24, own B 3 1 (is (encNs e))), (25, .ex (vi 19)), (26, .ex (vi i)), (1000, heap (fun b => newB w0 b ∧ b < B) [obj β e.enc])]
def encM (w0 : World) (β γ δ : Nat) (e : EvV) (B1 : Option Addr) (m1 c1 : Nat) (b : List UInt8) : Env :=
  [(1, .ex (ptr β)), (4, ownB w0.heap.size b), (7, .ex (ptr γ)), (8, .ex (ptr δ)), (1000, heap (newB w0) [obj β e.enc, rowC 5 1 B1 m1 c1 (bs (nums (encNs e))), obj γ e.op, obj δ (partsV e.kind)])]
theorem u64in {x : Int} (h : small x) : IntKind.u64.wrap x = (x.toNat : Int) := by
  have h1 := h.1
  have h2 := h.2
  rw [IntKind.wrap_u64]; omega
theorem encode_yes (e : EvV) (h : e.okV) (hr : rightP e) : Spc Tryz.prog 64 [.ex (aggE e)] fun B => .tup [ownB B (encB e), .ex (vi 0)] := by
  refine Spc.intro Tryz.func64 rfl (Nat.le_of_ble_eq_true rfl) fun w0 => ?_
  have hI := hIb w0
  have hA := Own.below w0
  have k := right_fn e h
  rw [decide_eq_true hr] at k
  have hok := enc_okE hr
  have hsm := encNs_small hr
  refine J.heap0 1000 (newB w0) ?_
  refine J.seq (J.region mixed hI (by kernel_rfl) ?_)
  refine Plan.boxC (key := 1000) rfl rfl rfl (by intro _ e; cases e; decide) rfl rfl hA fun β => ?_
  repeat (refine Plan.assign rfl rfl rfl rfl ?_)
  refine J.fresh (key := 1000) rfl hA fun B hBA => ?_
  have hI := hFresh (B := B) (hIb w0)
  repeat (refine J.seq (J.seq (J.region mixed hI (by kernel_rfl) ?_)))
  refine Plan.loadAggC (key := 1000) (q := 0) (vs := e.enc) rfl rfl rfl rfl rfl rfl obj_whole Tryz.underlying40 rfl (by rw [encE]; kernel_rfl) (by decide) ?_
  refine Plan.call (B := 0) rfl rfl rfl (k) Tryz.func24 rfl rfl (fun _ _ => Nat.zero_le _) (by repeat (first | exact Opnds.nil | refine Opnds.cons rfl (by exact Sub.refl _) ?_)) ?_
  repeat (first | refine Plan.assign rfl rfl rfl rfl ?_ | refine Plan.un rfl rfl rfl rfl rfl ?_ | refine Plan.fieldC rfl rfl rfl rfl (by first | exact Tryz.underlying40 | exact Tryz.underlying34) rfl (by kernel_rfl) (by first | exact (rfl : _ = 0) | exact (rfl : _ = 1) | exact (rfl : _ = 2)) ?_ | refine Plan.loadC (key := 1000) (q := 0) rfl rfl rfl rfl rfl rfl (obj_reads1 rfl) (by exact Tryz.underlying3) (by rfl) (by decide) ?_ | refine J.seq (J.region mixed hI (by kernel_rfl) ?_) | refine J.seq (J.seq (J.region mixed hI (by kernel_rfl) ?_)) | refine J.condF rfl ?_ | refine J.skip ?_)
  refine Plan.litTight (B := B) (m := 3) rfl rfl rfl eltI rfl (fun _ h => h.2) rfl (by simp [Value.cells]) (by decide) ?_
  repeat (refine Plan.fieldC rfl rfl rfl rfl (by exact Tryz.underlying40) rfl (by kernel_rfl) (by exact (rfl : _ = 3)) ?_)
  refine Plan.sliceArr (len := 16) (sz := 1) rfl rfl rfl rfl Tryz.underlying36 (by kernel_rfl) ?_
  refine Plan.appendTight (key := 1000) (q := 0) (news := vList e.d) rfl rfl rfl rfl (Sub.refl _) rfl eltI rfl rfl (obj_reads rfl) rfl (by decide) (Nat.le_refl _) (by decide) (by decide) (by simp [vList, Value.oneCell']) (by simp [vList, flat, Value.cells]) ?_
  refine Plan.lenRow (m := 19) rfl rfl rfl rfl Sub.own Tryz.underlying127 (by simp [vList, flat, Value.cells]) (by decide) ?_
  repeat (refine Plan.move rfl rfl rfl rfl ?_)
  refine J.block (J.loop (encEv w0 B β e) (fun i => i ≤ 19) (fun i => 19 - i) 0 (Nat.zero_le _) ?_ ?_)
  · exact Weak.cons rfl (Sub.refl _) (Weak.cons rfl (Sub.nilOwn (fun _ h => h.2)) (Weak.cons rfl (Sub.of_eq rfl) (Weak.cons rfl (Sub.refl _) (Weak.cons rfl (Sub.refl _) (Weak.cons rfl (Sub.refl _) Weak.nil)))))
  intro i hi
  repeat (first | (refine Plan.ints rfl rfl rfl rfl rfl rfl ?_; (skip)) | refine J.seq (J.region mixed hI (by kernel_rfl) ?_))
  refine J.seq (J.condD rfl (fun hlt => ?_) (fun hlt => ?_))
  · have hlt' : i < (encNs e).length := by
      show i < 19
      omega
    have hsi : small ((encNs e).getD i 0) := by
      rw [List.getD_eq_getElem?_getD, List.getElem?_eq_getElem hlt']; exact hsm _ (List.getElem_mem hlt')
    have hsi' := hsi.2
    have hnl := nums_le (l := (encNs e).take i) fun x hx => hsm x (List.mem_of_mem_take hx)
    rw [List.length_take] at hnl
    repeat (refine J.skip ?_)
    refine J.seq (J.block ?_)
    repeat (refine J.seq (J.region mixed hI (by kernel_rfl) ?_))
    refine Plan.indexAddr (fun x => [vi x]) 1 (encNs e) 0 rfl rfl rfl rfl Sub.own rfl eltI (fun _ => rfl) (by omega) (by omega) ?_
    rw [Int.toNat_natCast]
    refine Plan.load rfl rfl rfl rfl (Sub.refl _) Tryz.underlying3 rfl ?_
    repeat (refine Plan.assign rfl rfl rfl rfl ?_)
    refine J.region mixed hI (by kernel_rfl) ?_
    refine Plan.move rfl rfl rfl rfl ?_
    refine Plan.move rfl rfl rfl rfl ?_
    refine Plan.convInt rfl rfl rfl rfl (by exact Tryz.underlying3) (by exact Tryz.underlying148) ?_
    refine Plan.int (u64in hsi) ?_
    refine Plan.call (B := B) rfl rfl rfl (vlq_Put (nums ((encNs e).take i)) ((encNs e).getD i 0).toNat (by omega) (by omega)) Tryz.func90 rfl rfl (fun _ h => h.2) (by repeat (first | exact Opnds.nil | refine Opnds.cons rfl (by first | exact Sub.refl _ | exact Sub.own) ?_)) ?_
    repeat (first | refine Plan.move rfl rfl rfl rfl ?_ | refine Plan.assign rfl rfl rfl rfl ?_ | (refine Plan.ints rfl rfl rfl rfl rfl rfl ?_; (refine Plan.int (i64r (by omega)) ?_)) | refine J.region mixed hI (by kernel_rfl) ?_)
    refine Plan.int (y := ((i + 1 : Nat) : Int)) (by omega) ?_
    repeat (fail)
    refine Nrm.next (i + 1) (by omega) (by omega) ?_
    exact Weak.cons rfl (Sub.refl _) (Weak.cons rfl (Sub.of_eq (by rw [nums_snoc hlt']; rfl)) (Weak.cons rfl (Sub.refl _) (Weak.cons rfl (Sub.refl _) (Weak.cons rfl (Sub.refl _) (Weak.cons rfl (Sub.refl _) Weak.nil)))))
  have hie : i = 19 := by omega
  subst hie
  refine J.exit ?_
  refine J.takeC (t := 4) (key := 1000) rfl (Sub.refl _) rfl hBA fun B1 m1 c1 hm1 => ?_
  refine J.idle (I' := fun w => Below w0.heap.size w0 w) (fun _ h => h.1) ?_
  have hI := hIb w0
  repeat (first | refine Plan.fieldC rfl rfl rfl rfl (by exact Tryz.underlying40) rfl (by kernel_rfl) (by exact (rfl : _ = 19)) ?_ | refine J.seq (J.region mixed hI (by kernel_rfl) ?_))
  refine Plan.loadAggC (key := 1000) (q := 0) (vs := e.op) rfl rfl rfl rfl rfl rfl (obj_reads rfl) Tryz.underlying38 rfl (by kernel_rfl) (by decide) ?_
  refine Plan.allocC (key := 1000) (z := .agg #[vi 0, str [], str [], str [], vi 0, vi 0, vi 0]) rfl rfl rfl (by intro _ e; cases e; decide) (by kernel_rfl) rfl hA fun γ => ?_
  refine Plan.storeC (key := 1000) (q := 2) (off := 0) rfl rfl rfl rfl rfl rfl (by simp [Value.cells, Value.oneCell', EvV.op, str]) (by show _ = some e.op.toArray.size; kernel_rfl) rfl hA rfl (obj_pat (Nat.le_of_ble_eq_true rfl)) ?_
  repeat (first | refine Plan.fieldC rfl rfl rfl rfl (by first | exact Tryz.underlying40 | exact Tryz.underlying38) rfl (by kernel_rfl) (by exact (rfl : _ = 0)) ?_ | refine Plan.loadC (key := 1000) (q := 2) rfl rfl rfl rfl rfl rfl (obj_reads1 rfl) (by exact Tryz.underlying3) (by rfl) (by decide) ?_ | refine J.seq (J.region mixed hI (by kernel_rfl) ?_))
  refine Plan.call (B := w0.heap.size) rfl rfl rfl (uses_fn e.kind) Tryz.func79 rfl rfl (hBb w0) (by repeat (first | exact Opnds.nil | refine Opnds.cons rfl (by exact Sub.refl _) ?_)) ?_
  repeat (first | refine Plan.move rfl rfl rfl rfl ?_ | refine Plan.extract rfl rfl rfl rfl rfl ?_)
  refine Plan.allocC (key := 1000) (z := .agg #[.bool false, .bool false, .bool false, .bool false]) rfl rfl rfl (by intro _ e; cases e; decide) (by kernel_rfl) rfl hA fun δ => ?_
  refine Plan.storeC (key := 1000) (q := 3) (off := 0) rfl rfl rfl rfl rfl rfl (by simp [Value.cells, Value.oneCell', partsV]) (by show _ = some (partsV e.kind).toArray.size; kernel_rfl) rfl hA rfl (obj_pat (Nat.le_of_ble_eq_true rfl)) ?_
  repeat (refine Plan.assign rfl rfl rfl rfl ?_)
  refine J.seeC (t := 4) (key := 1000) (q := 1) (xs := bs (nums (encNs e))) rfl rfl rfl (fun w F hh => row_rowH hh) ?_
  have l0 := nums_le hsm
  have l0' : (encNs e).length = 19 := rfl
  have lk := hok.kind
  have sk : small e.kind := by unfold small; omega
  have l1 := numI_le sk
  have s1 := hok.key
  have s2 := hok.field
  have s3 := hok.value
  have e1 := encB1_le hr
  have e2 := encB2_le hr
  have e3 := encB3_le hr
  have e4 := encB4_le hr
  refine J.seqMid (σ := Unit) (fun _ => encM w0 β γ δ e B1 m1 c1 (encB1 e)) (fun _ => True) ?_ fun _ _ => ?_
  · refine J.region mixed hI (by kernel_rfl) ?_
    repeat (first | refine Plan.move rfl rfl rfl rfl ?_ | (refine Plan.convInt rfl rfl rfl rfl (by exact Tryz.underlying3) (by first | exact Tryz.underlying3 | exact Tryz.underlying148) ?_; (refine Plan.int (u64r (by omega)) ?_)) | refine Plan.fieldC rfl rfl rfl rfl (by first | exact Tryz.underlying40 | exact Tryz.underlying38) rfl (by kernel_rfl) (by exact (rfl : _ = 0)) ?_ | refine Plan.loadC (key := 1000) (q := 2) rfl rfl rfl rfl rfl rfl (obj_reads1 rfl) (by exact Tryz.underlying3) (by rfl) (by decide) ?_)
    refine Plan.int (y := (e.kind.toNat : Int)) (by omega) ?_
    refine Plan.call (B := w0.heap.size) rfl rfl rfl (vlq_Put (nums (encNs e)) e.kind.toNat (by omega) (by omega)) Tryz.func90 rfl rfl (hBb w0) (by repeat (first | exact Opnds.nil | refine Opnds.cons rfl (by exact Sub.refl _) ?_)) ?_
    repeat (first | refine Plan.fieldC rfl rfl rfl rfl (by first | exact Tryz.underlying40 | exact Tryz.underlying38) rfl (by kernel_rfl) (by exact (rfl : _ = 1)) ?_ | refine Plan.loadC (key := 1000) (q := 2) rfl rfl rfl rfl rfl rfl (obj_reads1 rfl) (by first | exact Tryz.underlying3 | exact Tryz.underlying9) (by rfl) (by decide) ?_)
    refine Plan.call (B := w0.heap.size) rfl rfl rfl (vlq_PutText (nums (encNs e) ++ num e.kind.toNat) e.key (by rw [List.length_append]; unfold numI at l1; omega)) Tryz.func91 rfl rfl (hBb w0) (by repeat (first | exact Opnds.nil | refine Opnds.cons rfl (by first | exact Sub.refl _ | exact Sub.own) ?_)) ?_
    repeat (refine Plan.assign rfl rfl rfl rfl ?_)
    exact Nrm.mid () trivial (Weak.cons rfl (Sub.refl _) (Weak.cons rfl (Sub.of_eq (rfl)) (Weak.cons rfl (Sub.refl _) (Weak.cons rfl (Sub.refl _) (Weak.cons rfl (Sub.refl _) Weak.nil)))))
  refine J.seqMid (σ := Unit) (fun _ => encM w0 β γ δ e B1 m1 c1 (encB2 e)) (fun _ => True) ?_ fun _ _ => ?_
  · repeat (first | refine Plan.fieldC rfl rfl rfl rfl (by first | exact Tryz.underlying40 | exact Tryz.underlying135) rfl (by kernel_rfl) (by exact (rfl : _ = 0)) ?_ | refine J.seq (J.region mixed hI (by kernel_rfl) ?_))
    refine Plan.loadC (key := 1000) (q := 3) rfl rfl rfl rfl rfl rfl (obj_reads1 rfl) Tryz.underlying4 rfl (by decide) ?_
    refine J.condD rfl (fun hf => ?_) (fun hf => ?_)
    · have hy : encB2 e = _ := if_pos hf
      repeat (first | refine Plan.move rfl rfl rfl rfl ?_ | refine Plan.fieldC rfl rfl rfl rfl (by first | exact Tryz.underlying40 | exact Tryz.underlying38) rfl (by kernel_rfl) (by exact (rfl : _ = 2)) ?_ | refine Plan.loadC (key := 1000) (q := 2) rfl rfl rfl rfl rfl rfl (obj_reads1 rfl) (by first | exact Tryz.underlying3 | exact Tryz.underlying9) (by rfl) (by decide) ?_ | refine J.region mixed hI (by kernel_rfl) ?_)
      refine Plan.call (B := w0.heap.size) rfl rfl rfl (vlq_PutText (encB1 e) e.field (by omega)) Tryz.func91 rfl rfl (hBb w0) (by repeat (first | exact Opnds.nil | refine Opnds.cons rfl (by first | exact Sub.refl _ | exact Sub.own) ?_)) ?_
      repeat (refine Plan.assign rfl rfl rfl rfl ?_)
      exact Nrm.mid () trivial (Weak.cons rfl (Sub.refl _) (Weak.cons rfl (Sub.of_eq (by rw [hy] <;> rfl)) (Weak.cons rfl (Sub.refl _) (Weak.cons rfl (Sub.refl _) (Weak.cons rfl (Sub.refl _) Weak.nil)))))
    · have hn : encB2 e = _ := if_neg hf
      refine J.skip ?_
      exact Nrm.mid () trivial (Weak.cons rfl (Sub.refl _) (Weak.cons rfl (Sub.of_eq (by rw [hn])) (Weak.cons rfl (Sub.refl _) (Weak.cons rfl (Sub.refl _) (Weak.cons rfl (Sub.refl _) Weak.nil)))))
  refine J.seqMid (σ := Unit) (fun _ => encM w0 β γ δ e B1 m1 c1 (encB3 e)) (fun _ => True) ?_ fun _ _ => ?_
  · repeat (first | refine Plan.fieldC rfl rfl rfl rfl (by first | exact Tryz.underlying40 | exact Tryz.underlying135) rfl (by kernel_rfl) (by exact (rfl : _ = 1)) ?_ | refine J.seq (J.region mixed hI (by kernel_rfl) ?_))
    refine Plan.loadC (key := 1000) (q := 3) rfl rfl rfl rfl rfl rfl (obj_reads1 rfl) Tryz.underlying4 rfl (by decide) ?_
    refine J.condD rfl (fun hf => ?_) (fun hf => ?_)
    · have hy : encB3 e = _ := if_pos hf
      repeat (first | refine Plan.move rfl rfl rfl rfl ?_ | refine Plan.fieldC rfl rfl rfl rfl (by first | exact Tryz.underlying40 | exact Tryz.underlying38) rfl (by kernel_rfl) (by exact (rfl : _ = 3)) ?_ | refine Plan.loadC (key := 1000) (q := 2) rfl rfl rfl rfl rfl rfl (obj_reads1 rfl) (by first | exact Tryz.underlying3 | exact Tryz.underlying9) (by rfl) (by decide) ?_ | refine J.region mixed hI (by kernel_rfl) ?_)
      refine Plan.call (B := w0.heap.size) rfl rfl rfl (vlq_PutText (encB2 e) e.value (by omega)) Tryz.func91 rfl rfl (hBb w0) (by repeat (first | exact Opnds.nil | refine Opnds.cons rfl (by first | exact Sub.refl _ | exact Sub.own) ?_)) ?_
      repeat (refine Plan.assign rfl rfl rfl rfl ?_)
      exact Nrm.mid () trivial (Weak.cons rfl (Sub.refl _) (Weak.cons rfl (Sub.of_eq (by rw [hy] <;> rfl)) (Weak.cons rfl (Sub.refl _) (Weak.cons rfl (Sub.refl _) (Weak.cons rfl (Sub.refl _) Weak.nil)))))
    · have hn : encB3 e = _ := if_neg hf
      refine J.skip ?_
      exact Nrm.mid () trivial (Weak.cons rfl (Sub.refl _) (Weak.cons rfl (Sub.of_eq (by rw [hn])) (Weak.cons rfl (Sub.refl _) (Weak.cons rfl (Sub.refl _) (Weak.cons rfl (Sub.refl _) Weak.nil)))))
  refine J.seqMid (σ := Unit) (fun _ => encM w0 β γ δ e B1 m1 c1 (encB4 e)) (fun _ => True) ?_ fun _ _ => ?_
  · repeat (first | refine Plan.fieldC rfl rfl rfl rfl (by first | exact Tryz.underlying40 | exact Tryz.underlying135) rfl (by kernel_rfl) (by exact (rfl : _ = 2)) ?_ | refine J.seq (J.region mixed hI (by kernel_rfl) ?_))
    refine Plan.loadC (key := 1000) (q := 3) rfl rfl rfl rfl rfl rfl (obj_reads1 rfl) Tryz.underlying4 rfl (by decide) ?_
    refine J.condD rfl (fun hf => ?_) (fun hf => ?_)
    · have hy : encB4 e = _ := if_pos hf
      repeat (first | refine Plan.move rfl rfl rfl rfl ?_ | refine Plan.fieldC rfl rfl rfl rfl (by first | exact Tryz.underlying40 | exact Tryz.underlying38) rfl (by kernel_rfl) (by exact (rfl : _ = 4)) ?_ | refine Plan.loadC (key := 1000) (q := 2) rfl rfl rfl rfl rfl rfl (obj_reads1 rfl) (by exact Tryz.underlying3) (by rfl) (by decide) ?_ | refine J.region mixed hI (by kernel_rfl) ?_)
      refine Plan.call (B := w0.heap.size) rfl rfl rfl (vlq_PutInt (encB3 e) e.num hok.num (by omega)) Tryz.func92 rfl rfl (hBb w0) (by repeat (first | exact Opnds.nil | refine Opnds.cons rfl (by first | exact Sub.refl _ | exact Sub.own) ?_)) ?_
      repeat (refine Plan.assign rfl rfl rfl rfl ?_)
      exact Nrm.mid () trivial (Weak.cons rfl (Sub.refl _) (Weak.cons rfl (Sub.of_eq (by rw [hy] <;> rfl)) (Weak.cons rfl (Sub.refl _) (Weak.cons rfl (Sub.refl _) (Weak.cons rfl (Sub.refl _) Weak.nil)))))
    · have hn : encB4 e = _ := if_neg hf
      refine J.skip ?_
      exact Nrm.mid () trivial (Weak.cons rfl (Sub.refl _) (Weak.cons rfl (Sub.of_eq (by rw [hn])) (Weak.cons rfl (Sub.refl _) (Weak.cons rfl (Sub.refl _) (Weak.cons rfl (Sub.refl _) Weak.nil)))))
  refine J.seqMid (σ := Unit) (fun _ => encM w0 β γ δ e B1 m1 c1 (encB e)) (fun _ => True) ?_ fun _ _ => ?_
  · repeat (first | refine Plan.fieldC rfl rfl rfl rfl (by first | exact Tryz.underlying40 | exact Tryz.underlying135) rfl (by kernel_rfl) (by exact (rfl : _ = 3)) ?_ | refine J.seq (J.region mixed hI (by kernel_rfl) ?_))
    refine Plan.loadC (key := 1000) (q := 3) rfl rfl rfl rfl rfl rfl (obj_reads1 rfl) Tryz.underlying4 rfl (by decide) ?_
    refine J.condD rfl (fun hf => ?_) (fun hf => ?_)
    · have hy : encB e = _ := if_pos hf
      repeat (first | refine Plan.move rfl rfl rfl rfl ?_ | (refine Plan.convInt rfl rfl rfl rfl (by exact Tryz.underlying3) (by first | exact Tryz.underlying3 | exact Tryz.underlying148) ?_; (skip)) | refine Plan.fieldC rfl rfl rfl rfl (by first | exact Tryz.underlying40 | exact Tryz.underlying38 | exact Tryz.underlying34) rfl (by kernel_rfl) (by exact (rfl : _ = 5)) ?_ | refine Plan.loadC (key := 1000) (q := 2) rfl rfl rfl rfl rfl rfl (obj_reads1 rfl) (by exact Tryz.underlying3) (by rfl) (by decide) ?_ | refine J.region mixed hI (by kernel_rfl) ?_)
      have r1 := (hok.ref hf).1
      have r2 := (hok.ref hf).2
      have r1' := r1.2
      have r2' := r2.2
      have r1'' := r1.1
      have r2'' := r2.1
      have l3 := numI_le r1
      refine Plan.int (y := (e.rr.toNat : Int)) (by exact u64in r1) ?_
      refine Plan.call (B := w0.heap.size) rfl rfl rfl (vlq_Put (encB4 e) e.rr.toNat (by omega) (by omega)) Tryz.func90 rfl rfl (hBb w0) (by repeat (first | exact Opnds.nil | refine Opnds.cons rfl (by first | exact Sub.refl _ | exact Sub.own) ?_)) ?_
      repeat (first | (refine Plan.convInt rfl rfl rfl rfl (by exact Tryz.underlying3) (by first | exact Tryz.underlying3 | exact Tryz.underlying148) ?_; (refine Plan.int (u64r (by omega)) ?_)) | refine Plan.fieldC rfl rfl rfl rfl (by first | exact Tryz.underlying40 | exact Tryz.underlying38 | exact Tryz.underlying34) rfl (by kernel_rfl) (by first | exact (rfl : _ = 5) | exact (rfl : _ = 6)) ?_ | refine Plan.loadC (key := 1000) (q := 2) rfl rfl rfl rfl rfl rfl (obj_reads1 rfl) (by exact Tryz.underlying3) (by rfl) (by decide) ?_)
      refine Plan.int (y := (e.rn.toNat : Int)) (by omega) ?_
      refine Plan.call (B := w0.heap.size) rfl rfl rfl (vlq_Put (encB4 e ++ num e.rr.toNat) e.rn.toNat (by omega) (by rw [List.length_append]; unfold numI at l3; omega)) Tryz.func90 rfl rfl (hBb w0) (by repeat (first | exact Opnds.nil | refine Opnds.cons rfl (by first | exact Sub.refl _ | exact Sub.own) ?_)) ?_
      repeat (refine Plan.assign rfl rfl rfl rfl ?_)
      exact Nrm.mid () trivial (Weak.cons rfl (Sub.refl _) (Weak.cons rfl (Sub.of_eq (by rw [hy] <;> rfl)) (Weak.cons rfl (Sub.refl _) (Weak.cons rfl (Sub.refl _) (Weak.cons rfl (Sub.refl _) Weak.nil)))))
    · have hn : encB e = _ := if_neg hf
      refine J.skip ?_
      exact Nrm.mid () trivial (Weak.cons rfl (Sub.refl _) (Weak.cons rfl (Sub.of_eq (by rw [hn])) (Weak.cons rfl (Sub.refl _) (Weak.cons rfl (Sub.refl _) (Weak.cons rfl (Sub.refl _) Weak.nil)))))
  repeat (first | refine Plan.move rfl rfl rfl rfl ?_ | refine Plan.assign rfl rfl rfl rfl ?_ | refine J.seq (J.region mixed hI (by kernel_rfl) ?_))
  exact J.ret (Nrm.ret2 rfl (fun _ h => h) fun B hB => ⟨_, rfl, Ress.cons rfl (Sub.ownLower hB) (Ress.cons rfl (Sub.refl _) Ress.nil)⟩)
end Go.Proofs.YtmljgobenlpnfaaGreat
end

section
namespace Go.Proofs.YtmljgobenlpnfaaGreat
open Go.Free Go.RowKit Go.Proofs
end Go.Proofs.YtmljgobenlpnfaaGreat
end

section
namespace Go.Proofs.YtmljgobenlpnfaaGreat
open Go.Free Go.RowKit Go.Proofs
def vText (l : List UInt8) (p most : Int) : List UInt8 × Nat × Nat :=
  if most < 0 then ([], 0, 1)
  else if (vTake l p).2.2 ≠ 0 then ([], 0, (vTake l p).2.2)
  else if most < (vTake l p).1 then ([], 0, 4)
  else if l.length - (vTake l p).2.1 < (vTake l p).1 then ([], 0, 2)
  else ((l.drop (vTake l p).2.1).take (vTake l p).1, (vTake l p).2.1 + (vTake l p).1, 0)
def textRes (l : List UInt8) (p most : Int) : Fa := .tup [.ex (str (vText l p most).1), .ex (.int .i64 (vText l p most).2.1), .ex (.int .i64 (vText l p most).2.2)]
theorem vlq_TakeText (l : List UInt8) (p most : Int) (hp : -9223372036854775808 ≤ p ∧ p ≤ 9223372036854775807) (hmost : -9223372036854775808 ≤ most ∧ most ≤ 9223372036854775807) (hl : l.length ≤ 9223372036854775807) :
    Spc Tryz.prog 113 [bytesF l, .ex (.int .i64 p), .ex (.int .i64 most)] fun _ => textRes l p most := by
  refine Spc.intro Tryz.func113 rfl (Nat.le_of_ble_eq_true rfl) fun w0 => ?_
  have hI := hIb w0
  obtain ⟨hb1, hb2, hb3, hb4, hb5⟩ := vTake_bd l p
  refine J.seq (J.region mixed hI (by kernel_rfl) ?_)
  repeat (refine Plan.assign rfl rfl rfl rfl ?_)
  refine J.seq (J.seq (J.region mixed hI (by kernel_rfl) ?_))
  repeat (first | refine Plan.move rfl rfl rfl rfl ?_ | refine Plan.ints rfl rfl rfl rfl rfl rfl ?_)
  refine J.cond rfl (fun hc => ?_) (fun hc => ?_)
  · have h0 : most < 0 := of_decide_eq_true hc
    have hv : vText l p most = ([], 0, 1) := by unfold vText; rw [if_pos h0]
    refine J.seq (J.region mixed hI (by kernel_rfl) ?_)
    repeat (refine Plan.assign rfl rfl rfl rfl ?_)
    exact J.ret (Nrm.ret3 rfl (fun _ h => h) fun B _ => ⟨_, rfl, Ress.cons rfl (Sub.of_eq (by rw [hv]; rfl)) (Ress.cons rfl (Sub.of_eq (by rw [hv]; rfl)) (Ress.cons rfl (Sub.of_eq (by rw [hv]; rfl)) Ress.nil))⟩)
  have h0 : ¬ most < 0 := of_decide_eq_false hc
  refine J.skip ?_
  refine J.seq (J.region mixed hI (by kernel_rfl) ?_)
  repeat (refine Plan.move rfl rfl rfl rfl ?_)
  refine Plan.call (B := 0) (R := fun _ => takeRes l p) rfl rfl rfl (vlq_Take l p hp hl) Tryz.func103 rfl rfl (fun _ _ => Nat.zero_le _) (Opnds.cons rfl (Sub.old fun _ h => h) (Opnds.cons rfl (Sub.refl _) Opnds.nil)) ?_
  repeat (first | refine Plan.move rfl rfl rfl rfl ?_ | refine Plan.assign rfl rfl rfl rfl ?_ | refine Plan.extract rfl rfl rfl rfl rfl ?_)
  refine J.seqMid (fun _ : Unit => [(0, .old w0 (bytesF l)), (2, .ex (.int .i64 most)), (9, .ex (.int .u64 (vTake l p).1)), (10, .ex (.int .i64 (vTake l p).2.1))]) (fun _ => (vTake l p).2.2 = 0 ∧ ¬ most < (vTake l p).1 ∧ ¬ l.length - (vTake l p).2.1 < (vTake l p).1) ?_ ?_
  · refine J.block ?_
    refine J.seq (J.region mixed hI (by kernel_rfl) ?_)
    repeat (first | refine Plan.move rfl rfl rfl rfl ?_ | refine Plan.assign rfl rfl rfl rfl ?_ | refine Plan.ints rfl rfl rfl rfl rfl rfl ?_)
    refine J.cond rfl (fun he => ?_) (fun he => ?_)
    · have he' : (vTake l p).2.2 ≠ 0 := by intro e; rw [e] at he; simp at he
      have hv : vText l p most = ([], 0, (vTake l p).2.2) := by unfold vText; rw [if_neg h0, if_pos he']
      refine J.seq (J.region mixed hI (by kernel_rfl) ?_)
      repeat (first | refine Plan.move rfl rfl rfl rfl ?_ | refine Plan.assign rfl rfl rfl rfl ?_)
      exact J.ret (Nrm.ret3 rfl (fun _ h => h) fun B _ => ⟨_, rfl, Ress.cons rfl (Sub.of_eq (by rw [hv]; rfl)) (Ress.cons rfl (Sub.of_eq (by rw [hv]; rfl)) (Ress.cons rfl (Sub.of_eq (by rw [hv])) Ress.nil))⟩)
    have he' : (vTake l p).2.2 = 0 := by
      by_cases hz : (vTake l p).2.2 = 0
      · exact hz
      · exact absurd he (by simp; omega)
    refine J.seq (J.region mixed hI (by kernel_rfl) ?_)
    repeat (refine Plan.move rfl rfl rfl rfl ?_)
    refine Plan.convInt rfl rfl rfl rfl Tryz.underlying3 Tryz.underlying148 ?_
    refine Plan.int (y := most) (by rw [IntKind.wrap_u64]; omega) ?_
    repeat (first | refine Plan.assign rfl rfl rfl rfl ?_ | refine Plan.ints rfl rfl rfl rfl rfl rfl ?_)
    refine J.cond rfl (fun h4 => ?_) (fun h4 => ?_)
    · have h4' : most < (vTake l p).1 := of_decide_eq_true h4
      have hv : vText l p most = ([], 0, 4) := by unfold vText; rw [if_neg h0, if_neg (by omega), if_pos h4']
      refine J.seq (J.region mixed hI (by kernel_rfl) ?_)
      repeat (refine Plan.assign rfl rfl rfl rfl ?_)
      exact J.ret (Nrm.ret3 rfl (fun _ h => h) fun B _ => ⟨_, rfl, Ress.cons rfl (Sub.of_eq (by rw [hv]; rfl)) (Ress.cons rfl (Sub.of_eq (by rw [hv]; rfl)) (Ress.cons rfl (Sub.of_eq (by rw [hv]; rfl)) Ress.nil))⟩)
    have h4' : ¬ most < (vTake l p).1 := of_decide_eq_false h4
    refine J.seq (J.region mixed hI (by kernel_rfl) ?_)
    repeat (refine Plan.move rfl rfl rfl rfl ?_)
    refine Plan.lenRow rfl rfl rfl rfl (Sub.old fun _ h => h) Tryz.underlying56 (m := l.length) (by simp [bs]) (by decide) ?_
    refine Plan.move rfl rfl rfl rfl ?_
    refine Plan.ints rfl rfl rfl rfl rfl rfl ?_
    refine Plan.int (y := ((l.length - (vTake l p).2.1 : Nat) : Int)) (by rw [i64r (by omega)]; omega) ?_
    refine Plan.convInt rfl rfl rfl rfl Tryz.underlying3 Tryz.underlying148 ?_
    refine Plan.int (u64n (by omega)) ?_
    repeat (first | refine Plan.assign rfl rfl rfl rfl ?_ | refine Plan.ints rfl rfl rfl rfl rfl rfl ?_)
    refine J.cond rfl (fun h5 => ?_) (fun h5 => ?_)
    · have h5' : l.length - (vTake l p).2.1 < (vTake l p).1 := by
        have : ((l.length - (vTake l p).2.1 : Nat) : Int) < (vTake l p).1 := of_decide_eq_true h5
        omega
      have hv : vText l p most = ([], 0, 2) := by unfold vText; rw [if_neg h0, if_neg (by omega), if_neg h4', if_pos h5']
      refine J.seq (J.region mixed hI (by kernel_rfl) ?_)
      repeat (refine Plan.assign rfl rfl rfl rfl ?_)
      exact J.ret (Nrm.ret3 rfl (fun _ h => h) fun B _ => ⟨_, rfl, Ress.cons rfl (Sub.of_eq (by rw [hv]; rfl)) (Ress.cons rfl (Sub.of_eq (by rw [hv]; rfl)) (Ress.cons rfl (Sub.of_eq (by rw [hv]; rfl)) Ress.nil))⟩)
    have h5' : ¬ l.length - (vTake l p).2.1 < (vTake l p).1 := by
      have : ¬ ((l.length - (vTake l p).2.1 : Nat) : Int) < (vTake l p).1 := of_decide_eq_false h5
      omega
    refine J.skip ?_
    exact Nrm.mid () ⟨he', h4', h5'⟩ (Weak.cons rfl (Sub.refl _) (Weak.cons rfl (Sub.refl _) (Weak.cons rfl (Sub.refl _) (Weak.cons rfl (Sub.refl _) Weak.nil))))
  rintro _ ⟨he', h4', h5'⟩
  have hv : vText l p most = ((l.drop (vTake l p).2.1).take (vTake l p).1, (vTake l p).2.1 + (vTake l p).1, 0) := by unfold vText; rw [if_neg h0, if_neg (by omega), if_neg h4', if_neg h5']
  refine J.seq (J.region mixed hI (by kernel_rfl) ?_)
  repeat (refine Plan.move rfl rfl rfl rfl ?_)
  refine Plan.convInt rfl rfl rfl rfl Tryz.underlying148 Tryz.underlying3 ?_
  refine Plan.int (i64r (by omega)) ?_
  refine Plan.ints rfl rfl rfl rfl rfl rfl ?_
  refine Plan.int (y := (((vTake l p).2.1 + (vTake l p).1 : Nat) : Int)) (by rw [i64r (by omega)]; omega) ?_
  refine Plan.sliceRow (m := l.length) (a0 := (vTake l p).2.1) (b0 := (vTake l p).2.1 + (vTake l p).1) rfl rfl rfl rfl (Sub.old fun _ h => h) eltB (by simp [bs]) (.inr ⟨_, _, rfl, rfl⟩) (.inr ⟨_, _, rfl, rfl⟩) (by omega) (by omega) ?_
  refine Plan.convBS (p := (l.drop (vTake l p).2.1).take (vTake l p).1) rfl rfl rfl rfl (Sub.of_eq (by
    simp only [bytesF, bs, Nat.mul_one, ← List.map_take, ← List.map_drop]
    rw [List.drop_take, Nat.add_sub_cancel_left])) Tryz.underlying56 Tryz.underlying9 Tryz.underlying5 ?_
  repeat (refine Plan.move rfl rfl rfl rfl ?_)
  refine Plan.convInt rfl rfl rfl rfl Tryz.underlying148 Tryz.underlying3 ?_
  refine Plan.int (i64r (by omega)) ?_
  refine Plan.ints rfl rfl rfl rfl rfl rfl ?_
  refine Plan.int (y := (((vTake l p).2.1 + (vTake l p).1 : Nat) : Int)) (by rw [i64r (by omega)]; omega) ?_
  repeat (refine Plan.assign rfl rfl rfl rfl ?_)
  exact J.ret (Nrm.ret3 rfl (fun _ h => h) fun B _ => ⟨_, rfl, Ress.cons rfl (Sub.of_eq (by rw [hv])) (Ress.cons rfl (Sub.of_eq (by rw [hv])) (Ress.cons rfl (Sub.of_eq (by rw [hv]; rfl)) Ress.nil))⟩)
end Go.Proofs.YtmljgobenlpnfaaGreat
end

section
namespace Go.Proofs.YtmljgobenlpnfaaGreat
open Go.Free Go.RowKit Go.Proofs
set_option maxHeartbeats 4000000
abbrev RS := Nat × Nat
def rNum (l : List UInt8) (s : RS) : Int × RS :=
  if s.2 ≠ 0 then (0, s)
  else if (vTake l s.1).2.2 ≠ 0 then (0, (s.1, (vTake l s.1).2.2))
  else if 4611686018427387904 < (vTake l s.1).1 then (0, (s.1, 3))
  else ((vTake l s.1).1, ((vTake l s.1).2.1, 0))
def rText (l : List UInt8) (s : RS) : List UInt8 × RS := if s.2 ≠ 0 then ([], s) else ((vText l s.1 64).1, ((vText l s.1 64).2.1, (vText l s.1 64).2.2))
def rSig (l : List UInt8) (s : RS) : Int × RS := if s.2 ≠ 0 then (0, s) else (zag (vTake l s.1).1, ((vTake l s.1).2.1, (vTake l s.1).2.2))
def nS (l : List UInt8) : Nat → RS
  | 0 => (0, 0)
  | k + 1 => (rNum l (nS l k)).2
def nV (l : List UInt8) (k : Nat) : Int := (rNum l (nS l k)).1
def kindS (k : Int) (s : RS) : RS := if s.2 = 0 ∧ ¬ kindP k then (s.1, 3) else s
def oK (l : List UInt8) (s : RS) : Int := (rNum l s).1
def oS1 (l : List UInt8) (s : RS) : RS := kindS (oK l s) (rNum l s).2
def oKey (l : List UInt8) (s : RS) : List UInt8 × RS := rText l (oS1 l s)
def oField (l : List UInt8) (s : RS) : List UInt8 × RS := if fieldP (oK l s) then rText l (oKey l s).2 else ([], (oKey l s).2)
def oValue (l : List UInt8) (s : RS) : List UInt8 × RS := if valueP (oK l s) then rText l (oField l s).2 else ([], (oField l s).2)
def oNum (l : List UInt8) (s : RS) : Int × RS := if numP (oK l s) then rSig l (oValue l s).2 else (0, (oValue l s).2)
def oRR (l : List UInt8) (s : RS) : Int × RS := if refP (oK l s) then rNum l (oNum l s).2 else (0, (oNum l s).2)
def oRN (l : List UInt8) (s : RS) : Int × RS := if refP (oK l s) then rNum l (oRR l s).2 else (0, (oRR l s).2)
def decW (l : List UInt8) (s : RS) : EvV := ⟨nV l 0, nV l 1, nV l 2, fun i => nV l (3 + i), oK l s, (oKey l s).1, (oField l s).1, (oValue l s).1, (oNum l s).1, (oRR l s).1, (oRN l s).1⟩
def decV (l : List UInt8) : EvV := decW l (nS l 19)
def decS (l : List UInt8) : RS := (oRN l (nS l 19)).2
def decE (l : List UInt8) : Nat := if (decS l).2 ≠ 0 then (decS l).2 else if (decS l).1 ≠ l.length ∨ ¬ rightP (decV l) then 3 else 0
def decR (l : List UInt8) : EvV := if decE l ≠ 0 then ev0 else decV l
/-! ### Bounds -/
def okS (l : List UInt8) (s : RS) : Prop := s.1 ≤ l.length ∧ s.2 ≤ 4
theorem rNum_ok {l : List UInt8} {s : RS} (h : okS l s) : okS l (rNum l s).2 ∧ 0 ≤ (rNum l s).1 ∧ (rNum l s).1 ≤ 4611686018427387904 := by
  obtain ⟨h1, h2⟩ := h
  have hb := vTake_bd l s.1
  unfold rNum
  split
  · exact ⟨⟨h1, h2⟩, by simp, by simp⟩
  · split
    · exact ⟨⟨h1, hb.2.2.1⟩, by simp, by simp⟩
    · split
      · exact ⟨⟨h1, by simp⟩, by simp, by simp⟩
      · refine ⟨⟨hb.2.1, by simp⟩, ?_, ?_⟩ <;> simp only <;> omega
theorem vText_bd (l : List UInt8) (p : Int) : (vText l p 64).1.length ≤ 64 ∧ (vText l p 64).2.1 ≤ l.length ∧ (vText l p 64).2.2 ≤ 4 := by
  have hb := vTake_bd l p
  unfold vText
  rw [if_neg (by decide)]
  split
  · exact ⟨by simp, by simp, hb.2.2.1⟩
  · split
    · simp
    · split
      · simp
      · refine ⟨?_, ?_, by simp⟩
        · simp only [List.length_take, List.length_drop]; omega
        · simp only; omega
theorem rText_ok {l : List UInt8} {s : RS} (h : okS l s) : okS l (rText l s).2 ∧ (rText l s).1.length ≤ 64 := by
  have hb := vText_bd l s.1
  unfold rText
  split
  · exact ⟨h, by simp⟩
  · exact ⟨⟨hb.2.1, hb.2.2⟩, hb.1⟩
theorem zag_in {u : Nat} (h : u < 2 ^ 64) : in64 (zag u) := by unfold zag in64; split <;> omega
theorem rSig_ok {l : List UInt8} {s : RS} (h : okS l s) : okS l (rSig l s).2 ∧ in64 (rSig l s).1 := by
  have hb := vTake_bd l s.1
  unfold rSig
  split
  · exact ⟨h, by simp [in64]⟩
  · exact ⟨⟨hb.2.1, hb.2.2.1⟩, zag_in hb.1⟩
theorem nS_ok (l : List UInt8) : ∀ k, okS l (nS l k)
  | 0 => by simp [nS, okS]
  | k + 1 => (rNum_ok (nS_ok l k)).1
theorem kindS_ok {l : List UInt8} {s : RS} (k : Int) (h : okS l s) : okS l (kindS k s) := by
  unfold kindS; split
  · exact ⟨h.1, by simp⟩
  · exact h
section
variable {l : List UInt8} {s : RS} (h : okS l s)
include h
theorem oS1_ok : okS l (oS1 l s) := kindS_ok _ (rNum_ok h).1
theorem oKey_ok : okS l (oKey l s).2 ∧ (oKey l s).1.length ≤ 64 := rText_ok (oS1_ok h)
theorem oField_ok : okS l (oField l s).2 ∧ (oField l s).1.length ≤ 64 := by
  unfold oField; split
  · exact rText_ok (oKey_ok h).1
  · exact ⟨(oKey_ok h).1, by simp⟩
theorem oValue_ok : okS l (oValue l s).2 ∧ (oValue l s).1.length ≤ 64 := by
  unfold oValue; split
  · exact rText_ok (oField_ok h).1
  · exact ⟨(oField_ok h).1, by simp⟩
theorem oNum_ok : okS l (oNum l s).2 ∧ in64 (oNum l s).1 := by
  unfold oNum; split
  · exact rSig_ok (oValue_ok h).1
  · exact ⟨(oValue_ok h).1, by simp [in64]⟩
theorem oRR_ok : okS l (oRR l s).2 ∧ in64 (oRR l s).1 := by
  unfold oRR; split
  · have k := rNum_ok (oNum_ok h).1
    exact ⟨k.1, by unfold in64; omega⟩
  · exact ⟨(oNum_ok h).1, by simp [in64]⟩
theorem oRN_ok : okS l (oRN l s).2 ∧ in64 (oRN l s).1 := by
  unfold oRN; split
  · have k := rNum_ok (oRR_ok h).1
    exact ⟨k.1, by unfold in64; omega⟩
  · exact ⟨(oRR_ok h).1, by simp [in64]⟩
end
theorem nV_in (l : List UInt8) (k : Nat) : in64 (nV l k) := by
  have h := (rNum_ok (nS_ok l k)).2
  show in64 (rNum l (nS l k)).1
  unfold in64; omega
theorem decW_ok {l : List UInt8} {s : RS} (h : okS l s) : (decW l s).okV := by
  have hk := (rNum_ok h).2
  have h1 := (oKey_ok h).2
  have h2 := (oField_ok h).2
  have h3 := (oValue_ok h).2
  exact ⟨nV_in l 0, nV_in l 1, nV_in l 2, fun i _ => nV_in l (3 + i), show in64 (rNum l s).1 by unfold in64; omega, show (oKey l s).1.length ≤ 9223372036854775807 by omega, show (oField l s).1.length ≤ 9223372036854775807 by omega, show (oValue l s).1.length ≤ 9223372036854775807 by omega, (oNum_ok h).2, (oRR_ok h).2, (oRN_ok h).2⟩
theorem decV_ok (l : List UInt8) : (decV l).okV := decW_ok (nS_ok l 19)
theorem ev0_ok : ev0.okV := by refine ⟨?_, ?_, ?_, fun i _ => ?_, ?_, ?_, ?_, ?_, ?_, ?_, ?_⟩ <;> simp [ev0, in64]
/-! ### What is read is what stands there -/
theorem vTake_mid (a r : List UInt8) {u : Nat} (hu : u < 2 ^ 64) : vTake (a ++ num u ++ r) (a.length : Nat) = (u, a.length + (num u).length, 0) := by
  unfold vTake
  rw [if_neg (by simp; omega), Int.toNat_natCast, List.append_assoc, List.drop_left, takeL_num _ hu]
  rfl
def At (l a : List UInt8) (s : RS) : Prop := s = (a.length, 0) ∧ ∃ r, l = a ++ r
theorem rNum_mid {l a r : List UInt8} {x : Int} (h0 : 0 ≤ x) (h1 : x ≤ 4611686018427387904) (h : l = a ++ numI x ++ r) : rNum l (a.length, 0) = (x, ((a ++ numI x).length, 0)) := by
  have k := vTake_mid a r (u := x.toNat) (by omega)
  unfold numI at h ⊢
  unfold rNum
  rw [h, k]
  simp only [ne_eq, not_true, if_false]
  rw [if_neg (by omega), List.length_append, Int.toNat_of_nonneg h0]
theorem rText_mid {l a r t : List UInt8} (ht : t.length ≤ 64) (h : l = a ++ txt t ++ r) : rText l (a.length, 0) = (t, ((a ++ txt t).length, 0)) := by
  have k := vTake_mid a (t ++ r) (u := t.length) (by omega)
  rw [List.append_assoc, ← List.append_assoc (num t.length), ← List.append_assoc] at k
  have kv : vText l a.length 64 = (t, (a ++ txt t).length, 0) := by
    unfold vText
    rw [h]
    show (if (64 : Int) < 0 then _ else _) = _
    unfold txt
    rw [if_neg (by decide), k]
    simp only [ne_eq, not_true, if_false, List.length_append]
    rw [if_neg (by omega), if_neg (by omega)]
    congr 1
    · rw [← List.append_assoc, List.append_assoc (a ++ num t.length), ← List.length_append, List.drop_left, List.take_left]
    · rw [Nat.add_assoc]
  unfold rText
  simp only [ne_eq, not_true, if_false, kv]
theorem rSig_mid {l a r : List UInt8} {x : Int} (hx : in64 x) (h : l = a ++ num (zig x) ++ r) : rSig l (a.length, 0) = (x, ((a ++ num (zig x)).length, 0)) := by
  have k := vTake_mid a r (u := zig x) (zig_lt hx)
  unfold rSig
  rw [h, k]
  simp only [ne_eq, not_true, if_false, zag_zig, List.length_append]
theorem nums_mid {l : List UInt8} {ns : List Int} (hs : ∀ x ∈ ns, 0 ≤ x ∧ x ≤ 4611686018427387904) {r : List UInt8} (h : l = nums ns ++ r) : ∀ k, k ≤ ns.length → nS l k = ((nums (ns.take k)).length, 0)
  | 0, _ => by simp [nS, nums]
  | k + 1, hk => by
    have ih := nums_mid hs h k (by omega)
    have hm := hs _ (List.getElem_mem (show k < ns.length by omega))
    have e : nums ns = nums (ns.take k) ++ numI ns[k] ++ nums (ns.drop (k + 1)) := by
      have := nums_snoc (l := ns) (i := k) (by omega)
      rw [List.getD_eq_getElem?_getD, List.getElem?_eq_getElem (by omega), Option.getD_some] at this
      rw [← this]
      simp only [nums]
      rw [← List.flatMap_append, List.take_append_drop]
    show (rNum l (nS l k)).2 = _
    rw [ih, rNum_mid hm.1 hm.2 (r := nums (ns.drop (k + 1)) ++ r) (by rw [h, e]; simp)]
    have := nums_snoc (l := ns) (i := k) (by omega)
    rw [List.getD_eq_getElem?_getD, List.getElem?_eq_getElem (by omega), Option.getD_some] at this
    rw [this]
theorem nums_val {l : List UInt8} {ns : List Int} (hs : ∀ x ∈ ns, 0 ≤ x ∧ x ≤ 4611686018427387904) {r : List UInt8} (h : l = nums ns ++ r) {k : Nat} (hk : k < ns.length) : nV l k = ns.getD k 0 := by
  have ih := nums_mid hs h k (by omega)
  have hm := hs _ (List.getElem_mem hk)
  have sn := nums_snoc (l := ns) (i := k) hk
  have e : nums ns = nums (ns.take k) ++ numI (ns.getD k 0) ++ nums (ns.drop (k + 1)) := by
    rw [← sn]
    simp only [nums]
    rw [← List.flatMap_append, List.take_append_drop]
  rw [List.getD_eq_getElem?_getD, List.getElem?_eq_getElem hk, Option.getD_some] at e ⊢
  show (rNum l (nS l k)).1 = _
  rw [ih, rNum_mid hm.1 hm.2 (r := nums (ns.drop (k + 1)) ++ r) (by rw [h, e]; simp)]
end Go.Proofs.YtmljgobenlpnfaaGreat
end

section
namespace Go.Proofs.YtmljgobenlpnfaaGreat
open Go.Free Go.RowKit Go.Proofs
set_option maxHeartbeats 4000000
theorem encNs_le {e : EvV} (h : rightP e) : ∀ x ∈ encNs e, 0 ≤ x ∧ x ≤ 4611686018427387904 := by
  obtain ⟨⟨h1, h2, h3, h4⟩, h5, h6, h7, -⟩ := h
  intro x hx
  simp only [encNs, List.mem_cons, List.not_mem_nil, or_false] at hx
  have hd : ∀ i, i < 16 → 0 ≤ e.d i ∧ e.d i ≤ 4611686018427387904 := fun i hi => by have := h7 i hi; omega
  rcases hx with rfl | rfl | rfl | rfl | rfl | rfl | rfl | rfl | rfl | rfl | rfl | rfl | rfl | rfl | rfl | rfl | rfl | rfl | rfl
  · omega
  · omega
  · omega
  all_goals exact hd _ (by decide)
theorem ref_le {e : EvV} (h : rightP e) : (0 ≤ e.rr ∧ e.rr ≤ 4611686018427387904) ∧ 0 ≤ e.rn ∧ e.rn ≤ 4611686018427387904 := by
  obtain ⟨-, -, -, -, -, -, h⟩ := h
  rcases h with ⟨⟨h1, h2, h3, h4⟩, _⟩ | ⟨_, h1, h2⟩
  · omega
  · omega
theorem cut4 {e : EvV} {l r : List UInt8} (h : l = encB e ++ r) : ∃ r', l = encB4 e ++ r' := by
  unfold encB at h; split at h
  · exact ⟨_, by rw [h, List.append_assoc, List.append_assoc]⟩
  · exact ⟨_, h⟩
theorem cut3 {e : EvV} {l r : List UInt8} (h : l = encB4 e ++ r) : ∃ r', l = encB3 e ++ r' := by
  unfold encB4 at h; split at h
  · exact ⟨_, by rw [h, List.append_assoc]⟩
  · exact ⟨_, h⟩
theorem cut2 {e : EvV} {l r : List UInt8} (h : l = encB3 e ++ r) : ∃ r', l = encB2 e ++ r' := by
  unfold encB3 at h; split at h
  · exact ⟨_, by rw [h, List.append_assoc]⟩
  · exact ⟨_, h⟩
theorem cut1 {e : EvV} {l r : List UInt8} (h : l = encB2 e ++ r) : ∃ r', l = encB1 e ++ r' := by
  unfold encB2 at h; split at h
  · exact ⟨_, by rw [h, List.append_assoc]⟩
  · exact ⟨_, h⟩
theorem cut0 {e : EvV} {l r : List UInt8} (h : l = encB1 e ++ r) : ∃ r', l = nums (encNs e) ++ numI e.kind ++ r' := ⟨_, by rw [h, encB1, List.append_assoc]⟩
theorem dec_mid {e : EvV} (hr : rightP e) {l r : List UInt8} (h : l = encB e ++ r) : (decV l).enc = e.enc ∧ decS l = ((encB e).length, 0) := by
  have hs := encNs_le hr
  have hok := enc_okE hr
  obtain ⟨r4, h4⟩ := cut4 h
  obtain ⟨r3, h3⟩ := cut3 h4
  obtain ⟨r2, h2⟩ := cut2 h3
  obtain ⟨r1, h1⟩ := cut1 h2
  obtain ⟨r0, h0⟩ := cut0 h1
  have hN : l = nums (encNs e) ++ (numI e.kind ++ r0) := by rw [h0, List.append_assoc]
  have s19 : nS l 19 = ((nums (encNs e)).length, 0) := by
    have := nums_mid hs hN 19 (Nat.le_of_eq rfl)
    rw [this, List.take_of_length_le (show (encNs e).length ≤ 19 from Nat.le_refl 19)]
  have hv : ∀ k, k < 19 → nV l k = (encNs e).getD k 0 := fun k hk => nums_val hs hN hk
  have lk := hok.kind
  have hk := rNum_mid (a := nums (encNs e)) (x := e.kind) (by omega) (by omega) h0
  have eK : oK l (nS l 19) = e.kind := by show (rNum l (nS l 19)).1 = _; rw [s19, hk]
  have e1 : oS1 l (nS l 19) = ((nums (encNs e) ++ numI e.kind).length, 0) := by
    unfold oS1; rw [eK, s19, hk]; unfold kindS
    rw [if_neg (fun hh => hh.2 hok.kind)]
  have eKey : oKey l (nS l 19) = (e.key, ((encB1 e).length, 0)) := by
    unfold oKey; rw [e1, rText_mid (a := nums (encNs e) ++ numI e.kind) (t := e.key) (r := r1) hok.key h1]; rfl
  have eField : oField l (nS l 19) = (e.field, ((encB2 e).length, 0)) := by
    unfold oField; rw [eK, eKey]; unfold encB2 at h2 ⊢
    split at h2
    · rename_i g
      rw [if_pos g, if_pos g]
      exact rText_mid hok.field h2
    · rename_i g
      rw [if_neg g, if_neg g]
      have : e.field = [] := by
        obtain ⟨-, -, -, -, -, ⟨-, -, -, -, -, -, -, hc, -⟩, -⟩ := hr
        exact hc.resolve_left g
      rw [this]
  have eValue : oValue l (nS l 19) = (e.value, ((encB3 e).length, 0)) := by
    unfold oValue; rw [eK, eField]; unfold encB3 at h3 ⊢
    split at h3
    · rename_i g
      rw [if_pos g, if_pos g]
      exact rText_mid hok.value h3
    · rename_i g
      rw [if_neg g, if_neg g]
      have : e.value = [] := by
        obtain ⟨-, -, -, -, -, ⟨-, -, -, -, -, -, -, -, hc, -⟩, -⟩ := hr
        exact hc.resolve_left g
      rw [this]
  have eNum : oNum l (nS l 19) = (e.num, ((encB4 e).length, 0)) := by
    unfold oNum; rw [eK, eValue]; unfold encB4 at h4 ⊢
    split at h4
    · rename_i g
      rw [if_pos g, if_pos g]
      exact rSig_mid hok.num h4
    · rename_i g
      rw [if_neg g, if_neg g]
      have : e.num = 0 := by
        obtain ⟨-, -, -, -, -, ⟨-, -, -, -, -, -, -, -, -, hc, -⟩, -⟩ := hr
        exact hc.resolve_left g
      rw [this]
  have hlr := ref_le hr
  have eRR : oRR l (nS l 19) = (e.rr, ((if refP e.kind then encB4 e ++ numI e.rr else encB4 e).length, 0)) := by
    unfold oRR; rw [eK, eNum]; unfold encB at h
    split at h
    · rename_i g
      rw [if_pos g, if_pos g]
      exact rNum_mid hlr.1.1 hlr.1.2 (r := numI e.rn ++ r) (by rw [h, List.append_assoc])
    · rename_i g
      rw [if_neg g, if_neg g]
      have : e.rr = 0 := by
        obtain ⟨-, -, -, -, -, ⟨-, -, -, -, -, -, -, -, -, -, hc⟩, -⟩ := hr
        exact (hc.resolve_left g).1
      rw [this]
  have eRN : oRN l (nS l 19) = (e.rn, ((encB e).length, 0)) := by
    unfold oRN; rw [eK, eRR]; unfold encB at h ⊢
    split at h
    · rename_i g
      rw [if_pos g, if_pos g, if_pos g]
      exact rNum_mid hlr.2.1 hlr.2.2 h
    · rename_i g
      rw [if_neg g, if_neg g, if_neg g]
      have : e.rn = 0 := by
        obtain ⟨-, -, -, -, -, ⟨-, -, -, -, -, -, -, -, -, -, hc⟩, -⟩ := hr
        exact (hc.resolve_left g).2
      rw [this]
  refine ⟨?_, by unfold decS; rw [eRN]⟩
  unfold decV decW EvV.enc
  simp only [eK, eKey, eField, eValue, eNum, eRR, eRN, hv _ (show 0 < 19 by decide), hv _ (show 1 < 19 by decide), hv _ (show 2 < 19 by decide)]
  simp only [hv (3 + 0) (by decide), hv (3 + 1) (by decide), hv (3 + 2) (by decide), hv (3 + 3) (by decide), hv (3 + 4) (by decide), hv (3 + 5) (by decide), hv (3 + 6) (by decide), hv (3 + 7) (by decide), hv (3 + 8) (by decide), hv (3 + 9) (by decide), hv (3 + 10) (by decide), hv (3 + 11) (by decide), hv (3 + 12) (by decide), hv (3 + 13) (by decide), hv (3 + 14) (by decide), hv (3 + 15) (by decide)]
  rfl
/-! ### The laws -/
theorem rightP_enc {e f : EvV} (h : e.enc = f.enc) : rightP e ↔ rightP f := by
  simp only [EvV.enc, List.cons.injEq, Value.int.injEq, true_and, and_true] at h
  obtain ⟨h1, h2, h3, d0, d1, d2, d3, d4, d5, d6, d7, d8, d9, d10, d11, d12, d13, d14, d15, h4, h5, h6, h7, h8, h9, h10⟩ := h
  have hst : ∀ {a b : List UInt8}, str a = str b → a = b := fun {a b} h => by
    simp only [str, Value.string.injEq, ByteArray.mk.injEq] at h
    simpa using congrArg Array.toList h
  have hd : ∀ i, i < 16 → e.d i = f.d i := by
    intro i hi
    match i, hi with
    | 0, _ => exact d0 | 1, _ => exact d1 | 2, _ => exact d2 | 3, _ => exact d3 | 4, _ => exact d4 | 5, _ => exact d5 | 6, _ => exact d6 | 7, _ => exact d7
    | 8, _ => exact d8 | 9, _ => exact d9 | 10, _ => exact d10 | 11, _ => exact d11 | 12, _ => exact d12 | 13, _ => exact d13 | 14, _ => exact d14 | 15, _ => exact d15
    | _ + 16, h => exact absurd h (by omega)
  have hh : ∀ r n : Int, hasP e.d r n ↔ hasP f.d r n := fun r n => by
    unfold hasP dotP
    constructor
    · rintro ⟨⟨a, b, c, d⟩, g⟩; exact ⟨⟨a, b, c, d⟩, by rw [← hd _ (by omega)]; exact g⟩
    · rintro ⟨⟨a, b, c, d⟩, g⟩; exact ⟨⟨a, b, c, d⟩, by rw [hd _ (by omega)]; exact g⟩
  have hv : rightVP e.d ↔ rightVP f.d := ⟨fun h i hi => by rw [← hd i hi]; exact h i hi, fun h i hi => by rw [hd i hi]; exact h i hi⟩
  unfold rightP canP
  rw [hh, hv, h1, h2, h3, h4, hst h5, hst h6, hst h7, h8, h9, h10]
  constructor
  · rintro ⟨a, b, c, d, g, r⟩; exact ⟨a, b, c, d, by rw [← hd _ (by unfold dotP at a; omega)]; exact g, r⟩
  · rintro ⟨a, b, c, d, g, r⟩; exact ⟨a, b, c, d, by rw [hd _ (by unfold dotP at a; omega)]; exact g, r⟩
theorem dec_back {e : EvV} (hr : rightP e) : decE (encB e) = 0 ∧ (decR (encB e)).enc = e.enc := by
  obtain ⟨h1, h2⟩ := dec_mid hr (l := encB e) (r := []) (by simp)
  have h3 : decE (encB e) = 0 := by
    unfold decE
    rw [h2, if_neg (by simp), if_neg (by
      rintro (h | h)
      · exact h rfl
      · exact h ((rightP_enc h1).2 hr))]
  exact ⟨h3, by unfold decR; rw [if_neg (by simpa using h3), h1]⟩
end Go.Proofs.YtmljgobenlpnfaaGreat
end
