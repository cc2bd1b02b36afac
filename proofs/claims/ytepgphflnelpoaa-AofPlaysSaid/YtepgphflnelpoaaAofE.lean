/-
  Laid together: EvRight, EvCanFn, EvRightFn, FreeTight, VlqPlain, VlqFns, VlqTake, VlqRef, EvEnc.
-/
import Derived.Test.YtepgphflnelpoaaAofD
import Derived.Laws.Cover1

section
set_option linter.unusedSimpArgs false
set_option linter.unusedVariables false
set_option maxRecDepth 20000
namespace Go.Proofs.Ytepgphflnelpoaa
open Go.Free Go.RowKit Go.Proofs
set_option maxHeartbeats 8000000

section
variable {P : Program} {ops : Array Oper} {Q : Exit → Act → World → Prop} {n : Nat} {I : World → Prop} {k i : Nat} {E : Env} {o : Oper} {d : Bool}
theorem _root_.Go.Free.Plan.max3 {ts : Array TypeId} {x y z : Operand} {kd : IntKind} {p q r : Int} (ho : ops[i]? = some o) (hop : o.op = .call { callee := .builtin .max, args := #[x, y, z], argTypes := ts }) (hg : wantB ops E o = some true)
    (hx : opF E x = some (.ex (.int kd p))) (hy : opF E y = some (.ex (.int kd q))) (hz : opF E z = some (.ex (.int kd r)))
    (h : Plan P ops Q n I d k (i + 1) (setE o.dst (.ex (.int kd (max p (max q r)))) E)) : Plan P ops Q n I d (k + 1) i E :=
  Plan.step ho (Step.run ho hg fun a w _ hs => by
    have h1 := hs x (by simp [hop, Op.operands, Call.operands]) _ hx
    have h2 := hs y (by simp [hop, Op.operands, Call.operands]) _ hy
    have h3 := hs z (by simp [hop, Op.operands, Call.operands]) _ hz
    simp only [Fa.den] at h1 h2 h3
    have e : max p (max q r) = (if r > (if q > p then q else p) then r else (if q > p then q else p)) := by
      repeat' split
      all_goals omega
    rw [e] at *
    refine ⟨_, w, ?_, Below.refl _ _, by simp only [Fa.den]; rfl⟩
    simp only [execOp, hop, resolve, invoke, builtin, List.map_toArray, List.map_cons, List.map_nil, h1, h2, h3, Sem.run_bind, Sem.run_pure, Result.andThen_ok, run_max_int3]) h
end
def canP (e : EvV) : Prop := kindP e.kind ∧ e.key ≠ [] ∧ e.key.length ≤ 64 ∧ e.field.length ≤ 64 ∧ e.value.length ≤ 64 ∧ -1099511627776 ≤ e.num ∧ e.num ≤ 1099511627776 ∧
  (fieldP e.kind ∨ e.field = []) ∧ (valueP e.kind ∨ e.value = []) ∧ (numP e.kind ∨ e.num = 0) ∧ (refP e.kind ∨ (e.rr = 0 ∧ e.rn = 0))
instance (e : EvV) : Decidable (canP e) := by unfold canP; infer_instance
def rightP (e : EvV) : Prop := dotP e.r e.n ∧ 0 ≤ e.time ∧ e.time ≤ 1152921504606846975 ∧ rightVP e.d ∧ e.d e.r.toNat = e.n - 1 ∧ canP e ∧ (hasP e.d e.rr e.rn ∨ (e.kind ≠ 10 ∧ e.rr = 0 ∧ e.rn = 0))
instance (e : EvV) : Decidable (rightP e) := by unfold rightP; infer_instance
theorem in64_0 : in64 0 := by unfold in64; omega
theorem formedDot (zs : Array Value) (h : zs.size = 2) : (Value.agg zs).formed Try.prog 42 = true := by
  have hc : Try.prog.cellsOf 42 = 2 := by kernel_rfl
  unfold Value.formed
  rw [Try.underlying42]
  simp only [hc, h]
  rfl
theorem Plan.eqDot {ops : Array Oper} {Q : Exit → Act → World → Prop} {n : Nat} {I : World → Prop} {k i : Nat} {E : Env} {o : Oper} {d : Bool} {x y : Operand} {yt : TypeId} {op : BinOp} {a b a' b' : Int} (r v : Bool) (ho : ops[i]? = some o) (hop : o.op = .binOp op 42 x y yt) (hg : wantB ops E o = some true)
    (hx : opF E x = some (.ex (.agg [vi a, vi b].toArray))) (hy : opF E y = some (.ex (.agg [vi a', vi b'].toArray))) (h1 : in64 a) (h2 : in64 b) (h3 : in64 a') (h4 : in64 b') (hr : r = true ↔ a = a' ∧ b = b') (hv : (op = .eql ∧ v = r) ∨ (op = .neq ∧ v = !r))
    (h : Plan Try.prog ops Q n I d k (i + 1) (setE o.dst (.ex (.bool v)) E)) : Plan Try.prog ops Q n I d (k + 1) i E :=
  Plan.eqAgg (m := 9) (l := [.int .i64, .int .i64]) (xs := [vi a, vi b]) (ys := [vi a', vi b']) (r := r) ho hop hg hx hy (by decide) (by kernel_rfl) (by kernel_rfl) (by kernel_rfl)
    ⟨_, _, rfl, intF h1, _, _, rfl, intF h2, rfl⟩ ⟨_, _, rfl, intF h3, _, _, rfl, intF h4, rfl⟩ formedDot (by rw [hr]; simp) hv h
end Go.Proofs.Ytepgphflnelpoaa
end

section
set_option linter.unusedSimpArgs false
set_option linter.unusedVariables false
set_option maxRecDepth 20000
namespace Go.Proofs.Ytepgphflnelpoaa
open Go.Free Go.RowKit Go.Proofs
set_option maxHeartbeats 8000000

theorem can_fn (e : EvV) (h : e.okV) : Spc Try.prog 90 [.ex (aggO e)] fun _ => .ex (.bool (decide (canP e))) := by
  refine Spc.intro Try.func90 rfl (Nat.le_of_ble_eq_true rfl) fun w0 => ?_
  have hI := hIb w0
  have hA := Own.below w0
  have hrr := h.2.2.2.2.2.2.2.2.2.1
  have hrn := h.2.2.2.2.2.2.2.2.2.2
  refine J.heap0 1000 (newB w0) ?_
  repeat (refine J.seq (J.region mixed hI (by kernel_rfl) ?_))
  refine Plan.boxC (key := 1000) rfl rfl rfl (by intro _ e; cases e; decide) rfl rfl hA fun β => ?_
  repeat (first | refine Plan.assign rfl rfl rfl rfl ?_ | refine Plan.fieldC rfl rfl rfl rfl (by first | exact Try.underlying48 | exact Try.underlying46) rfl (by kernel_rfl) (by exact (rfl : _ = 0)) ?_ | refine Plan.loadC (key := 1000) (q := 0) rfl rfl rfl rfl rfl rfl (obj_reads1 rfl) (by exact Try.underlying3) (by rfl) (by decide) ?_ | refine J.seq (J.region mixed hI (by kernel_rfl) ?_))
  refine Plan.call (B := w0.heap.size) rfl rfl rfl (uses_fn e.kind) Try.func75 rfl rfl (hBb w0) (by repeat (first | exact Opnds.nil | refine Opnds.cons rfl (by exact Sub.refl _) ?_)) ?_
  repeat (first | refine Plan.move rfl rfl rfl rfl ?_ | refine Plan.extract rfl rfl rfl rfl rfl ?_)
  refine Plan.allocC (key := 1000) (z := .agg #[.bool false, .bool false, .bool false, .bool false]) rfl rfl rfl (by intro _ e; cases e; decide) (by kernel_rfl) rfl hA fun γ => ?_
  refine Plan.storeC (key := 1000) (q := 1) (off := 0) rfl rfl rfl rfl rfl rfl (by simp [Value.cells, Value.oneCell', partsV]) (by show _ = some (partsV e.kind).toArray.size; kernel_rfl) rfl hA rfl (obj_pat (Nat.le_of_ble_eq_true rfl)) ?_
  repeat' (first | refine Plan.move rfl rfl rfl rfl ?_ | refine Plan.assign rfl rfl rfl rfl ?_ | refine Plan.skip rfl rfl ?_ | refine Plan.pick rfl rfl rfl rfl rfl ?_ | refine Plan.lenStr rfl rfl rfl rfl Try.underlying9 ?_ | (refine Plan.ints rfl rfl rfl rfl rfl rfl ?_; (skip)) | refine Plan.un rfl rfl rfl rfl rfl ?_ | refine Plan.fieldC rfl rfl rfl rfl (by first | exact Try.underlying48 | exact Try.underlying46 | exact Try.underlying124) rfl (by kernel_rfl) (by first | exact (rfl : _ = 0) | exact (rfl : _ = 1) | exact (rfl : _ = 2) | exact (rfl : _ = 3) | exact (rfl : _ = 4) | exact (rfl : _ = 5)) ?_ | refine Plan.loadC (key := 1000) (q := 0) rfl rfl rfl rfl rfl rfl (obj_reads1 rfl) (by first | exact Try.underlying3 | exact Try.underlying9 | exact Try.underlying4) (by rfl) (by decide) ?_ | refine Plan.loadC (key := 1000) (q := 1) rfl rfl rfl rfl rfl rfl (obj_reads1 rfl) (by first | exact Try.underlying3 | exact Try.underlying4) (by rfl) (by decide) ?_ | refine J.seq (J.region mixed hI (by kernel_rfl) ?_) | refine J.seq (J.seq (J.region mixed hI (by kernel_rfl) ?_)) | refine J.condT rfl ?_ | refine J.skip ?_ | refine Plan.max3 rfl rfl rfl rfl rfl rfl ?_ | refine Plan.loadAggC (key := 1000) (q := 0) (vs := [vi e.rr, vi e.rn]) rfl rfl rfl rfl rfl rfl (obj_reads rfl) Try.underlying42 rfl (by kernel_rfl) (by decide) ?_ | refine Plan.build (cells := #[vi 0, vi 0]) rfl rfl (ps := []) rfl Parts.nil (by kernel_rfl) ?_ | refine Plan.eqDot (decide (e.rr = 0 ∧ e.rn = 0)) (decide (e.rr = 0 ∧ e.rn = 0)) rfl rfl rfl rfl rfl hrr hrn in64_0 in64_0 (by simp) (.inl ⟨rfl, rfl⟩) ?_ | refine Plan.strs rfl rfl rfl rfl rfl rfl ?_ | refine J.condD rfl (fun _ => ?_) (fun _ => ?_) | refine Plan.splitD (fun _ => ?_) (fun _ => ?_) | refine Plan.splitND (fun _ => ?_) (fun _ => ?_) | refine Plan.splitE (fun _ => ?_) (fun _ => ?_))
  all_goals exact J.ret (Nrm.ret1 rfl (fun _ h => h) rfl fun B _ => Sub.of_eq (congrArg (fun b => Fa.ex (.bool b)) (by
    first
    | refine (decide_eq_true ?_).symm
    | refine (decide_eq_false ?_).symm
    | refine decide_eq_decide.2 ?_
    | refine beq_decide ?_
    | refine bne_decide ?_
    all_goals ((try simp only [fieldP, valueP, numP, refP, kindP, addP, dotP, hasP, canP, rightP, IntKind.wrap_i64] at *); first | omega | grind))))
end Go.Proofs.Ytepgphflnelpoaa
end

section
set_option linter.unusedSimpArgs false
set_option linter.unusedVariables false
set_option maxRecDepth 20000
namespace Go.Proofs.Ytepgphflnelpoaa
open Go.Free Go.RowKit Go.Proofs
set_option maxHeartbeats 8000000

theorem dot0 {r n : Int} (h : dotP r n) : 0 ≤ r := h.1
theorem dot16 {r n : Int} (h : dotP r n) : r < ((16 : Nat) : Int) := h.2.1
theorem dotN {r n : Int} (h : dotP r n) : r.toNat < 16 := by have h1 := h.1; have h2 := h.2.1; omega
theorem right_fn (e : EvV) (h : e.okV) : Spc Try.prog 72 [.ex (aggE e)] fun _ => .ex (.bool (decide (rightP e))) := by
  refine Spc.intro Try.func72 rfl (Nat.le_of_ble_eq_true rfl) fun w0 => ?_
  have hI := hIb w0
  have hA := Own.below w0
  have hrr := h.2.2.2.2.2.2.2.2.2.1
  have hrn := h.2.2.2.2.2.2.2.2.2.2
  refine J.heap0 1000 (newB w0) ?_
  have hn64 : -9223372036854775808 ≤ e.n ∧ e.n ≤ 9223372036854775807 := h.2.1
  repeat' (first | refine Plan.move rfl rfl rfl rfl ?_ | refine Plan.assign rfl rfl rfl rfl ?_ | refine Plan.skip rfl rfl ?_ | refine Plan.pick rfl rfl rfl rfl rfl ?_ | (refine Plan.ints rfl rfl rfl rfl rfl rfl ?_; (first | refine Plan.int (i64r (by omega)) ?_ | skip)) | refine Plan.un rfl rfl rfl rfl rfl ?_ | refine Plan.fieldC rfl rfl rfl rfl (by first | exact Try.underlying48 | exact Try.underlying46 | exact Try.underlying42) rfl (by kernel_rfl) (by first | exact (rfl : _ = 0) | exact (rfl : _ = 1) | exact (rfl : _ = 2) | exact (rfl : _ = 3) | exact (rfl : _ = 19) | exact (rfl : _ = 24)) ?_ | refine Plan.loadC (key := 1000) (q := 0) rfl rfl rfl rfl rfl rfl (obj_reads1 rfl) (by exact Try.underlying3) (by rfl) (by decide) ?_ | refine J.seq (J.region mixed hI (by kernel_rfl) ?_) | refine J.seq (J.seq (J.region mixed hI (by kernel_rfl) ?_)) | refine J.condT rfl ?_ | refine J.skip ?_ | refine Plan.call (B := w0.heap.size) rfl rfl rfl (rightV_fn e.d) Try.func89 rfl rfl (hBb w0) (by repeat (first | exact Opnds.nil | refine Opnds.cons rfl (by exact Sub.refl _) ?_)) ?_ | refine Plan.call (B := w0.heap.size) rfl rfl rfl (can_fn e h) Try.func90 rfl rfl (hBb w0) (by repeat (first | exact Opnds.nil | refine Opnds.cons rfl (by exact Sub.refl _) ?_)) ?_ | refine Plan.call (B := w0.heap.size) rfl rfl rfl (has_fn e.d e.rr e.rn) Try.func91 rfl rfl (hBb w0) (by repeat (first | exact Opnds.nil | refine Opnds.cons rfl (by exact Sub.refl _) ?_)) ?_ | refine Plan.indexArr (off := 3 + e.r.toNat) (len := 16) (sz := 1) rfl rfl rfl rfl rfl Try.underlying44 (by kernel_rfl) (by omega) (by omega) (by simp) ?_ | refine Plan.loadC (key := 1000) (q := 0) rfl rfl rfl rfl rfl rfl (obj_reads1 (enc_d e (by omega))) Try.underlying3 rfl (by decide) ?_ | refine Plan.loadAggC (key := 1000) (q := 0) (vs := vList e.d) rfl rfl rfl rfl rfl rfl (obj_reads rfl) Try.underlying44 rfl (by kernel_rfl) (by decide) ?_ | refine Plan.loadAggC (key := 1000) (q := 0) (vs := e.op) rfl rfl rfl rfl rfl rfl (obj_reads rfl) Try.underlying46 rfl (by kernel_rfl) (by decide) ?_ | refine Plan.loadAggC (key := 1000) (q := 0) (vs := [vi e.rr, vi e.rn]) rfl rfl rfl rfl rfl rfl (obj_reads rfl) Try.underlying42 rfl (by kernel_rfl) (by decide) ?_ | refine Plan.build (cells := #[vi 0, vi 0]) rfl rfl (ps := []) rfl Parts.nil (by kernel_rfl) ?_ | refine Plan.eqDot (decide (e.rr = 0 ∧ e.rn = 0)) (decide (e.rr = 0 ∧ e.rn = 0)) rfl rfl rfl rfl rfl hrr hrn in64_0 in64_0 (by simp) (.inl ⟨rfl, rfl⟩) ?_ | refine Plan.boxC (key := 1000) rfl rfl rfl (by intro _ e; cases e; decide) rfl rfl hA fun _ => ?_ | refine J.condD rfl (fun _ => ?_) (fun _ => ?_) | refine J.condND rfl (fun _ => ?_) (fun _ => ?_) | refine Plan.splitD (fun _ => ?_) (fun _ => ?_) | refine Plan.splitND (fun _ => ?_) (fun _ => ?_))
  all_goals exact J.ret (Nrm.ret1 rfl (fun _ h => h) rfl fun B _ => Sub.of_eq (congrArg (fun b => Fa.ex (.bool b)) (by
    first
    | refine (decide_eq_true ?_).symm
    | refine (decide_eq_false ?_).symm
    | refine decide_eq_decide.2 ?_
    | refine beq_decide ?_
    | refine bne_decide ?_
    all_goals ((try simp only [fieldP, valueP, numP, refP, kindP, addP, dotP, hasP, canP, rightP, IntKind.wrap_i64] at *); first | omega | grind))))
end Go.Proofs.Ytepgphflnelpoaa
end

section
set_option linter.unusedSimpArgs false
set_option linter.unusedVariables false
set_option maxRecDepth 20000
namespace Go.Free
open Go.RowKit

def tight (B e sz m : Nat) (cs : List Value) : Fa := .is ⟨fun w v => ownH B e sz cs w v ∧ ∃ g, v = .slice (some ⟨g, 0, none⟩) m m, fun _ _ _ hb h => ⟨ownH_mono hb h.1, h.2⟩⟩
section
variable {P : Program} {ops : Array Oper} {Q : Exit → Act → World → Prop} {n : Nat} {I : World → Prop} {k i : Nat} {E : Env} {o : Oper} {d : Bool} {A : Nat → Prop} {H : List Chunk} {key : Nat}

theorem lit_tight {t e : TypeId} {z : Value} {sz bytes B m : Nat} {ps : List (Nat × Operand)} {vs : List Value} {a : Act} {w : World} (hop : o.op = .buildSlice t m ps.toArray)
    (he : Elt P t e z sz bytes) (hv : litVals E ps 0 = some vs) (hs : ∀ x, x ∈ o.op.operands → ∀ f, opF E x = some f → f.den w (a.eval x)) (hB : B ≤ w.heap.size)
    (hm : vs.length = m) (hsz : ∀ v ∈ vs, v.cells.size = sz) (hlim : m * sz ≤ 16777216) : ∃ v w', (execOp a.eval o).run P w = .ok (.value v) w' ∧ Below w.heap.size w w' ∧ ownH B e sz (flat vs) w' v ∧ ∃ g, v = .slice (some ⟨g, 0, none⟩) m m := by
    obtain ⟨inf, hi, hz, hs1, hby⟩ := he.hi
    have hps := litVals_spec (a := a) (w := w) hv (fun p hp f hf => hs p.2 (by
      simp only [hop, Op.operands, List.mem_toArray, List.mem_map]
      exact ⟨p, hp, rfl⟩) f hf)
    have hpos := he.hs
    obtain ⟨cs0, hcs0⟩ : ∃ cs0 : Array Value, cs0 = (Array.range (m * sz)).map (fun j => (if m * sz = 0 then (#[] : Array Value) else z.cells)[j % (if m * sz = 0 then (#[] : Array Value) else z.cells).size]!) := ⟨_, rfl⟩
    have hsize0 : cs0.size = m * sz := by rw [hcs0]; simp
    obtain ⟨cs', hf, hl⟩ := fill_numbered (sz := sz) vs 0 cs0 hsz (by rw [hsize0, Nat.zero_add, hm]; exact Nat.le_refl _)
    have hl' : cs'.toList = flat vs := by
      rw [hl]
      simp only [Nat.zero_mul, List.take_zero, List.nil_append, Nat.zero_add, hm]
      rw [List.drop_of_length_le (by rw [Array.length_toList, hsize0]; exact Nat.le_refl _), List.append_nil]
    have hsz' : cs'.size = m * sz := by rw [← Array.length_toList, hl', flat_length hsz, hm]
    refine ⟨.slice (some ⟨w.heap.size, 0, none⟩) m m, w.alloc (.cells cs' e), ?_, ((Below.refl _ _).alloc (Nat.le_refl _) _), ?_, _, rfl⟩
    · have hrun : (Instr.buildSlice t m (numbered vs 0).toArray).run P w = .ok (.slice (some ⟨w.heap.size, 0, none⟩) m m) (w.alloc (.cells cs' e)) := by
        unfold Instr.buildSlice
        have hle : ¬ (m * sz > 2 ^ 24) := by omega
        by_cases h0 : m * sz = 0
        · simp only [h0, if_true] at hcs0
          simp [run_underlying he.ht, sizeOf, typeInfo, hi, hs1, h0, newRow]
          rw [hcs0] at hf
          simp at hf
          simp [hf]
        · simp only [h0, if_false] at hcs0
          have hf' := hf
          rw [hcs0] at hf'
          simp [run_underlying he.ht, sizeOf, typeInfo, hi, hs1, hle, h0, newRow, zeroValue, hz]
          rw [hf']
          simp
      have hmap : (ps.toArray.map fun (p : Nat × Operand) => (p.1, a.eval p.2)) = (numbered vs 0).toArray := by rw [← hps]; simp
      simp only [execOp, hop]
      rw [show (ps.toArray.map fun (x : Nat × Operand) => match x with | (i, x) => (i, a.eval x)) = (numbered vs 0).toArray from hmap]
      simp only [Sem.run_bind, hrun, Result.andThen_ok, Sem.run_pure]
    · refine ⟨Nat.le_trans (hB) (by simp), m, ?_⟩
      have := World.ownsRow_lit (base := B) (e := e) (size := sz) w cs' m (hB) (by simp only [maxLen]; have : m ≤ m * sz := Nat.le_mul_of_pos_right _ hpos; omega) hsz'
      rw [hl'] at this
      exact this
theorem Plan.litTight {t e : TypeId} {z : Value} {sz bytes B m : Nat} {ps : List (Nat × Operand)} {vs : List Value} (ho : ops[i]? = some o) (hop : o.op = .buildSlice t m ps.toArray)
    (hg : wantB ops E o = some true) (he : Elt P t e z sz bytes) (hv : litVals E ps 0 = some vs) (hB : ∀ w, I w → B ≤ w.heap.size)
    (hm : vs.length = m) (hsz : ∀ v ∈ vs, v.cells.size = sz) (hlim : m * sz ≤ 16777216)
    (h : Plan P ops Q n I d k (i + 1) (setE o.dst (tight B e sz m (flat vs)) E)) : Plan P ops Q n I d (k + 1) i E :=
  Plan.step ho (Step.run ho hg fun a w hI hs => by
    obtain ⟨v, w', h1, h2, h3⟩ := lit_tight (B := B) (a := a) (w := w) hop he hv hs (hB w hI) hm hsz hlim
    exact ⟨v, w', h1, h2, by simpa only [tight, Fa.den] using h3⟩) h
/-- append(literal, slice...) -/
theorem Plan.appendTight {x y : Operand} {t e : TypeId} {z : Value} {sz bytes B m m2 c2 β off q : Nat} {c : Chunk} {xs news : List Value} {f : Fa} (ho : ops[i]? = some o) (hop : o.op = .call { callee := .builtin .append, args := #[x, y], argTypes := #[t, t] })
    (hg : wantB ops E o = some true) (hx : opF E x = some f) (hfs : Sub I f (tight B e sz m xs)) (hy : opF E y = some (.ex (.slice (some ⟨β, off, none⟩) m2 c2))) (he : Elt P t e z sz bytes)
    (hk : look E key = some (heap A H)) (hqH : H[q]? = some c) (hr : c.reads β off news) (hl : news.length = m2 * sz) (hm2 : 0 < m2) (hmc : m2 ≤ c2) (hcM : c2 ≤ 9223372036854775807) (hkn : n ≤ key)
    (h1 : ∀ u ∈ news, u.oneCell' = true) (hlim : (xs.length + news.length) * bytes ≤ 140737488355328 * sz)
    (h : Plan P ops Q n I d k (i + 1) (setE o.dst (own B e sz (xs ++ news)) E)) : Plan P ops Q n I d (k + 1) i E :=
  Plan.step ho (Step.runK ho hg fun a w hI hs' hK => by
    have e1 := hfs w _ hI (hs' x (by simp [hop, Op.operands, Call.operands]) _ hx)
    have e2 := hs' y (by simp [hop, Op.operands, Call.operands]) _ hy
    simp only [tight, Fa.den] at e1 e2
    obtain ⟨hown, g, hv⟩ := e1
    obtain ⟨φ, hL, _⟩ := hK key hkn _ hk
    have hc := hr w (φ q) (hL.holds q c hqH)
    have hrow : rowH sz news w (.slice (some ⟨β, off, none⟩) m2 c2) := ⟨_, _, _, rfl, hmc, hcM, hl, (fun e => by cases e), fun j u hu => ⟨_, rfl, by rw [add_at]; exact hc j u hu⟩⟩
    rw [hv] at hown
    obtain ⟨v', w', hrun, h2, h3⟩ := run_append_rows (ty := o.type) he hown hrow h1 hlim
    obtain ⟨inf, hi, hz, hsz, hby⟩ := he.hi
    obtain ⟨hB, m', hm'⟩ := hown
    have hlen := hm'.1
    have hmm : m' = m := by
      rcases hm'.2 with ⟨h0, _⟩ | ⟨g', cp, cur, hv', _⟩
      · cases h0
      · simp only [Value.slice.injEq] at hv'; exact hv'.2.1.symm
    subst hmm
    have hpos := he.hs
    have hnm : (m' + m2) * bytes ≤ 140737488355328 := by
      have e3 : (xs.length + news.length) = (m' + m2) * sz := by rw [hlen, hl, Nat.add_mul]
      rw [e3, Nat.mul_assoc, Nat.mul_comm sz bytes, ← Nat.mul_assoc] at hlim
      exact Nat.le_of_mul_le_mul_right hlim hpos
    have h63 : m' + m2 ≤ maxLen := by
      have := he.hb
      have h4 : m' + m2 ≤ (m' + m2) * bytes := Nat.le_mul_of_pos_right _ this
      simp only [maxLen]; omega
    have hg2 := run_append_grow (P := P) w t o.type e inf z he.ht hi hz ⟨g, 0, none⟩ m' m' xs (by rw [hsz]; exact hlen) (hm'.cells (g := g) rfl) ⟨β, off, none⟩ m2 c2 news (by rw [hsz]; exact hl) (fun j u hu => by rw [add_at]; exact hc j u hu) (by omega) (by have := h63; simp only [maxLen] at this; omega) (growslice_fits (by omega) (by rw [hby]; exact hnm))
    have hrun0 := hrun
    rw [hg2] at hrun
    simp only [Result.ok.injEq] at hrun
    obtain ⟨hv1, hw1⟩ := hrun
    refine ⟨v', w', ?_, ⟨h3.os, h3.tape, h3.output, h3.size, fun b hb => ?_⟩, by simpa only [own, Fa.den] using h2⟩
    · simp only [execOp, hop, resolve, invoke, builtin, List.map_toArray, List.map_cons, List.map_nil, Sem.run_bind, Sem.run_pure, Result.andThen_ok, hv, e2, hrun0]
    · rw [← hw1]
      exact (World.grownBy_alloc w.drew _ none).block b (by simpa using hb) (by simp)) h
/-- a[:] of an array in memory -/
theorem Plan.sliceArr {t e : TypeId} {x : Operand} {β o0 len : Nat} {sz : Nat} (ho : ops[i]? = some o) (hop : o.op = .slice t x none none none) (hg : wantB ops E o = some true)
    (hx : opF E x = some (.ex (.pointer (some ⟨β, o0, none⟩)))) (hu : P.underlying t = some (.array len e)) (hi : (P.info? e).map (·.size) = some sz)
    (h : Plan P ops Q n I d k (i + 1) (setE o.dst (.ex (.slice (some ⟨β, o0, none⟩) len len)) E)) : Plan P ops Q n I d (k + 1) i E :=
  Plan.step ho (Step.run ho hg fun a w hI hs' => by
    have e1 := hs' x (by simp [hop, Op.operands]) _ hx
    simp only [Fa.den] at e1
    obtain ⟨inf, hi1, hi2⟩ : ∃ inf, P.info? e = some inf ∧ inf.size = sz := by
      cases hinf : P.info? e with
      | none => rw [hinf] at hi; cases hi
      | some inf => rw [hinf] at hi; exact ⟨inf, rfl, by simpa using hi⟩
    refine ⟨.slice (some ⟨β, o0, none⟩) len len, w, ?_, Below.refl _ _, by simp [Fa.den]⟩
    have hB : (Instr.sliceBounds false len len none none none).run P w = .ok (0, len, len) w := by
      unfold Instr.sliceBounds
      simp
    have hA : (⟨β, o0, none⟩ : Addr).add 0 = ⟨β, o0, none⟩ := by rw [add_at]; simp
    simp [execOp, hop, e1, Instr.sliceAt, run_underlying hu, Instr.sureAddr, hB, sizeOf, typeInfo, hi1, hi2, hA]) h
theorem J.seeC {cd : Code} {t sz q : Nat} {v : Value} {c : Chunk} {xs : List Value} (hv : look E t = some (.ex v)) (hk : look E key = some (heap A H)) (hqH : H[q]? = some c) (hr : ∀ w F, c.holds w F → rowH sz xs w v)
    (h : J P n I cd Q ((t, row sz xs) :: E)) : J P n I cd Q E := fun a w h1 h2 h3 => by
  obtain ⟨φ, hL, _⟩ := h3 key _ hk
  have e1 := h3 t _ hv
  simp only [Fa.den] at e1
  exact h a w h1 h2 (derive_sat h3 (by rw [e1]; exact hr w _ (hL.holds q _ hqH)))
end
end Go.Free
end

section
set_option linter.unusedSimpArgs false
set_option linter.unusedVariables false
set_option maxRecDepth 20000
namespace Go.Proofs.Ytepgphflnelpoaa
open Go.Free Go.RowKit Go.Proofs

def digit (m : Nat) : UInt8 := UInt8.ofNat (128 + m % 128)
def lastD (m : Nat) : UInt8 := UInt8.ofNat (m % 128)
theorem digit_nat (m : Nat) : (digit m).toNat = 128 + m % 128 := by simp [digit]; omega
theorem lastD_nat (m : Nat) : (lastD m).toNat = m % 128 := by simp [lastD]; omega
def numHi (m : Nat) : List UInt8 := if _h : m = 0 then [] else numHi (m / 128) ++ [digit m]
decreasing_by omega
theorem numHi_zero : numHi 0 = [] := by unfold numHi; rfl
theorem numHi_pos {m : Nat} (h : m ≠ 0) : numHi m = numHi (m / 128) ++ [digit m] := by rw [numHi]; simp [h]
def num (u : Nat) : List UInt8 := numHi (u / 128) ++ [lastD u]

/-- How many bits. -/
def bl (n : Nat) : Nat := if n = 0 then 0 else Nat.log2 n + 1
theorem bl_lt (n : Nat) : n < 2 ^ bl n := by
  unfold bl
  by_cases h : n = 0
  · simp [h]
  · simp only [if_neg h]; exact Nat.lt_log2_self
theorem bl_le {n : Nat} (h : n ≠ 0) : 2 ^ (bl n - 1) ≤ n := by
  unfold bl; simp only [if_neg h, Nat.add_sub_cancel]; exact Nat.log2_self_le h
theorem bl_of {n b : Nat} (h1 : n < 2 ^ (b + 1)) (h2 : 2 ^ b ≤ n) : bl n = b + 1 := by
  have h0 : n ≠ 0 := by have := Nat.pow_pos (n := b) (show 0 < 2 by decide); omega
  have e1 := bl_lt n
  have e2 := bl_le h0
  have : bl n - 1 < b + 1 := (Nat.pow_lt_pow_iff_right (by decide)).1 (Nat.lt_of_le_of_lt e2 h1)
  have : b < bl n := (Nat.pow_lt_pow_iff_right (by decide)).1 (Nat.lt_of_le_of_lt h2 e1)
  omega
theorem bl_shift {n k : Nat} (h : 2 ^ k ≤ n) : bl n = bl (n / 2 ^ k) + k := by
  have hpos : 0 < n / 2 ^ k := Nat.div_pos h (Nat.pow_pos (by decide))
  have e1 := bl_lt (n / 2 ^ k)
  have e2 := bl_le (Nat.pos_iff_ne_zero.1 hpos)
  have hb : 1 ≤ bl (n / 2 ^ k) := by unfold bl; rw [if_neg (Nat.pos_iff_ne_zero.1 hpos)]; omega
  obtain ⟨b, hbb⟩ : ∃ b, bl (n / 2 ^ k) = b + 1 := ⟨bl (n / 2 ^ k) - 1, by omega⟩
  rw [hbb] at e1 e2 ⊢
  rw [show b + 1 + k = (b + k) + 1 by omega]
  refine bl_of ?_ ?_
  · have := (Nat.div_lt_iff_lt_mul (Nat.pow_pos (n := k) (show 0 < 2 by decide))).1 e1
    rw [show b + k + 1 = (b + 1) + k by omega, Nat.pow_add]; exact this
  · have := (Nat.le_div_iff_mul_le (Nat.pow_pos (n := k) (show 0 < 2 by decide))).1 e2
    rw [Nat.add_sub_cancel, ← Nat.pow_add] at this; exact this
/-- How many digits stand ahead of the last one. -/
def ahead (u : Nat) : Nat := (max (bl u) 1 - 1) / 7
theorem ahead_lt (u : Nat) : u < 128 ^ (ahead u + 1) := by
  have h := bl_lt u
  have : bl u ≤ 7 * (ahead u + 1) := by unfold ahead; omega
  have h2 : 2 ^ bl u ≤ 2 ^ (7 * (ahead u + 1)) := Nat.pow_le_pow_right (by decide) this
  rw [Nat.pow_mul] at h2
  exact Nat.lt_of_lt_of_le h h2
theorem ahead_le {u : Nat} (h : ahead u ≠ 0) : 128 ^ ahead u ≤ u := by
  have hu : u ≠ 0 := by rintro rfl; simp [ahead, bl] at h
  have h1 := bl_le hu
  have : 7 * ahead u ≤ bl u - 1 := by unfold ahead; omega
  have h2 : 2 ^ (7 * ahead u) ≤ 2 ^ (bl u - 1) := Nat.pow_le_pow_right (by decide) this
  rw [Nat.pow_mul] at h2
  exact Nat.le_trans h2 h1
theorem ahead_of {u k : Nat} (h1 : u < 128 ^ (k + 1)) (h2 : k ≠ 0 → 128 ^ k ≤ u) : ahead u = k := by
  have a1 := ahead_lt u
  rcases Nat.lt_trichotomy (ahead u) k with h | h | h
  · have := h2 (by omega)
    have h3 : 128 ^ (ahead u + 1) ≤ 128 ^ k := Nat.pow_le_pow_right (by decide) (by omega)
    omega
  · exact h
  · have := ahead_le (u := u) (by omega)
    have h3 : 128 ^ (k + 1) ≤ 128 ^ ahead u := Nat.pow_le_pow_right (by decide) (by omega)
    omega
theorem ahead_bd {u : Nat} (h : u < 2 ^ 64) : ahead u ≤ 9 := by
  have : bl u ≤ 64 := by
    by_cases hu : u = 0
    · simp [hu, bl]
    · have h1 := bl_le hu
      have : bl u - 1 < 64 := (Nat.pow_lt_pow_iff_right (by decide)).1 (Nat.lt_of_le_of_lt h1 h)
      omega
  unfold ahead; omega

/-- The digits of the places K down to K - q + 1. -/
def emit (u K q : Nat) : List UInt8 := (List.range q).map fun i => digit (u / 128 ^ (K - i))
theorem emit_succ (u K q : Nat) : emit u K (q + 1) = emit u K q ++ [digit (u / 128 ^ (K - q))] := by simp [emit, List.range_succ]
theorem numHi_emit : ∀ (K m : Nat), m < 128 ^ K → (K ≠ 0 → 128 ^ (K - 1) ≤ m) → numHi m = (List.range K).map fun i => digit (m / 128 ^ (K - 1 - i))
  | 0, m, h, _ => by
    obtain rfl : m = 0 := by simpa using h
    rw [numHi_zero]; rfl
  | K + 1, m, h, h2 => by
    have h2' := h2 (by omega)
    simp only [Nat.add_sub_cancel] at h2'
    have hm : m ≠ 0 := by have := Nat.pow_pos (n := K) (show 0 < 128 by decide); omega
    rw [numHi_pos hm]
    have ih := numHi_emit K (m / 128) (by rw [Nat.div_lt_iff_lt_mul (by decide), ← Nat.pow_succ]; exact h) (fun hK => by
      rw [Nat.le_div_iff_mul_le (by decide), ← Nat.pow_succ]; show 128 ^ (K - 1 + 1) ≤ m; rw [show K - 1 + 1 = K by omega]; exact h2')
    rw [ih, List.range_succ, List.map_append]
    congr 1
    · refine List.map_congr_left fun i hi => ?_
      have hi' : i < K := List.mem_range.1 hi
      rw [Nat.div_div_eq_div_mul, ← Nat.pow_succ']
      congr 3; omega
    · simp
theorem num_emit (u : Nat) : num u = emit u (ahead u) (ahead u) ++ [lastD u] := by
  unfold num
  congr 1
  have h1 := ahead_lt u
  rw [numHi_emit (ahead u) (u / 128) (by rw [Nat.div_lt_iff_lt_mul (by decide), ← Nat.pow_succ]; exact h1) (fun h => by
    rw [Nat.le_div_iff_mul_le (by decide), ← Nat.pow_succ]; show 128 ^ (ahead u - 1 + 1) ≤ u; rw [show ahead u - 1 + 1 = ahead u by omega]; exact ahead_le h)]
  unfold emit
  refine List.map_congr_left fun i hi => ?_
  have hi' : i < ahead u := List.mem_range.1 hi
  rw [Nat.div_div_eq_div_mul, ← Nat.pow_succ']
  congr 3; omega
theorem num_length (u : Nat) : (num u).length = ahead u + 1 := by rw [num_emit]; simp [emit]
theorem num_le {u : Nat} (h : u < 2 ^ 64) : (num u).length ≤ 10 := by rw [num_length]; have := ahead_bd h; omega
theorem num_pos (u : Nat) : 0 < (num u).length := by rw [num_length]; omega

/-! ### Taking -/
def takeL : Nat → Nat → List UInt8 → Nat × Nat × Nat
  | _, _, [] => (0, 0, 2)
  | n, i, c :: r =>
    if i = 0 ∧ c = 128 then (0, 0, 3)
    else if 144115188075855872 ≤ n then (0, 0, 4)
    else if c.toNat < 128 then (n * 128 + c.toNat % 128, i + 1, 0) else takeL (n * 128 + c.toNat % 128) (i + 1) r
/-- What is taken at a place: the number, the place behind it, the error. -/
def vTake (l : List UInt8) (at_ : Int) : Nat × Nat × Nat :=
  if at_ < 0 ∨ (l.length : Int) < at_ then (0, 0, 1)
  else if (takeL 0 0 (l.drop at_.toNat)).2.2 = 0 then ((takeL 0 0 (l.drop at_.toNat)).1, at_.toNat + (takeL 0 0 (l.drop at_.toNat)).2.1, 0) else (0, 0, (takeL 0 0 (l.drop at_.toNat)).2.2)

theorem takeL_bd : ∀ (l : List UInt8) (n i : Nat), n < 2 ^ 64 → (takeL n i l).1 < 2 ^ 64 ∧ (takeL n i l).2.1 ≤ i + l.length ∧ ((takeL n i l).2.2 = 0 → i < (takeL n i l).2.1) ∧ (takeL n i l).2.2 ≤ 4 ∧ ((takeL n i l).2.2 ≠ 0 → (takeL n i l).1 = 0 ∧ (takeL n i l).2.1 = 0)
  | [], n, i, _ => by simp [takeL]
  | c :: r, n, i, h => by
    unfold takeL
    by_cases h1 : i = 0 ∧ c = 128
    · simp [h1]
    · rw [if_neg h1]
      by_cases h2 : 144115188075855872 ≤ n
      · rw [if_pos h2]; simp
      · rw [if_neg h2]
        have hlt : n * 128 + c.toNat % 128 < 2 ^ 64 := by omega
        by_cases h3 : c.toNat < 128
        · rw [if_pos h3]; simp only [List.length_cons]
          refine ⟨hlt, by omega, fun _ => by omega, by omega, fun hh => absurd rfl hh⟩
        · rw [if_neg h3]
          obtain ⟨e1, e2, e3, e4, e5⟩ := takeL_bd r (n * 128 + c.toNat % 128) (i + 1) hlt
          simp only [List.length_cons]
          exact ⟨e1, by omega, fun h => by have := e3 h; omega, e4, e5⟩
theorem vTake_bd (l : List UInt8) (at_ : Int) : (vTake l at_).1 < 2 ^ 64 ∧ (vTake l at_).2.1 ≤ l.length ∧ (vTake l at_).2.2 ≤ 4 ∧ ((vTake l at_).2.2 = 0 → 0 ≤ at_ ∧ at_ < (vTake l at_).2.1) ∧ ((vTake l at_).2.2 ≠ 0 → (vTake l at_).1 = 0 ∧ (vTake l at_).2.1 = 0) := by
  unfold vTake
  split
  · simp
  · rename_i h
    obtain ⟨e1, e2, e3, e4, e5⟩ := takeL_bd (l.drop at_.toNat) 0 0 (by decide)
    rw [List.length_drop] at e2
    split
    · rename_i h0
      have := e3 h0
      refine ⟨e1, by show at_.toNat + _ ≤ _; omega, by simp, fun _ => ?_, fun hh => absurd rfl hh⟩
      show 0 ≤ at_ ∧ at_ < ((at_.toNat + _ : Nat) : Int)
      omega
    · rename_i h0
      exact ⟨by simp, by simp, e4, fun hh => absurd hh h0, fun _ => ⟨rfl, rfl⟩⟩

/-- A number's digits are taken as that number. -/
theorem takeL_hi : ∀ (m : Nat) (r : List UInt8), m < 2 ^ 57 → takeL 0 0 (numHi m ++ r) = takeL m (numHi m).length r := by
  intro m
  induction m using Nat.strongRecOn with
  | _ m ih =>
    intro r hm
    by_cases h0 : m = 0
    · subst h0; rw [numHi_zero]; rfl
    · rw [numHi_pos h0, List.append_assoc, ih (m / 128) (by omega) _ (by omega)]
      simp only [List.singleton_append, List.length_append, List.length_singleton]
      have hd := digit_nat m
      conv => lhs; unfold takeL
      rw [if_neg, if_neg (by omega), if_neg (by omega)]
      · rw [hd]; congr 1; omega
      · rintro ⟨hl, hc⟩
        have hm0 : m / 128 = 0 := by
          by_cases hz : m / 128 = 0
          · exact hz
          · rw [numHi_pos hz] at hl; simp at hl
        have : (digit m).toNat = 128 := by rw [hc]; rfl
        omega
theorem takeL_num (u : Nat) (hu : u < 2 ^ 64) (r : List UInt8) : takeL 0 0 (num u ++ r) = (u, (num u).length, 0) := by
  have hl := lastD_nat u
  unfold num
  rw [List.append_assoc, takeL_hi (u / 128) _ (by omega)]
  simp only [List.singleton_append, List.length_append, List.length_singleton]
  unfold takeL
  rw [if_neg, if_neg (by omega), if_pos (by omega)]
  · rw [hl]; congr 1; omega
  · rintro ⟨_, hc⟩
    have : (lastD u).toNat = 128 := by rw [hc]; rfl
    omega
/-- Cut off it ends too early. -/
theorem takeL_cut (u : Nat) (hu : u < 2 ^ 64) (k : Nat) (hk : k < (num u).length) : takeL 0 0 ((num u).take k) = (0, 0, 2) := by
  have gen : ∀ (l r : List UInt8) (n i : Nat), (takeL n i (l ++ r)).2.2 = 0 → i + l.length < (takeL n i (l ++ r)).2.1 → takeL n i l = (0, 0, 2) := by
    intro l
    induction l with
    | nil => intro r n i _ _; rfl
    | cons c l ih =>
      intro r n i h1 h2
      simp only [List.cons_append, List.length_cons] at h1 h2
      unfold takeL at h1 h2 ⊢
      split at h1
      · simp at h1
      · rename_i g1
        rw [if_neg g1] at h2 ⊢
        split at h1
        · simp at h1
        · rename_i g2
          rw [if_neg g2] at h2 ⊢
          split at h1
          · rename_i g3
            rw [if_pos g3] at h2
            simp at h2
          · rename_i g3
            rw [if_neg g3] at h2 ⊢
            exact ih r _ _ h1 (by omega)
  have h := takeL_num u hu []
  rw [List.append_nil] at h
  have hs : (num u).take k ++ (num u).drop k = num u := List.take_append_drop _ _
  refine gen ((num u).take k) ((num u).drop k) 0 0 ?_ ?_
  · rw [hs, h]
  · rw [hs, h]; show 0 + ((num u).take k).length < (num u).length; rw [List.length_take]; omega
/-- Bytes that are taken as a number are just that number's bytes. -/
theorem takeL_one : ∀ (r : List UInt8) (m i : Nat), i = (numHi m).length → m < 2 ^ 64 → (takeL m i r).2.2 = 0 → numHi m ++ r.take ((takeL m i r).2.1 - i) = num (takeL m i r).1
  | [], m, i, _, _, h => by simp [takeL] at h
  | c :: r, m, i, hi, hm, h => by
    unfold takeL at h ⊢
    split at h
    · simp at h
    · rename_i g1
      rw [if_neg g1]
      split at h
      · simp at h
      · rename_i g2
        rw [if_neg g2]
        have hnz : m * 128 + c.toNat % 128 ≠ 0 ∨ c.toNat < 128 := by
          by_cases hc : c.toNat < 128
          · exact .inr hc
          · left
            intro e
            have hm0 : m = 0 := by omega
            subst hm0
            rw [numHi_zero] at hi
            apply g1
            refine ⟨by simpa using hi, ?_⟩
            apply UInt8.toNat_inj.1
            have := c.toNat_lt
            show c.toNat = 128
            omega
        split at h
        · rename_i g3
          rw [if_pos g3]
          show numHi m ++ (c :: r).take (i + 1 - i) = num (m * 128 + c.toNat % 128)
          rw [show i + 1 - i = 1 by omega]
          simp only [List.take_succ_cons, List.take_zero]
          unfold num
          rw [show (m * 128 + c.toNat % 128) / 128 = m by omega]
          congr 2
          apply UInt8.toNat_inj.1
          rw [lastD_nat]; omega
        · rename_i g3
          rw [if_neg g3]
          have hstep : numHi (m * 128 + c.toNat % 128) = numHi m ++ [c] := by
            rw [numHi_pos (hnz.resolve_right g3), show (m * 128 + c.toNat % 128) / 128 = m by omega]
            congr 2
            apply UInt8.toNat_inj.1
            have := c.toNat_lt
            rw [digit_nat]; omega
          have ih := takeL_one r (m * 128 + c.toNat % 128) (i + 1) (by rw [hstep]; simp [hi]) (by omega) h
          rw [hstep] at ih
          have hlt := (takeL_bd r (m * 128 + c.toNat % 128) (i + 1) (by omega)).2.2.1 h
          rw [← ih, show (takeL (m * 128 + c.toNat % 128) (i + 1) r).2.1 - i = ((takeL (m * 128 + c.toNat % 128) (i + 1) r).2.1 - (i + 1)) + 1 by omega]
          simp
end Go.Proofs.Ytepgphflnelpoaa
end

section
set_option linter.unusedSimpArgs false
set_option linter.unusedVariables false
set_option maxRecDepth 20000
namespace Go.Proofs.Ytepgphflnelpoaa
open Go.Free Go.RowKit Go.Proofs

theorem u64n {x : Nat} (h : x < 2 ^ 64) : IntKind.u64.wrap (x : Int) = x := by rw [IntKind.wrap_u64]; omega
theorem u8n (x : Nat) : IntKind.u8.wrap (x : Int) = ((x % 256 : Nat) : Int) := by rw [IntKind.wrap_u8]; omega
theorem fdivn (x k : Nat) : (x : Int).fdiv (2 ^ k) = ((x / 2 ^ k : Nat) : Int) := by
  rw [Int.fdiv_eq_ediv_of_nonneg _ (by exact Int.le_of_lt (Int.pow_pos (by decide)))]
  simp

def tab8 : List UInt8 := (List.range 256).map fun n => UInt8.ofNat (bl n)
theorem lenEnd {n x u : Nat} (h : bl u = n + bl x) (hx : x < 256) (hn : n ≤ 56) : bl u < 128 := by
  have : bl x ≤ 8 := by
    by_cases h0 : x = 0
    · simp [h0, bl]
    · have h1 := bl_le h0
      have : bl x - 1 < 8 := (Nat.pow_lt_pow_iff_right (a := 2) (by decide)).1 (by omega)
      omega
  omega

def lenEnv (s : Nat × Nat) : Env := [(0, .ex (.int .u64 s.1)), (2, .ex (.int .i64 s.2))]

theorem bits_Len64 (u : Nat) (hu : u < 2 ^ 64) : Spc Try.prog 93 [.ex (.int .u64 u)] fun _ => .ex (.int .i64 (bl u)) := by
  refine Spc.intro Try.func93 rfl (Nat.le_of_ble_eq_true rfl) fun w0 => ?_
  have hI := hIb w0
  refine J.seq (J.region mixed hI (by kernel_rfl) ?_)
  repeat (refine Plan.assign rfl rfl rfl rfl ?_)
  refine J.seqMid lenEnv (fun s => s.1 < 2 ^ 32 ∧ bl u = s.2 + bl s.1 ∧ s.2 ≤ 32) ?_ ?_
  · refine J.seq (J.region mixed hI (by kernel_rfl) ?_)
    repeat (first | refine Plan.move rfl rfl rfl rfl ?_ | refine Plan.ints rfl rfl rfl rfl rfl rfl ?_)
    refine J.cond rfl (fun hc => ?_) (fun hc => ?_)
    · have h : 2 ^ 32 ≤ u := by have : (4294967296 : Int) ≤ u := by simpa using hc
                                omega
      refine J.seq (J.region mixed hI (by kernel_rfl) ?_)
      refine Plan.move rfl rfl rfl rfl ?_
      refine Plan.shift rfl rfl rfl rfl rfl rfl ?_
      refine Plan.int (fdivn u 32) ?_
      repeat (refine Plan.assign rfl rfl rfl rfl ?_)
      refine (J.region mixed hI (by kernel_rfl) ?_)
      repeat (refine Plan.assign rfl rfl rfl rfl ?_)
      exact Nrm.mid (u / 2 ^ 32, 32) ⟨by show u / 2 ^ 32 < _; omega, by show bl u = 32 + bl (u / 2 ^ 32); rw [bl_shift h]; omega, by show 32 ≤ 32; omega⟩ (Weak.cons rfl (Sub.refl _) (Weak.cons rfl (Sub.refl _) Weak.nil))
    · have h : u < 2 ^ 32 := by have : ¬ (4294967296 : Int) ≤ u := by simpa using hc
                                omega
      refine J.skip ?_
      exact Nrm.mid (u, 0) ⟨h, by simp, by show 0 ≤ 32; omega⟩ (Weak.cons rfl (Sub.refl _) (Weak.cons rfl (Sub.refl _) Weak.nil))
  rintro ⟨x, n⟩ ⟨hx, hb, hn⟩
  simp only at hx hb hn
  refine J.seqMid lenEnv (fun s => s.1 < 2 ^ 16 ∧ bl u = s.2 + bl s.1 ∧ s.2 ≤ 48) ?_ ?_
  · refine J.seq (J.region mixed hI (by kernel_rfl) ?_)
    repeat (first | refine Plan.move rfl rfl rfl rfl ?_ | refine Plan.ints rfl rfl rfl rfl rfl rfl ?_)
    refine J.cond rfl (fun hc => ?_) (fun hc => ?_)
    · have h : 2 ^ 16 ≤ x := by have : (65536 : Int) ≤ x := by simpa using hc
                                omega
      refine J.seq (J.region mixed hI (by kernel_rfl) ?_)
      refine Plan.move rfl rfl rfl rfl ?_
      refine Plan.shift rfl rfl rfl rfl rfl rfl ?_
      refine Plan.int (fdivn x 16) ?_
      repeat (refine Plan.assign rfl rfl rfl rfl ?_)
      refine (J.region mixed hI (by kernel_rfl) ?_)
      refine Plan.move rfl rfl rfl rfl ?_
      refine Plan.ints rfl rfl rfl rfl rfl rfl ?_
      refine Plan.int (y := ((n + 16 : Nat) : Int)) (by rw [i64r (by omega)]; omega) ?_
      repeat (refine Plan.assign rfl rfl rfl rfl ?_)
      exact Nrm.mid (x / 2 ^ 16, n + 16) ⟨by show x / 2 ^ 16 < _; omega, by show bl u = n + 16 + bl (x / 2 ^ 16); rw [hb, bl_shift h]; omega, by show n + 16 ≤ 48; omega⟩ (Weak.cons rfl (Sub.refl _) (Weak.cons rfl (Sub.refl _) Weak.nil))
    · have h : x < 2 ^ 16 := by have : ¬ (65536 : Int) ≤ x := by simpa using hc
                                omega
      refine J.skip ?_
      exact Nrm.mid (x, n) ⟨h, hb, by show n ≤ 48; omega⟩ (Weak.cons rfl (Sub.refl _) (Weak.cons rfl (Sub.refl _) Weak.nil))
  clear hx hb hn x n
  rintro ⟨x, n⟩ ⟨hx, hb, hn⟩
  simp only at hx hb hn
  refine J.seqMid lenEnv (fun s => s.1 < 2 ^ 8 ∧ bl u = s.2 + bl s.1 ∧ s.2 ≤ 56) ?_ ?_
  · refine J.seq (J.region mixed hI (by kernel_rfl) ?_)
    repeat (first | refine Plan.move rfl rfl rfl rfl ?_ | refine Plan.ints rfl rfl rfl rfl rfl rfl ?_)
    refine J.cond rfl (fun hc => ?_) (fun hc => ?_)
    · have h : 2 ^ 8 ≤ x := by have : (256 : Int) ≤ x := by simpa using hc
                               omega
      refine J.seq (J.region mixed hI (by kernel_rfl) ?_)
      refine Plan.move rfl rfl rfl rfl ?_
      refine Plan.shift rfl rfl rfl rfl rfl rfl ?_
      refine Plan.int (fdivn x 8) ?_
      repeat (refine Plan.assign rfl rfl rfl rfl ?_)
      refine (J.region mixed hI (by kernel_rfl) ?_)
      refine Plan.move rfl rfl rfl rfl ?_
      refine Plan.ints rfl rfl rfl rfl rfl rfl ?_
      refine Plan.int (y := ((n + 8 : Nat) : Int)) (by rw [i64r (by omega)]; omega) ?_
      repeat (refine Plan.assign rfl rfl rfl rfl ?_)
      exact Nrm.mid (x / 2 ^ 8, n + 8) ⟨by show x / 2 ^ 8 < _; omega, by show bl u = n + 8 + bl (x / 2 ^ 8); rw [hb, bl_shift h]; omega, by show n + 8 ≤ 56; omega⟩ (Weak.cons rfl (Sub.refl _) (Weak.cons rfl (Sub.refl _) Weak.nil))
    · have h : x < 2 ^ 8 := by have : ¬ (256 : Int) ≤ x := by simpa using hc
                               omega
      refine J.skip ?_
      exact Nrm.mid (x, n) ⟨h, hb, by show n ≤ 56; omega⟩ (Weak.cons rfl (Sub.refl _) (Weak.cons rfl (Sub.refl _) Weak.nil))
  clear hx hb hn x n
  rintro ⟨x, n⟩ ⟨hx, hb, hn⟩
  simp only at hx hb hn
  have hlt := lenEnd hb (by omega) hn
  have htab : ∀ x : Fin 256, (tab8.getD x.val 0).toNat = bl x.val := by decide +kernel
  refine J.seq (J.region mixed hI (by kernel_rfl) ?_)
  repeat (refine Plan.move rfl rfl rfl rfl ?_)
  refine Plan.convInt rfl rfl rfl rfl Try.underlying122 Try.underlying5 ?_
  refine Plan.int (y := (x : Int)) (by rw [u8n]; omega) ?_
  refine Plan.index (p := tab8) rfl rfl rfl (by kernel_rfl) rfl Try.underlying9 (by omega) (by show (x : Int) < ((List.length tab8 : Nat) : Int); rw [show List.length tab8 = 256 from by simp [tab8]]; omega) ?_
  refine Plan.int (y := (bl x : Int)) (by rw [Int.toNat_natCast]; exact congrArg _ (htab ⟨x, by omega⟩)) ?_
  refine Plan.convInt rfl rfl rfl rfl Try.underlying5 Try.underlying3 ?_
  refine Plan.int (y := (bl x : Int)) (i64r (by omega)) ?_
  refine Plan.ints rfl rfl rfl rfl rfl rfl ?_
  refine Plan.int (y := (bl u : Int)) (by rw [i64r (by omega)]; omega) ?_
  repeat (refine Plan.assign rfl rfl rfl rfl ?_)
  exact J.ret (Nrm.ret1 rfl (fun _ h => h) rfl fun B _ => Sub.refl _)

theorem vlq_own (l : List UInt8) (hl : l.length ≤ 140737488355308) : Spc Try.prog 92 [bytesF l] fun B => ownB B l := by
  refine Spc.intro Try.func92 rfl (Nat.le_of_ble_eq_true rfl) fun w0 => ?_
  have hI := hIb w0
  refine J.seq (J.region mixed hI (by kernel_rfl) ?_)
  repeat (refine Plan.assign rfl rfl rfl rfl ?_)
  refine J.seq (J.region mixed hI (by kernel_rfl) ?_)
  repeat (refine Plan.move rfl rfl rfl rfl ?_)
  refine Plan.lenRow rfl rfl rfl rfl (Sub.old fun _ h => h) Try.underlying27 (m := l.length) (by simp [bs]) (by decide) ?_
  refine Plan.ints rfl rfl rfl rfl rfl rfl ?_
  refine Plan.int (y := ((l.length + 10 : Nat) : Int)) (by rw [i64r (by omega)]; omega) ?_
  refine Plan.make0 (B := w0.heap.size) rfl rfl rfl rfl rfl eltB (hBb w0) (by omega) ?_
  repeat (refine Plan.move rfl rfl rfl rfl ?_)
  refine Plan.append rfl rfl rfl rfl (Sub.refl _) rfl (Sub.old fun _ h => h) eltB (by intro d hd; cases hd; decide) (hGb w0) (bs_one l) (by simp [bs]; omega) ?_
  repeat (refine Plan.assign rfl rfl rfl rfl ?_)
  exact J.ret (Nrm.ret1 rfl (fun _ h => h) rfl fun B hB => Sub.trans (Sub.of_eq (by simp)) (Sub.ownLower hB))

theorem or128 (x : Nat) : IntKind.u8.wrap ((BitVec.ofInt IntKind.u8.bits (IntKind.u8.wrap (x : Int)) ||| BitVec.ofInt IntKind.u8.bits 128).toNat : Int) = (digit x).toNat := by
  have h : ∀ y : Fin 256, (BitVec.ofInt 8 (y.val : Int) ||| BitVec.ofInt 8 128).toNat = 128 + y.val % 128 := by decide +kernel
  have := h ⟨x % 256, by omega⟩
  simp only at this
  rw [u8n, digit_nat]
  show IntKind.u8.wrap ((BitVec.ofInt 8 ((x % 256 : Nat) : Int) ||| BitVec.ofInt 8 128).toNat : Int) = _
  rw [this, IntKind.wrap_u8]
  omega
theorem and127 (x : Nat) : IntKind.u8.wrap ((BitVec.ofInt IntKind.u8.bits (IntKind.u8.wrap (x : Int)) &&& BitVec.ofInt IntKind.u8.bits 127).toNat : Int) = (lastD x).toNat := by
  have h : ∀ y : Fin 256, (BitVec.ofInt 8 (y.val : Int) &&& BitVec.ofInt 8 127).toNat = y.val % 128 := by decide +kernel
  have := h ⟨x % 256, by omega⟩
  simp only at this
  rw [u8n, lastD_nat]
  show IntKind.u8.wrap ((BitVec.ofInt 8 ((x % 256 : Nat) : Int) &&& BitVec.ofInt 8 127).toNat : Int) = _
  rw [this, IntKind.wrap_u8]
  omega

def putEnv (w0 : World) (l : List UInt8) (u q : Nat) : Env := [(1, .ex (.int .u64 u)), (5, ownB w0.heap.size (l ++ emit u (ahead u) q)), (6, .ex (.int .i64 ((7 * (ahead u - q) : Nat) : Int)))]

theorem vlq_Put (l : List UInt8) (u : Nat) (hu : u < 2 ^ 64) (hl : l.length ≤ 140737488355308) : Spc Try.prog 74 [bytesF l, .ex (.int .u64 u)] fun B => ownB B (l ++ num u) := by
  refine Spc.intro Try.func74 rfl (Nat.le_of_ble_eq_true rfl) fun w0 => ?_
  have hI := hIb w0
  have hbd := ahead_bd hu
  have hbl : bl u ≤ 70 := by have : ahead u ≤ 9 := hbd; unfold ahead at this; omega
  refine J.seq (J.region mixed hI (by kernel_rfl) ?_)
  repeat (refine Plan.assign rfl rfl rfl rfl ?_)
  refine J.seq (J.region mixed hI (by kernel_rfl) ?_)
  repeat (refine Plan.move rfl rfl rfl rfl ?_)
  refine Plan.call (B := w0.heap.size) rfl rfl rfl (vlq_own l hl) Try.func92 rfl rfl (hBb w0) (Opnds.cons rfl (Sub.old fun _ h => h) Opnds.nil) ?_
  repeat (refine Plan.assign rfl rfl rfl rfl ?_)
  refine J.seq (J.seq (J.region mixed hI (by kernel_rfl) ?_))
  repeat (refine Plan.move rfl rfl rfl rfl ?_)
  refine Plan.call (B := 0) (R := fun _ => .ex (.int .i64 (bl u))) rfl rfl rfl (bits_Len64 u hu) Try.func93 rfl rfl (fun _ _ => Nat.zero_le _) (Opnds.cons rfl (Sub.refl _) Opnds.nil) ?_
  refine Plan.max2 rfl rfl rfl rfl rfl ?_
  refine Plan.int (y := ((max (bl u) 1 : Nat) : Int)) (by split <;> omega) ?_
  refine Plan.ints rfl rfl rfl rfl rfl rfl ?_
  refine Plan.int (y := ((max (bl u) 1 - 1 : Nat) : Int)) (by rw [i64r (by omega)]; omega) ?_
  refine Plan.ints rfl rfl rfl rfl rfl rfl ?_
  refine Plan.int (y := (ahead u : Int)) (by rw [Int.tdiv_eq_ediv_of_nonneg (by omega), i64r (by omega)]; unfold ahead; omega) ?_
  refine Plan.ints rfl rfl rfl rfl rfl rfl ?_
  refine Plan.int (y := ((7 * (ahead u - 0) : Nat) : Int)) (by rw [i64r (by omega)]; omega) ?_
  repeat (refine Plan.assign rfl rfl rfl rfl ?_)
  refine J.block (J.loop (putEnv w0 l u) (fun q => q ≤ ahead u) (fun q => ahead u - q) 0 (Nat.zero_le _) ?_ ?_)
  · exact Weak.cons rfl (Sub.refl _) (Weak.cons rfl (Sub.of_eq (by simp [emit])) (Weak.cons rfl (Sub.refl _) Weak.nil))
  intro q hq
  have hel : (emit u (ahead u) q).length = q := by simp [emit]
  refine J.seq (J.seq (J.region mixed hI (by kernel_rfl) ?_))
  repeat (first | refine Plan.move rfl rfl rfl rfl ?_ | refine Plan.ints rfl rfl rfl rfl rfl rfl ?_)
  refine J.cond rfl (fun hc => ?_) (fun hc => ?_)
  · have hlt : q < ahead u := by have : (0 : Int) < ((7 * (ahead u - q) : Nat) : Int) := by simpa using hc
                                 omega
    refine J.skip ?_
    refine J.seq (J.block (J.region mixed hI (by kernel_rfl) ?_))
    refine Plan.move rfl rfl rfl rfl ?_
    refine Plan.move rfl rfl rfl rfl ?_
    refine Plan.move rfl rfl rfl rfl ?_
    refine Plan.shift (v := .int .u64 ((u / 128 ^ (ahead u - q) : Nat) : Int)) rfl rfl rfl rfl rfl ?_ ?_
    · unfold shVal
      rw [if_neg (by omega)]
      simp only [Int.toNat_natCast]
      have hmin : min (7 * (ahead u - q)) IntKind.u64.bits = 7 * (ahead u - q) := Nat.min_eq_left (by show 7 * (ahead u - q) ≤ 64; omega)
      rw [hmin, fdivn, Nat.pow_mul]
    refine Plan.convInt rfl rfl rfl rfl Try.underlying122 Try.underlying5 ?_
    refine Plan.ints rfl rfl rfl rfl rfl rfl ?_
    refine Plan.int (or128 _) ?_
    refine Plan.lit (B := w0.heap.size) rfl rfl rfl eltB rfl (hBb w0) rfl (by simp [Value.cells]) (by decide) ?_
    refine Plan.append (news := bs [digit (u / 128 ^ (ahead u - q))]) rfl rfl rfl rfl (Sub.refl _) rfl Sub.own eltB (by intro d hd; cases hd; decide) (hGb w0) (bs_one _) (by simp [bs, hel]; omega) ?_
    repeat (refine Plan.assign rfl rfl rfl rfl ?_)
    refine (J.region mixed hI (by kernel_rfl) ?_)
    refine Plan.move rfl rfl rfl rfl ?_
    refine Plan.ints rfl rfl rfl rfl rfl rfl ?_
    refine Plan.int (y := ((7 * (ahead u - (q + 1)) : Nat) : Int)) (by rw [i64r (by omega)]; omega) ?_
    repeat (refine Plan.assign rfl rfl rfl rfl ?_)
    refine Nrm.weak (putEnv w0 l u (q + 1)) ?_ fun a w h1 h2 h3 => ⟨q + 1, by omega, by omega, h1, h2, h3⟩
    refine Weak.cons rfl (Sub.refl _) (Weak.cons rfl (Sub.of_eq ?_) (Weak.cons rfl (Sub.refl _) Weak.nil))
    rw [← bs_append, emit_succ, List.append_assoc]
  · have hge : q = ahead u := by have : ¬ (0 : Int) < ((7 * (ahead u - q) : Nat) : Int) := by simpa using hc
                                 omega
    subst hge
    refine J.exit ?_
    refine J.seq (J.region mixed hI (by kernel_rfl) ?_)
    repeat (refine Plan.move rfl rfl rfl rfl ?_)
    refine Plan.convInt rfl rfl rfl rfl Try.underlying122 Try.underlying5 ?_
    refine Plan.ints rfl rfl rfl rfl rfl rfl ?_
    refine Plan.int (and127 _) ?_
    refine Plan.lit (B := w0.heap.size) rfl rfl rfl eltB rfl (hBb w0) rfl (by simp [Value.cells]) (by decide) ?_
    refine Plan.append (news := bs [lastD u]) rfl rfl rfl rfl (Sub.refl _) rfl Sub.own eltB (by intro d hd; cases hd; decide) (hGb w0) (bs_one _) (by simp [bs, hel]; omega) ?_
    repeat (refine Plan.assign rfl rfl rfl rfl ?_)
    refine J.ret (Nrm.ret1 rfl (fun _ h => h) rfl fun B hB => Sub.trans (Sub.of_eq ?_) (Sub.ownLower hB))
    rw [← bs_append, List.append_assoc, ← num_emit]
end Go.Proofs.Ytepgphflnelpoaa
end

section
set_option linter.unusedSimpArgs false
set_option linter.unusedVariables false
set_option maxRecDepth 20000
namespace Go.Proofs.Ytepgphflnelpoaa
open Go.Free Go.RowKit Go.Proofs

theorem mk_u64 (n c : Nat) (hn : n < 2 ^ 57) (hc : c < 128) : IntKind.u64.wrap ((BitVec.ofInt IntKind.u64.bits ((n * 128 : Nat) : Int) ||| BitVec.ofInt IntKind.u64.bits (c : Int)).toNat : Int) = ((n * 128 + c : Nat) : Int) := by
  have h : (BitVec.ofInt IntKind.u64.bits ((n * 128 : Nat) : Int) ||| BitVec.ofInt IntKind.u64.bits (c : Int)).toNat = n * 128 + c := by
    show (BitVec.ofInt 64 ((n * 128 : Nat) : Int) ||| BitVec.ofInt 64 (c : Int)).toNat = _
    rw [BitVec.toNat_or, ofInt_u64 _ (by omega), ofInt_u64 _ (by omega)]
    have := Nat.shiftLeft_add_eq_or_of_lt (a := n) (b := c) (i := 7) (by omega)
    rw [Nat.shiftLeft_eq] at this
    exact this.symm
  rw [h, u64n (by omega)]
theorem and127n (c : UInt8) : IntKind.u8.wrap ((BitVec.ofInt IntKind.u8.bits (c.toNat : Int) &&& BitVec.ofInt IntKind.u8.bits 127).toNat : Int) = ((c.toNat % 128 : Nat) : Int) := by
  have h := and127 c.toNat
  rw [w8, lastD_nat] at h
  exact h

/-- One step of taking. -/
theorem takeL_at (l : List UInt8) (n i : Nat) (h : i < l.length) : takeL n i (l.drop i) =
    if i = 0 ∧ l.getD i 0 = 128 then (0, 0, 3) else if 144115188075855872 ≤ n then (0, 0, 4)
    else if (l.getD i 0).toNat < 128 then (n * 128 + (l.getD i 0).toNat % 128, i + 1, 0) else takeL (n * 128 + (l.getD i 0).toNat % 128) (i + 1) (l.drop (i + 1)) := by
  have hg : l.getD i 0 = l[i] := by simp [List.getD_eq_getElem?_getD, List.getElem?_eq_getElem h]
  rw [List.drop_eq_getElem_cons h, hg]
  rfl

def errRes (e : Nat) : Fa := .tup [.ex (.int .u64 0), .ex (.int .i64 0), .ex (.int .i64 e)]
def takeRes (l : List UInt8) (p : Int) : Fa := .tup [.ex (.int .u64 (vTake l p).1), .ex (.int .i64 (vTake l p).2.1), .ex (.int .i64 (vTake l p).2.2)]
def tkEnv (w0 : World) (l : List UInt8) (p : Int) (s : Nat × Nat) : Env :=
  [(0, .old w0 (bytesF l)), (1, .ex (.int .i64 p)), (7, .ex (.int .u64 s.1)), (20, bytesF (l.drop p.toNat)), (21, .ex (.int .i64 (l.drop p.toNat).length)), (22, .ex (.int .i64 s.2))]

theorem vlq_Take (l : List UInt8) (p : Int) (hp : -9223372036854775808 ≤ p ∧ p ≤ 9223372036854775807) (hl : l.length ≤ 9223372036854775807) : Spc Try.prog 86 [bytesF l, .ex (.int .i64 p)] fun _ => takeRes l p := by
  refine Spc.intro Try.func86 rfl (Nat.le_of_ble_eq_true rfl) fun w0 => ?_
  have hI := hIb w0
  refine J.seq (J.region mixed hI (by kernel_rfl) ?_)
  repeat (refine Plan.assign rfl rfl rfl rfl ?_)
  refine J.seq (J.seq (J.region mixed hI (by kernel_rfl) ?_))
  refine Plan.move rfl rfl rfl rfl ?_
  refine Plan.ints rfl rfl rfl rfl rfl rfl ?_
  by_cases h0 : p < 0
  · have hv : vTake l p = (0, 0, 1) := by unfold vTake; rw [if_pos (.inl h0)]
    refine Plan.boolv (y := true) (by simp; omega) ?_
    repeat (first | refine Plan.move rfl rfl rfl rfl ?_ | refine Plan.skip rfl rfl ?_ | refine Plan.pick rfl rfl rfl rfl rfl ?_)
    refine J.cond rfl (fun _ => ?_) (fun h => by cases h)
    refine J.seq (J.region mixed hI (by kernel_rfl) ?_)
    repeat (refine Plan.assign rfl rfl rfl rfl ?_)
    refine J.ret (Nrm.ret3 rfl (fun _ h => h) fun B _ => ⟨_, rfl, Ress.cons rfl (Sub.of_eq (by rw [hv]; rfl)) (Ress.cons rfl (Sub.of_eq (by rw [hv]; rfl)) (Ress.cons rfl (Sub.of_eq (by rw [hv]; rfl)) Ress.nil))⟩)
  refine Plan.boolv (y := false) (by simp; omega) ?_
  repeat (refine Plan.move rfl rfl rfl rfl ?_)
  refine Plan.lenRow rfl rfl rfl rfl (Sub.old fun _ h => h) Try.underlying27 (m := l.length) (by simp [bs]) (by decide) ?_
  refine Plan.ints rfl rfl rfl rfl rfl rfl ?_
  by_cases h1 : (l.length : Int) < p
  · have hv : vTake l p = (0, 0, 1) := by unfold vTake; rw [if_pos (.inr h1)]
    refine Plan.boolv (y := true) (by simp; omega) ?_
    repeat (refine Plan.pick rfl rfl rfl rfl rfl ?_)
    refine J.cond rfl (fun _ => ?_) (fun h => by cases h)
    refine J.seq (J.region mixed hI (by kernel_rfl) ?_)
    repeat (refine Plan.assign rfl rfl rfl rfl ?_)
    refine J.ret (Nrm.ret3 rfl (fun _ h => h) fun B _ => ⟨_, rfl, Ress.cons rfl (Sub.of_eq (by rw [hv]; rfl)) (Ress.cons rfl (Sub.of_eq (by rw [hv]; rfl)) (Ress.cons rfl (Sub.of_eq (by rw [hv]; rfl)) Ress.nil))⟩)
  refine Plan.boolv (y := false) (by simp; omega) ?_
  repeat (refine Plan.pick rfl rfl rfl rfl rfl ?_)
  refine J.cond rfl (fun h => by cases h) (fun _ => ?_)
  have hlen : (l.drop p.toNat).length = l.length - p.toNat := List.length_drop
  refine J.skip ?_
  refine J.seq (J.region mixed hI (by kernel_rfl) ?_)
  repeat (refine Plan.assign rfl rfl rfl rfl ?_)
  refine J.seq (J.seq (J.region mixed hI (by kernel_rfl) ?_))
  refine Plan.move rfl rfl rfl rfl ?_
  refine Plan.move rfl rfl rfl rfl ?_
  refine Plan.int (y := ((p.toNat : Nat) : Int)) (by omega) ?_
  refine Plan.sliceRow (m := l.length) (a0 := p.toNat) (b0 := l.length) rfl rfl rfl rfl (Sub.old fun _ h => h) eltB (by simp [bs]) (.inr ⟨_, _, rfl, rfl⟩) (.inl ⟨rfl, rfl⟩) (by omega) (Nat.le_refl _) ?_
  have hrow : ((bs l).take (l.length * 1)).drop (p.toNat * 1) = bs (l.drop p.toNat) := by
    rw [Nat.mul_one, Nat.mul_one, ← bs_length l, List.take_length]; simp [bs, List.map_drop]
  rw [hrow]
  refine Plan.lenRow rfl rfl rfl rfl (Sub.refl _) Try.underlying27 (m := (l.drop p.toNat).length) (by simp [bs]) (by decide) ?_
  repeat (refine Plan.move rfl rfl rfl rfl ?_)
  refine J.block (J.loop (tkEnv w0 l p) (fun s => s.2 ≤ (l.drop p.toNat).length ∧ s.1 < 2 ^ 64 ∧ takeL 0 0 (l.drop p.toNat) = takeL s.1 s.2 ((l.drop p.toNat).drop s.2)) (fun s => (l.drop p.toNat).length - s.2) (0, 0) ⟨Nat.zero_le _, by decide, rfl⟩ ?_ ?_)
  · exact Weak.cons rfl (Sub.refl _) (Weak.cons rfl (Sub.refl _) (Weak.cons rfl (Sub.refl _) (Weak.cons rfl (Sub.refl _) (Weak.cons rfl (Sub.refl _) (Weak.cons rfl (Sub.refl _) Weak.nil)))))
  rintro ⟨m, i⟩ ⟨hi, hm, ht⟩
  simp only at hi hm ht
  have hnn : ¬ (p < 0 ∨ (l.length : Int) < p) := by omega
  refine J.seq (J.region mixed hI (by kernel_rfl) ?_)
  repeat (refine Plan.ints rfl rfl rfl rfl rfl rfl ?_)
  refine J.seq (J.cond rfl (fun hc => ?_) (fun hc => ?_))
  · have hlt : i < (l.drop p.toNat).length := by simpa using hc
    rw [takeL_at _ _ _ hlt] at ht
    obtain ⟨c, hcdef⟩ : ∃ c, c = (l.drop p.toNat).getD i 0 := ⟨_, rfl⟩
    rw [← hcdef] at ht
    have hc256 := c.toNat_lt
    refine J.skip ?_
    refine J.seq (J.block ?_)
    refine J.seq (J.region mixed hI (by kernel_rfl) ?_)
    repeat (refine Plan.move rfl rfl rfl rfl ?_)
    refine Plan.indexAddr (fun b : UInt8 => [.int .u8 b.toNat]) 1 (l.drop p.toNat) 0 rfl rfl rfl rfl (Sub.rowEq (bs_flat _) (Sub.refl _)) rfl eltB (fun _ => rfl) (by omega) (by omega) ?_
    rw [Int.toNat_natCast, ← hcdef]
    refine Plan.load rfl rfl rfl rfl (Sub.refl _) Try.underlying5 rfl ?_
    repeat (refine Plan.assign rfl rfl rfl rfl ?_)
    -- the switch
    refine J.seqMid (fun _ : Unit => [(0, .old w0 (bytesF l)), (1, .ex (.int .i64 p)), (7, .ex (.int .u64 m)), (8, .ex (.int .i64 i)), (9, .ex (.int .u8 c.toNat)), (20, bytesF (l.drop p.toNat)), (21, .ex (.int .i64 (l.drop p.toNat).length)), (22, .ex (.int .i64 i))])
      (fun _ => ¬ (i = 0 ∧ c = 128) ∧ ¬ 144115188075855872 ≤ m) ?_ ?_
    · refine J.block ?_
      refine J.seq (J.region mixed hI (by kernel_rfl) ?_)
      refine Plan.move rfl rfl rfl rfl ?_
      refine Plan.ints rfl rfl rfl rfl rfl rfl ?_
      refine Plan.boolv (y := decide (i = 0)) (by by_cases h : i = 0 <;> simp [h]) ?_
      have key : ∀ E : Env, Free.look E 0 = some (.old w0 (bytesF l)) → Free.look E 1 = some (.ex (.int .i64 p)) → Free.look E 7 = some (.ex (.int .u64 m)) → Free.look E 8 = some (.ex (.int .i64 i)) → Free.look E 9 = some (.ex (.int .u8 c.toNat)) → Free.look E 20 = some (bytesF (l.drop p.toNat)) → Free.look E 21 = some (.ex (.int .i64 (l.drop p.toNat).length)) → Free.look E 22 = some (.ex (.int .i64 i)) →
          Weak (fun w => Below w0.heap.size w0 w) E [(0, .old w0 (bytesF l)), (1, .ex (.int .i64 p)), (7, .ex (.int .u64 m)), (8, .ex (.int .i64 i)), (9, .ex (.int .u8 c.toNat)), (20, bytesF (l.drop p.toNat)), (21, .ex (.int .i64 (l.drop p.toNat).length)), (22, .ex (.int .i64 i))] :=
        fun E h0 h1 h2 h3 h4 h5 h6 h7 => Weak.cons h0 (Sub.refl _) (Weak.cons h1 (Sub.refl _) (Weak.cons h2 (Sub.refl _) (Weak.cons h3 (Sub.refl _) (Weak.cons h4 (Sub.refl _) (Weak.cons h5 (Sub.refl _) (Weak.cons h6 (Sub.refl _) (Weak.cons h7 (Sub.refl _) Weak.nil)))))))
      by_cases hform : i = 0 ∧ c = 128
      · have hv : vTake l p = (0, 0, 3) := by unfold vTake; rw [if_neg hnn, ht, if_pos hform]; rfl
        refine Plan.boolv (y := true) (by simp [hform.1]) ?_
        repeat (first | refine Plan.move rfl rfl rfl rfl ?_ | refine Plan.assign rfl rfl rfl rfl ?_ | refine Plan.pick rfl rfl rfl rfl rfl ?_ | refine Plan.ints rfl rfl rfl rfl rfl rfl ?_)
        refine Plan.boolv (y := true) (by rw [hform.2]; rfl) ?_
        repeat (fail)
        refine J.cond rfl (fun _ => ?_) (fun h => by cases h)
        refine J.seq (J.region mixed hI (by kernel_rfl) ?_)
        repeat (refine Plan.assign rfl rfl rfl rfl ?_)
        exact J.ret (Nrm.ret3 rfl (fun _ h => h) fun B _ => ⟨_, rfl, Ress.cons rfl (Sub.of_eq (by rw [hv]; rfl)) (Ress.cons rfl (Sub.of_eq (by rw [hv]; rfl)) (Ress.cons rfl (Sub.of_eq (by rw [hv]; rfl)) Ress.nil))⟩)
      · rw [if_neg hform] at ht
        by_cases hi0 : i = 0
        · have hc128 : ¬ c = 128 := fun h => hform ⟨hi0, h⟩
          have hc128' : ¬ c.toNat = 128 := fun h => hc128 (UInt8.toNat_inj.1 h)
          refine Plan.boolv (y := true) (by simp [hi0]) ?_
          repeat (first | refine Plan.move rfl rfl rfl rfl ?_ | refine Plan.assign rfl rfl rfl rfl ?_ | refine Plan.pick rfl rfl rfl rfl rfl ?_ | refine Plan.ints rfl rfl rfl rfl rfl rfl ?_)
          refine Plan.boolv (y := false) (by simp; omega) ?_
          repeat (fail)
          refine J.cond rfl (fun h => by cases h) (fun _ => ?_)
          refine J.seq (J.region mixed hI (by kernel_rfl) ?_)
          refine Plan.move rfl rfl rfl rfl ?_
          refine Plan.shift rfl rfl rfl rfl rfl rfl ?_
          refine Plan.int (fdivn m 57) ?_
          repeat (first | refine Plan.assign rfl rfl rfl rfl ?_ | refine Plan.ints rfl rfl rfl rfl rfl rfl ?_)
          refine J.cond rfl (fun h4 => ?_) (fun h4 => ?_)
          · have h4' : 144115188075855872 ≤ m := by
              have : ¬ m / 2 ^ 57 = 0 := by intro e; rw [e] at h4; simp at h4
              omega
            have hv : vTake l p = (0, 0, 4) := by unfold vTake; rw [if_neg hnn, ht, if_pos h4']; rfl
            refine J.seq (J.region mixed hI (by kernel_rfl) ?_)
            repeat (refine Plan.assign rfl rfl rfl rfl ?_)
            exact J.ret (Nrm.ret3 rfl (fun _ h => h) fun B _ => ⟨_, rfl, Ress.cons rfl (Sub.of_eq (by rw [hv]; rfl)) (Ress.cons rfl (Sub.of_eq (by rw [hv]; rfl)) (Ress.cons rfl (Sub.of_eq (by rw [hv]; rfl)) Ress.nil))⟩)
          · have h4' : ¬ 144115188075855872 ≤ m := by
              have : m / 2 ^ 57 = 0 := by
                have h5 : ((m / 2 ^ 57 : Nat) : Int) = 0 := by
                  by_cases hz : ((m / 2 ^ 57 : Nat) : Int) = 0
                  · exact hz
                  · exact absurd h4 (by simpa using hz)
                omega
              omega
            refine J.skip ?_
            exact Nrm.mid () ⟨hform, h4'⟩ (key _ rfl rfl rfl rfl rfl rfl rfl rfl)
        · refine Plan.boolv (y := false) (by simp [hi0]) ?_
          repeat (first | refine Plan.move rfl rfl rfl rfl ?_ | refine Plan.assign rfl rfl rfl rfl ?_ | refine Plan.skip rfl rfl ?_ | refine Plan.pick rfl rfl rfl rfl rfl ?_)
          refine J.cond rfl (fun h => by cases h) (fun _ => ?_)
          refine J.seq (J.region mixed hI (by kernel_rfl) ?_)
          refine Plan.move rfl rfl rfl rfl ?_
          refine Plan.shift rfl rfl rfl rfl rfl rfl ?_
          refine Plan.int (fdivn m 57) ?_
          repeat (first | refine Plan.assign rfl rfl rfl rfl ?_ | refine Plan.ints rfl rfl rfl rfl rfl rfl ?_)
          refine J.cond rfl (fun h4 => ?_) (fun h4 => ?_)
          · have h4' : 144115188075855872 ≤ m := by
              have : ¬ m / 2 ^ 57 = 0 := by intro e; rw [e] at h4; simp at h4
              omega
            have hv : vTake l p = (0, 0, 4) := by unfold vTake; rw [if_neg hnn, ht, if_pos h4']; rfl
            refine J.seq (J.region mixed hI (by kernel_rfl) ?_)
            repeat (refine Plan.assign rfl rfl rfl rfl ?_)
            exact J.ret (Nrm.ret3 rfl (fun _ h => h) fun B _ => ⟨_, rfl, Ress.cons rfl (Sub.of_eq (by rw [hv]; rfl)) (Ress.cons rfl (Sub.of_eq (by rw [hv]; rfl)) (Ress.cons rfl (Sub.of_eq (by rw [hv]; rfl)) Ress.nil))⟩)
          · have h4' : ¬ 144115188075855872 ≤ m := by
              have : m / 2 ^ 57 = 0 := by
                have h5 : ((m / 2 ^ 57 : Nat) : Int) = 0 := by
                  by_cases hz : ((m / 2 ^ 57 : Nat) : Int) = 0
                  · exact hz
                  · exact absurd h4 (by simpa using hz)
                omega
              omega
            refine J.skip ?_
            exact Nrm.mid () ⟨hform, h4'⟩ (key _ rfl rfl rfl rfl rfl rfl rfl rfl)
    rintro _ ⟨hform, h4⟩
    rw [if_neg hform, if_neg h4] at ht
    refine J.seq (J.region mixed hI (by kernel_rfl) ?_)
    refine Plan.move rfl rfl rfl rfl ?_
    refine Plan.shift rfl rfl rfl rfl rfl rfl ?_
    refine Plan.int (y := ((m * 128 : Nat) : Int)) (by show IntKind.u64.wrap ((m : Int) * 2 ^ 7) = _; rw [IntKind.wrap_u64]; omega) ?_
    refine Plan.move rfl rfl rfl rfl ?_
    refine Plan.ints rfl rfl rfl rfl rfl rfl ?_
    refine Plan.int (and127n c) ?_
    refine Plan.convInt rfl rfl rfl rfl Try.underlying5 Try.underlying122 ?_
    refine Plan.int (u64n (by omega)) ?_
    refine Plan.ints rfl rfl rfl rfl rfl rfl ?_
    refine Plan.int (mk_u64 m (c.toNat % 128) (by omega) (by omega)) ?_
    repeat (refine Plan.assign rfl rfl rfl rfl ?_)
    refine J.seq (J.region mixed hI (by kernel_rfl) ?_)
    repeat (first | refine Plan.move rfl rfl rfl rfl ?_ | refine Plan.ints rfl rfl rfl rfl rfl rfl ?_)
    refine J.cond rfl (fun h5 => ?_) (fun h5 => ?_)
    · have h5' : c.toNat < 128 := by have : (c.toNat : Int) < 128 := by simpa using h5
                                     omega
      rw [if_pos h5'] at ht
      have hv : vTake l p = (m * 128 + c.toNat % 128, p.toNat + (i + 1), 0) := by unfold vTake; rw [if_neg hnn, ht]; rfl
      refine J.seq (J.region mixed hI (by kernel_rfl) ?_)
      refine Plan.move rfl rfl rfl rfl ?_
      refine Plan.move rfl rfl rfl rfl ?_
      refine Plan.move rfl rfl rfl rfl ?_
      refine Plan.ints rfl rfl rfl rfl rfl rfl ?_
      refine Plan.int (y := ((p.toNat + i : Nat) : Int)) (by rw [i64r (by omega)]; omega) ?_
      refine Plan.ints rfl rfl rfl rfl rfl rfl ?_
      refine Plan.int (y := ((p.toNat + (i + 1) : Nat) : Int)) (by rw [i64r (by omega)]; omega) ?_
      repeat (refine Plan.assign rfl rfl rfl rfl ?_)
      exact J.ret (Nrm.ret3 rfl (fun _ h => h) fun B _ => ⟨_, rfl, Ress.cons rfl (Sub.of_eq (by rw [hv])) (Ress.cons rfl (Sub.of_eq (by rw [hv])) (Ress.cons rfl (Sub.of_eq (by rw [hv]; rfl)) Ress.nil))⟩)
    · have h5' : ¬ c.toNat < 128 := by have : ¬ (c.toNat : Int) < 128 := by simpa using h5
                                       omega
      rw [if_neg h5'] at ht
      refine J.skip ?_
      refine (J.region mixed hI (by kernel_rfl) ?_)
      refine Plan.ints rfl rfl rfl rfl rfl rfl ?_
      refine Plan.int (y := ((i + 1 : Nat) : Int)) (by rw [i64r (by omega)]; omega) ?_
      repeat (refine Plan.move rfl rfl rfl rfl ?_)
      refine Nrm.weak (tkEnv w0 l p (m * 128 + c.toNat % 128, i + 1)) ?_ fun a w h1 h2 h3 => ⟨(m * 128 + c.toNat % 128, i + 1), ⟨by show i + 1 ≤ _; omega, by show m * 128 + c.toNat % 128 < 2 ^ 64; omega, ht⟩, by show _ - (i + 1) < _ - i; omega, h1, h2, h3⟩
      exact Weak.cons rfl (Sub.refl _) (Weak.cons rfl (Sub.refl _) (Weak.cons rfl (Sub.refl _) (Weak.cons rfl (Sub.refl _) (Weak.cons rfl (Sub.refl _) (Weak.cons rfl (Sub.refl _) Weak.nil)))))
  · have hge : i = (l.drop p.toNat).length := by have : ¬ (i : Int) < (l.drop p.toNat).length := by simpa using hc
                                                 omega
    have hv : vTake l p = (0, 0, 2) := by
      unfold vTake; rw [if_neg hnn, ht, hge, List.drop_length]; rfl
    refine J.exit ?_
    refine J.seq (J.region mixed hI (by kernel_rfl) ?_)
    repeat (refine Plan.assign rfl rfl rfl rfl ?_)
    exact J.ret (Nrm.ret3 rfl (fun _ h => h) fun B _ => ⟨_, rfl, Ress.cons rfl (Sub.of_eq (by rw [hv]; rfl)) (Ress.cons rfl (Sub.of_eq (by rw [hv]; rfl)) (Ress.cons rfl (Sub.of_eq (by rw [hv]; rfl)) Ress.nil))⟩)
end Go.Proofs.Ytepgphflnelpoaa
end

section
set_option linter.unusedSimpArgs false
set_option linter.unusedVariables false
set_option maxRecDepth 20000
namespace Go.Proofs.Ytepgphflnelpoaa
open Go.Free Go.RowKit Go.Proofs

def rnEnv (u q : Nat) : Env := [(0, .ex (.int .u64 ((u / 128 ^ (q + 1) : Nat) : Int))), (3, .ex (str ((List.range q).map (fun i => digit (u / 128 ^ (q - i))) ++ [lastD u])))]

theorem ref_Number (u : Nat) (hu : u < 2 ^ 64) : Spc Try.prog 82 [.ex (.int .u64 u)] fun _ => .ex (str (num u)) := by
  refine Spc.intro Try.func82 rfl (Nat.le_of_ble_eq_true rfl) fun w0 => ?_
  have hI := hIb w0
  refine J.seq (J.region mixed hI (by kernel_rfl) ?_)
  repeat (refine Plan.assign rfl rfl rfl rfl ?_)
  refine J.seq (J.region mixed hI (by kernel_rfl) ?_)
  repeat (first | refine Plan.move rfl rfl rfl rfl ?_ | refine Plan.ints rfl rfl rfl rfl rfl rfl ?_)
  refine Plan.int (y := ((u % 128 : Nat) : Int)) (by rw [Int.tmod_eq_emod_of_nonneg (by omega)]; omega) ?_
  refine Plan.convInt rfl rfl rfl rfl Try.underlying122 Try.underlying5 ?_
  refine Plan.int (y := ((lastD u).toNat : Int)) (by rw [u8n, lastD_nat]; omega) ?_
  refine Plan.lit (B := w0.heap.size) rfl rfl rfl eltB rfl (hBb w0) rfl (by simp [Value.cells]) (by decide) ?_
  refine Plan.convBS (p := [lastD u]) rfl rfl rfl rfl (Sub.trans Sub.own (Sub.refl _)) Try.underlying27 Try.underlying9 Try.underlying5 ?_
  repeat (refine Plan.assign rfl rfl rfl rfl ?_)
  refine J.seq (J.region mixed hI (by kernel_rfl) ?_)
  refine Plan.move rfl rfl rfl rfl ?_
  refine Plan.ints rfl rfl rfl rfl rfl rfl ?_
  refine Plan.int (y := ((u / 128 ^ (0 + 1) : Nat) : Int)) (by rw [Int.tdiv_eq_ediv_of_nonneg (by omega), IntKind.wrap_u64]; omega) ?_
  repeat (refine Plan.assign rfl rfl rfl rfl ?_)
  refine J.seq (J.block (J.loop (rnEnv u) (fun q => q ≤ 10 ∧ (q ≠ 0 → 128 ^ q ≤ u)) (fun q => 10 - q) 0 ⟨by omega, fun h => absurd rfl h⟩ ?_ ?_))
  · exact Weak.cons rfl (Sub.refl _) (Weak.cons rfl (Sub.refl _) Weak.nil)
  rintro q ⟨hq, hql⟩
  have hq9 : q ≤ 9 := by
    rcases Nat.lt_or_ge q 10 with h | h
    · omega
    · have := hql (by omega)
      have : 128 ^ 10 ≤ 128 ^ q := Nat.pow_le_pow_right (by decide) h
      omega
  refine J.seq (J.seq (J.region mixed hI (by kernel_rfl) ?_))
  repeat (first | refine Plan.move rfl rfl rfl rfl ?_ | refine Plan.ints rfl rfl rfl rfl rfl rfl ?_)
  refine J.cond rfl (fun hc => ?_) (fun hc => ?_)
  · have hpos : 0 < u / 128 ^ (q + 1) := by have : (0 : Int) < ((u / 128 ^ (q + 1) : Nat) : Int) := by simpa using hc
                                            omega
    have hle : 128 ^ (q + 1) ≤ u := (Nat.div_pos_iff.1 hpos).2
    have hdl : u / 128 ^ (q + 1) < 2 ^ 64 := Nat.lt_of_le_of_lt (Nat.div_le_self _ _) hu
    refine J.skip ?_
    refine J.block ?_
    refine J.seq (J.region mixed hI (by kernel_rfl) ?_)
    refine Plan.move rfl rfl rfl rfl ?_
    refine Plan.ints rfl rfl rfl rfl rfl rfl ?_
    refine Plan.int (y := ((u / 128 ^ (q + 1) % 128 : Nat) : Int)) (by rw [Int.tmod_eq_emod_of_nonneg (by omega)]; omega) ?_
    refine Plan.ints rfl rfl rfl rfl rfl rfl ?_
    refine Plan.int (y := ((digit (u / 128 ^ (q + 1))).toNat : Int)) (by rw [digit_nat, IntKind.wrap_u64]; omega) ?_
    refine Plan.convInt rfl rfl rfl rfl Try.underlying122 Try.underlying5 ?_
    refine Plan.int (w8 _) ?_
    refine Plan.lit (B := w0.heap.size) rfl rfl rfl eltB rfl (hBb w0) rfl (by simp [Value.cells]) (by decide) ?_
    refine Plan.convBS (p := [digit (u / 128 ^ (q + 1))]) rfl rfl rfl rfl (Sub.trans Sub.own (Sub.refl _)) Try.underlying27 Try.underlying9 Try.underlying5 ?_
    repeat (refine Plan.move rfl rfl rfl rfl ?_)
    refine Plan.concat rfl rfl rfl rfl rfl (by simp; omega) ?_
    repeat (refine Plan.assign rfl rfl rfl rfl ?_)
    refine (J.region mixed hI (by kernel_rfl) ?_)
    refine Plan.move rfl rfl rfl rfl ?_
    refine Plan.ints rfl rfl rfl rfl rfl rfl ?_
    refine Plan.int (y := ((u / 128 ^ (q + 1 + 1) : Nat) : Int)) (by rw [Int.tdiv_eq_ediv_of_nonneg (by omega), Nat.pow_succ 128 (q + 1), ← Nat.div_div_eq_div_mul, IntKind.wrap_u64]; omega) ?_
    repeat (refine Plan.assign rfl rfl rfl rfl ?_)
    refine Nrm.weak (rnEnv u (q + 1)) ?_ fun a w h1 h2 h3 => ⟨q + 1, ⟨by omega, fun _ => hle⟩, by omega, h1, h2, h3⟩
    refine Weak.cons rfl (Sub.refl _) (Weak.cons rfl (Sub.of_eq ?_) Weak.nil)
    have hlist : ([digit (u / 128 ^ (q + 1))] ++ ((List.range q).map (fun i => digit (u / 128 ^ (q - i))) ++ [lastD u])) = (List.range (q + 1)).map (fun i => digit (u / 128 ^ (q + 1 - i))) ++ [lastD u] := by
      rw [List.range_succ_eq_map, List.map_cons, List.map_map]
      simp only [List.cons_append, List.nil_append, Nat.sub_zero, List.cons.injEq, true_and]
      congr 1
      refine List.map_congr_left fun i hi => ?_
      simp only [Function.comp]
      congr 3; omega
    rw [hlist]
  · have hz : u / 128 ^ (q + 1) = 0 := by
      rcases Nat.eq_zero_or_pos (u / 128 ^ (q + 1)) with h | h
      · exact h
      · exact absurd (Int.natCast_pos.2 h) (of_decide_eq_false hc)
    have hlt : u < 128 ^ (q + 1) := by
      rcases Nat.div_eq_zero_iff.1 hz with h | h
      · have := Nat.pow_pos (n := q + 1) (show 0 < 128 by decide); omega
      · exact h
    have ha : ahead u = q := ahead_of hlt hql
    refine J.exit ?_
    refine J.seq (J.region mixed hI (by kernel_rfl) ?_)
    repeat (first | refine Plan.move rfl rfl rfl rfl ?_ | refine Plan.assign rfl rfl rfl rfl ?_)
    refine J.ret (Nrm.ret1 rfl (fun _ h => h) rfl fun B _ => Sub.of_eq ?_)
    rw [num_emit, ha]; rfl

theorem ref_Text (s : List UInt8) (hs : s.length ≤ 9223372036854775000) : Spc Try.prog 83 [.ex (str s)] fun _ => .ex (str (num s.length ++ s)) := by
  refine Spc.intro Try.func83 rfl (Nat.le_of_ble_eq_true rfl) fun w0 => ?_
  have hI := hIb w0
  have hn := num_le (u := s.length) (by omega)
  refine J.seq (J.region mixed hI (by kernel_rfl) ?_)
  repeat (refine Plan.assign rfl rfl rfl rfl ?_)
  refine J.seq (J.region mixed hI (by kernel_rfl) ?_)
  repeat (first | refine Plan.move rfl rfl rfl rfl ?_ | refine Plan.lenStr rfl rfl rfl rfl Try.underlying9 ?_)
  refine Plan.convInt rfl rfl rfl rfl Try.underlying3 Try.underlying122 ?_
  refine Plan.int (u64n (by omega)) ?_
  refine Plan.call (B := 0) (R := fun _ => .ex (str (num s.length))) rfl rfl rfl (ref_Number s.length (by omega)) Try.func82 rfl rfl (fun _ _ => Nat.zero_le _) (Opnds.cons rfl (Sub.refl _) Opnds.nil) ?_
  repeat (refine Plan.move rfl rfl rfl rfl ?_)
  refine Plan.concat rfl rfl rfl rfl rfl (by omega) ?_
  repeat (refine Plan.assign rfl rfl rfl rfl ?_)
  exact J.ret (Nrm.ret1 rfl (fun _ h => h) rfl fun B _ => Sub.refl _)

/-- The number without a sign that goes for one with a sign. -/
def zig (x : Int) : Nat := if 0 ≤ x then (2 * x).toNat else (2 * (-(x + 1)) + 1).toNat
theorem zig_lt {x : Int} (h : -9223372036854775808 ≤ x ∧ x ≤ 9223372036854775807) : zig x < 2 ^ 64 := by unfold zig; split <;> omega
def zag (u : Nat) : Int := if u % 2 = 0 then (u / 2 : Nat) else -((u / 2 : Nat) : Int) - 1
theorem zag_zig (x : Int) : zag (zig x) = x := by unfold zag zig; split <;> split <;> omega

theorem ref_Int (x : Int) (h : -9223372036854775808 ≤ x ∧ x ≤ 9223372036854775807) : Spc Try.prog 84 [.ex (.int .i64 x)] fun _ => .ex (str (num (zig x))) := by
  have hz := zig_lt h
  refine Spc.intro Try.func84 rfl (Nat.le_of_ble_eq_true rfl) fun w0 => ?_
  have hI := hIb w0
  refine J.seq (J.region mixed hI (by kernel_rfl) ?_)
  repeat (refine Plan.assign rfl rfl rfl rfl ?_)
  refine J.seq (J.seq (J.region mixed hI (by kernel_rfl) ?_))
  repeat (first | refine Plan.move rfl rfl rfl rfl ?_ | refine Plan.ints rfl rfl rfl rfl rfl rfl ?_)
  refine J.cond rfl (fun hc => ?_) (fun hc => ?_)
  · have h0 : 0 ≤ x := by simpa using hc
    have he : (zig x : Int) = 2 * x := by unfold zig; rw [if_pos h0]; omega
    refine J.seq (J.region mixed hI (by kernel_rfl) ?_)
    repeat (refine Plan.move rfl rfl rfl rfl ?_)
    refine Plan.convInt rfl rfl rfl rfl Try.underlying3 Try.underlying122 ?_
    refine Plan.ints rfl rfl rfl rfl rfl rfl ?_
    refine Plan.int (y := (zig x : Int)) (by rw [IntKind.wrap_u64, IntKind.wrap_u64, he]; omega) ?_
    refine Plan.call (B := 0) (R := fun _ => .ex (str (num (zig x)))) rfl rfl rfl (ref_Number (zig x) hz) Try.func82 rfl rfl (fun _ _ => Nat.zero_le _) (Opnds.cons rfl (Sub.refl _) Opnds.nil) ?_
    repeat (refine Plan.assign rfl rfl rfl rfl ?_)
    exact J.ret (Nrm.ret1 rfl (fun _ h => h) rfl fun B _ => Sub.refl _)
  · have h0 : ¬ 0 ≤ x := by simpa using hc
    have he : (zig x : Int) = 2 * (-(x + 1)) + 1 := by unfold zig; rw [if_neg h0]; omega
    refine J.skip ?_
    refine J.seq (J.region mixed hI (by kernel_rfl) ?_)
    refine Plan.move rfl rfl rfl rfl ?_
    refine Plan.ints rfl rfl rfl rfl rfl rfl ?_
    refine Plan.int (i64r (by omega)) ?_
    refine Plan.un rfl rfl rfl rfl rfl ?_
    refine Plan.int (y := -(x + 1)) (by rw [i64r (by omega)]; omega) ?_
    refine Plan.convInt rfl rfl rfl rfl Try.underlying3 Try.underlying122 ?_
    refine Plan.ints rfl rfl rfl rfl rfl rfl ?_
    refine Plan.ints rfl rfl rfl rfl rfl rfl ?_
    refine Plan.int (y := (zig x : Int)) (by rw [IntKind.wrap_u64, IntKind.wrap_u64, IntKind.wrap_u64, he]; omega) ?_
    refine Plan.call (B := 0) (R := fun _ => .ex (str (num (zig x)))) rfl rfl rfl (ref_Number (zig x) hz) Try.func82 rfl rfl (fun _ _ => Nat.zero_le _) (Opnds.cons rfl (Sub.refl _) Opnds.nil) ?_
    repeat (refine Plan.assign rfl rfl rfl rfl ?_)
    exact J.ret (Nrm.ret1 rfl (fun _ h => h) rfl fun B _ => Sub.refl _)

theorem ref_Signed (u : Nat) (hu : u < 2 ^ 64) : Spc Try.prog 81 [.ex (.int .u64 u)] fun _ => .ex (.int .i64 (zag u)) := by
  refine Spc.intro Try.func81 rfl (Nat.le_of_ble_eq_true rfl) fun w0 => ?_
  have hI := hIb w0
  refine J.seq (J.region mixed hI (by kernel_rfl) ?_)
  repeat (refine Plan.assign rfl rfl rfl rfl ?_)
  refine J.seq (J.seq (J.region mixed hI (by kernel_rfl) ?_))
  refine Plan.move rfl rfl rfl rfl ?_
  refine Plan.ints rfl rfl rfl rfl rfl rfl ?_
  refine Plan.int (y := ((u % 2 : Nat) : Int)) (by rw [Int.tmod_eq_emod_of_nonneg (by omega)]; omega) ?_
  repeat (refine Plan.ints rfl rfl rfl rfl rfl rfl ?_)
  refine J.cond rfl (fun hc => ?_) (fun hc => ?_)
  · have h0 : u % 2 = 0 := by have : ((u % 2 : Nat) : Int) = 0 := by simpa using hc
                              omega
    refine J.seq (J.region mixed hI (by kernel_rfl) ?_)
    refine Plan.move rfl rfl rfl rfl ?_
    refine Plan.ints rfl rfl rfl rfl rfl rfl ?_
    refine Plan.int (y := ((u / 2 : Nat) : Int)) (by rw [Int.tdiv_eq_ediv_of_nonneg (by omega), IntKind.wrap_u64]; omega) ?_
    refine Plan.convInt rfl rfl rfl rfl Try.underlying122 Try.underlying3 ?_
    refine Plan.int (i64r (by omega)) ?_
    repeat (refine Plan.assign rfl rfl rfl rfl ?_)
    refine J.ret (Nrm.ret1 rfl (fun _ h => h) rfl fun B _ => Sub.of_eq ?_)
    unfold zag; rw [if_pos h0]
  · have h0 : ¬ u % 2 = 0 := by intro e; rw [e] at hc; simp at hc
    refine J.skip ?_
    refine J.seq (J.region mixed hI (by kernel_rfl) ?_)
    refine Plan.move rfl rfl rfl rfl ?_
    refine Plan.ints rfl rfl rfl rfl rfl rfl ?_
    refine Plan.int (y := ((u / 2 : Nat) : Int)) (by rw [Int.tdiv_eq_ediv_of_nonneg (by omega), IntKind.wrap_u64]; omega) ?_
    refine Plan.convInt rfl rfl rfl rfl Try.underlying122 Try.underlying3 ?_
    refine Plan.int (i64r (by omega)) ?_
    refine Plan.un rfl rfl rfl rfl rfl ?_
    refine Plan.int (y := -((u / 2 : Nat) : Int)) (by rw [i64r (by omega)]; omega) ?_
    refine Plan.ints rfl rfl rfl rfl rfl rfl ?_
    refine Plan.int (y := zag u) (by rw [i64r (by omega)]; unfold zag; rw [if_neg h0]) ?_
    repeat (refine Plan.assign rfl rfl rfl rfl ?_)
    exact J.ret (Nrm.ret1 rfl (fun _ h => h) rfl fun B _ => Sub.refl _)

theorem vlq_PutText (l s : List UInt8) (hl : l.length + s.length ≤ 140737488355300) : Spc Try.prog 76 [bytesF l, .ex (str s)] fun B => ownB B (l ++ (num s.length ++ s)) := by
  refine Spc.intro Try.func76 rfl (Nat.le_of_ble_eq_true rfl) fun w0 => ?_
  have hI := hIb w0
  have hn := num_le (u := s.length) (by omega)
  refine J.seq (J.region mixed hI (by kernel_rfl) ?_)
  repeat (refine Plan.assign rfl rfl rfl rfl ?_)
  refine J.seq (J.region mixed hI (by kernel_rfl) ?_)
  repeat (first | refine Plan.move rfl rfl rfl rfl ?_ | refine Plan.lenStr rfl rfl rfl rfl Try.underlying9 ?_)
  refine Plan.convInt rfl rfl rfl rfl Try.underlying3 Try.underlying122 ?_
  refine Plan.int (u64n (by omega)) ?_
  refine Plan.call (B := w0.heap.size) rfl rfl rfl (vlq_Put l s.length (by omega) (by omega)) Try.func74 rfl rfl (hBb w0) (Opnds.cons rfl (Sub.old fun _ h => h) (Opnds.cons rfl (Sub.refl _) Opnds.nil)) ?_
  repeat (refine Plan.move rfl rfl rfl rfl ?_)
  refine Plan.appendStr rfl rfl rfl rfl (Sub.refl _) rfl Try.underlying9 eltB (by intro d hd; cases hd; decide) (hGb w0) (by simp [bs]; omega) ?_
  repeat (refine Plan.assign rfl rfl rfl rfl ?_)
  refine J.ret (Nrm.ret1 rfl (fun _ h => h) rfl fun B hB => Sub.trans (Sub.of_eq ?_) (Sub.ownLower hB))
  rw [← bs_append, List.append_assoc]

theorem p64 : ((2 ^ 64 : Nat) : Int) = 18446744073709551616 := by decide
theorem ofInt_m1 : BitVec.ofInt 64 (-1) = BitVec.allOnes 64 := by decide
theorem ofInt_0 : BitVec.ofInt 64 0 = 0#64 := by decide
theorem zig_go {x : Int} (h : -9223372036854775808 ≤ x ∧ x ≤ 9223372036854775807) :
    IntKind.u64.wrap (IntKind.i64.wrap ((BitVec.ofInt IntKind.i64.bits (IntKind.i64.wrap (x * 2 ^ min (Int.toNat 1) IntKind.i64.bits)) ^^^ BitVec.ofInt IntKind.i64.bits (x.fdiv (2 ^ min (Int.toNat 63) IntKind.i64.bits))).toNat : Int)) = (zig x : Int) := by
  have e1 : IntKind.i64.wrap (x * 2 ^ min (Int.toNat 1) IntKind.i64.bits) = IntKind.i64.wrap (2 * x) := by show IntKind.i64.wrap (x * 2 ^ 1) = _; congr 1; omega
  have hx : x.fdiv (2 ^ min (Int.toNat 63) IntKind.i64.bits) = if 0 ≤ x then 0 else -1 := by
    show x.fdiv (2 ^ 63) = _
    rw [Int.fdiv_eq_ediv_of_nonneg _ (by decide)]
    split <;> omega
  rw [e1, hx]
  clear e1 hx
  have hz := zig_lt h
  have hw : (IntKind.i64.wrap (2 * x)) % 18446744073709551616 = (2 * x) % 18446744073709551616 := by rw [IntKind.wrap_i64]; omega
  by_cases h0 : 0 ≤ x
  · rw [if_pos h0]
    have e2 : (BitVec.ofInt IntKind.i64.bits (IntKind.i64.wrap (2 * x)) ^^^ BitVec.ofInt IntKind.i64.bits 0).toNat = zig x := by
      show (BitVec.ofInt 64 (IntKind.i64.wrap (2 * x)) ^^^ BitVec.ofInt 64 0).toNat = _
      rw [ofInt_0, BitVec.xor_zero, BitVec.toNat_ofInt, p64, hw]
      unfold zig; rw [if_pos h0]; omega
    rw [e2, IntKind.wrap_i64, IntKind.wrap_u64]; omega
  · rw [if_neg h0]
    have e2 : (BitVec.ofInt IntKind.i64.bits (IntKind.i64.wrap (2 * x)) ^^^ BitVec.ofInt IntKind.i64.bits (-1)).toNat = zig x := by
      show (BitVec.ofInt 64 (IntKind.i64.wrap (2 * x)) ^^^ BitVec.ofInt 64 (-1)).toNat = _
      rw [ofInt_m1, BitVec.xor_allOnes, BitVec.toNat_not, BitVec.toNat_ofInt, p64, hw]
      unfold zig; rw [if_neg h0, show (2 ^ 64 - 1 : Nat) = 18446744073709551615 from rfl]; omega
    rw [e2, IntKind.wrap_i64, IntKind.wrap_u64]; omega

theorem vlq_PutInt (l : List UInt8) (x : Int) (h : -9223372036854775808 ≤ x ∧ x ≤ 9223372036854775807) (hl : l.length ≤ 140737488355300) : Spc Try.prog 77 [bytesF l, .ex (.int .i64 x)] fun B => ownB B (l ++ num (zig x)) := by
  refine Spc.intro Try.func77 rfl (Nat.le_of_ble_eq_true rfl) fun w0 => ?_
  have hI := hIb w0
  refine J.seq (J.region mixed hI (by kernel_rfl) ?_)
  repeat (refine Plan.assign rfl rfl rfl rfl ?_)
  refine J.seq (J.region mixed hI (by kernel_rfl) ?_)
  repeat (first | refine Plan.move rfl rfl rfl rfl ?_ | refine Plan.ints rfl rfl rfl rfl rfl rfl ?_ | refine Plan.shift rfl rfl rfl rfl rfl rfl ?_)
  refine Plan.convInt rfl rfl rfl rfl Try.underlying3 Try.underlying122 ?_
  refine Plan.int (zig_go h) ?_
  refine Plan.call (B := w0.heap.size) rfl rfl rfl (vlq_Put l (zig x) (zig_lt h) (by omega)) Try.func74 rfl rfl (hBb w0) (Opnds.cons rfl (Sub.old fun _ h => h) (Opnds.cons rfl (Sub.refl _) Opnds.nil)) ?_
  repeat (refine Plan.assign rfl rfl rfl rfl ?_)
  exact J.ret (Nrm.ret1 rfl (fun _ h => h) rfl fun B hB => Sub.ownLower hB)

/-- A number with a sign, taken. -/
theorem zag_go (u : Nat) (hu : u < 2 ^ 64) :
    IntKind.i64.wrap ((BitVec.ofInt IntKind.i64.bits (IntKind.i64.wrap ((u : Int).fdiv (2 ^ min (Int.toNat 1) IntKind.u64.bits))) ^^^ BitVec.ofInt IntKind.i64.bits (IntKind.i64.wrap (0 - IntKind.i64.wrap (IntKind.u64.wrap ((BitVec.ofInt IntKind.u64.bits (u : Int) &&& BitVec.ofInt IntKind.u64.bits 1).toNat : Int))))).toNat : Int) = zag u := by
  have e1 : (u : Int).fdiv (2 ^ min (Int.toNat 1) IntKind.u64.bits) = ((u / 2 : Nat) : Int) := fdivn u 1
  have e2 : (BitVec.ofInt IntKind.u64.bits (u : Int) &&& BitVec.ofInt IntKind.u64.bits 1).toNat = u % 2 := by
    show (BitVec.ofInt 64 (u : Int) &&& 1#64).toNat = _
    rw [BitVec.toNat_and, ofInt_u64 u hu]
    exact Nat.and_one_is_mod u
  have e0 : u / 2 < 2 ^ 63 := by omega
  rw [e1, e2]
  clear e1 e2
  rw [i64r (x := ((u / 2 : Nat) : Int)) (by omega), u64n (x := u % 2) (by omega), i64r (x := ((u % 2 : Nat) : Int)) (by omega), i64r (x := 0 - ((u % 2 : Nat) : Int)) (by omega)]
  unfold zag
  by_cases h0 : u % 2 = 0
  · rw [if_pos h0, h0]
    have : (BitVec.ofInt IntKind.i64.bits ((u / 2 : Nat) : Int) ^^^ BitVec.ofInt IntKind.i64.bits (0 - ((0 : Nat) : Int))).toNat = u / 2 := by
      show (BitVec.ofInt 64 ((u / 2 : Nat) : Int) ^^^ BitVec.ofInt 64 (0 - 0)).toNat = _
      rw [Int.sub_zero, ofInt_0, BitVec.xor_zero, ofInt_u64 _ (by omega)]
    rw [this, i64r (by omega)]
  · have h1 : u % 2 = 1 := by omega
    rw [if_neg h0, h1]
    have : (BitVec.ofInt IntKind.i64.bits ((u / 2 : Nat) : Int) ^^^ BitVec.ofInt IntKind.i64.bits (0 - ((1 : Nat) : Int))).toNat = 2 ^ 64 - 1 - u / 2 := by
      show (BitVec.ofInt 64 ((u / 2 : Nat) : Int) ^^^ BitVec.ofInt 64 (0 - 1)).toNat = _
      rw [show (0 - 1 : Int) = -1 from rfl, ofInt_m1, BitVec.xor_allOnes, BitVec.toNat_not, ofInt_u64 _ (by omega)]
    rw [this, IntKind.wrap_i64]; omega

theorem vlq_TakeInt (l : List UInt8) (p : Int) (hp : -9223372036854775808 ≤ p ∧ p ≤ 9223372036854775807) (hl : l.length ≤ 9223372036854775807) : Spc Try.prog 95 [bytesF l, .ex (.int .i64 p)] fun _ => .tup [.ex (.int .i64 (zag (vTake l p).1)), .ex (.int .i64 (vTake l p).2.1), .ex (.int .i64 (vTake l p).2.2)] := by
  refine Spc.intro Try.func95 rfl (Nat.le_of_ble_eq_true rfl) fun w0 => ?_
  have hI := hIb w0
  have hb := (vTake_bd l p).1
  refine J.seq (J.region mixed hI (by kernel_rfl) ?_)
  repeat (refine Plan.assign rfl rfl rfl rfl ?_)
  refine J.seq (J.region mixed hI (by kernel_rfl) ?_)
  repeat (refine Plan.move rfl rfl rfl rfl ?_)
  refine Plan.call (B := 0) (R := fun _ => takeRes l p) rfl rfl rfl (vlq_Take l p hp hl) Try.func86 rfl rfl (fun _ _ => Nat.zero_le _) (Opnds.cons rfl (Sub.old fun _ h => h) (Opnds.cons rfl (Sub.refl _) Opnds.nil)) ?_
  repeat (first | refine Plan.move rfl rfl rfl rfl ?_ | refine Plan.assign rfl rfl rfl rfl ?_ | refine Plan.extract rfl rfl rfl rfl rfl ?_)
  refine J.seq (J.region mixed hI (by kernel_rfl) ?_)
  repeat (first | refine Plan.move rfl rfl rfl rfl ?_ | refine Plan.shift rfl rfl rfl rfl rfl rfl ?_)
  refine Plan.convInt rfl rfl rfl rfl Try.underlying122 Try.underlying3 ?_
  repeat (first | refine Plan.move rfl rfl rfl rfl ?_ | refine Plan.ints rfl rfl rfl rfl rfl rfl ?_)
  refine Plan.convInt rfl rfl rfl rfl Try.underlying122 Try.underlying3 ?_
  refine Plan.un rfl rfl rfl rfl rfl ?_
  refine Plan.ints rfl rfl rfl rfl rfl rfl ?_
  refine Plan.int (zag_go _ hb) ?_
  repeat (first | refine Plan.move rfl rfl rfl rfl ?_ | refine Plan.assign rfl rfl rfl rfl ?_)
  exact J.ret (Nrm.ret3 rfl (fun _ h => h) fun B _ => ⟨_, rfl, Ress.cons rfl (Sub.refl _) (Ress.cons rfl (Sub.refl _) (Ress.cons rfl (Sub.refl _) Ress.nil))⟩)
end Go.Proofs.Ytepgphflnelpoaa
end

section
set_option linter.unusedSimpArgs false
set_option linter.unusedVariables false
set_option maxRecDepth 20000
namespace Go.Proofs.Ytepgphflnelpoaa
open Go.Free Go.RowKit Go.Proofs
set_option maxHeartbeats 4000000

def numI (x : Int) : List UInt8 := num x.toNat
def txt (s : List UInt8) : List UInt8 := num s.length ++ s
def encNs (e : EvV) : List Int := [e.r, e.n, e.time, e.d 0, e.d 1, e.d 2, e.d 3, e.d 4, e.d 5, e.d 6, e.d 7, e.d 8, e.d 9, e.d 10, e.d 11, e.d 12, e.d 13, e.d 14, e.d 15]
def nums (l : List Int) : List UInt8 := l.flatMap numI
def encB1 (e : EvV) : List UInt8 := nums (encNs e) ++ numI e.kind ++ txt e.key
def encB2 (e : EvV) : List UInt8 := if fieldP e.kind then encB1 e ++ txt e.field else encB1 e
def encB3 (e : EvV) : List UInt8 := if valueP e.kind then encB2 e ++ txt e.value else encB2 e
def encB4 (e : EvV) : List UInt8 := if numP e.kind then encB3 e ++ num (zig e.num) else encB3 e
def encB (e : EvV) : List UInt8 := if refP e.kind then encB4 e ++ numI e.rr ++ numI e.rn else encB4 e
def small (x : Int) : Prop := 0 ≤ x ∧ x < 18446744073709551616
theorem numI_le {x : Int} (h : small x) : (numI x).length ≤ 10 := num_le (by have := h.1; have := h.2; omega)
theorem nums_le : ∀ {l : List Int}, (∀ x ∈ l, small x) → (nums l).length ≤ 10 * l.length
  | [], _ => by simp [nums]
  | x :: l, h => by
    have h1 := numI_le (h x List.mem_cons_self)
    have h2 := nums_le (l := l) fun y hy => h y (List.mem_cons_of_mem _ hy)
    simp only [nums, List.flatMap_cons, List.length_append, List.length_cons] at h2 ⊢
    omega
theorem encNs_small {e : EvV} (h : rightP e) : ∀ x ∈ encNs e, small x := by
  obtain ⟨⟨h1, h2, h3, h4⟩, h5, h6, h7, -⟩ := h
  intro x hx
  have hd : ∀ i, i < 16 → small (e.d i) := fun i hi => by have := h7 i hi; unfold small; omega
  simp only [encNs, List.mem_cons, List.not_mem_nil, or_false] at hx
  rcases hx with rfl | rfl | rfl | rfl | rfl | rfl | rfl | rfl | rfl | rfl | rfl | rfl | rfl | rfl | rfl | rfl | rfl | rfl | rfl
  · unfold small; omega
  · unfold small; omega
  · unfold small; omega
  all_goals exact hd _ (by decide)
theorem nums_snoc {l : List Int} {i : Nat} (h : i < l.length) : nums (l.take (i + 1)) = nums (l.take i) ++ numI (l.getD i 0) := by
  have e : l.take (i + 1) = l.take i ++ [l.getD i 0] := by
    rw [List.take_add_one, List.getElem?_eq_getElem h, List.getD_eq_getElem?_getD, List.getElem?_eq_getElem h]; rfl
  rw [e]
  simp [nums]
structure EncOk (e : EvV) : Prop where
  kind : 1 ≤ e.kind ∧ e.kind ≤ 11
  key : e.key.length ≤ 64
  field : e.field.length ≤ 64
  value : e.value.length ≤ 64
  num : -9223372036854775808 ≤ e.num ∧ e.num ≤ 9223372036854775807
  ref : refP e.kind → small e.rr ∧ small e.rn
theorem enc_okE {e : EvV} (h : rightP e) : EncOk e := by
  obtain ⟨-, -, -, h7, -, ⟨h8, -, h9, h10, h11, h12, h13, -⟩, h14⟩ := h
  refine ⟨h8, h9, h10, h11, by omega, fun _ => ?_⟩
  rcases h14 with ⟨⟨h1, h2, h3, h4⟩, _⟩ | ⟨_, h1, h2⟩
  · unfold small; omega
  · unfold small; omega
theorem txt_le {s : List UInt8} (h : s.length ≤ 64) : (txt s).length ≤ 74 := by
  have := num_le (u := s.length) (by omega)
  unfold txt; rw [List.length_append]; omega
theorem encB1_le {e : EvV} (h : rightP e) : (encB1 e).length ≤ 300 := by
  have h1 := nums_le (encNs_small h)
  have h2 : (encNs e).length = 19 := rfl
  have hk := (enc_okE h).kind
  have h3 := numI_le (x := e.kind) (by unfold small; omega)
  have h4 := txt_le (enc_okE h).key
  unfold encB1; simp only [List.length_append]; omega
theorem encB2_le {e : EvV} (h : rightP e) : (encB2 e).length ≤ 400 := by
  have h1 := encB1_le h
  have h4 := txt_le (enc_okE h).field
  unfold encB2; split <;> (try simp only [List.length_append]) <;> omega
theorem encB3_le {e : EvV} (h : rightP e) : (encB3 e).length ≤ 500 := by
  have h1 := encB2_le h
  have h4 := txt_le (enc_okE h).value
  unfold encB3; split <;> (try simp only [List.length_append]) <;> omega
theorem encB4_le {e : EvV} (h : rightP e) : (encB4 e).length ≤ 600 := by
  have h1 := encB3_le h
  have h4 := num_le (zig_lt (enc_okE h).num)
  unfold encB4; split <;> (try simp only [List.length_append]) <;> omega
theorem encB_le {e : EvV} (h : rightP e) : (encB e).length ≤ 700 := by
  have h1 := encB4_le h
  unfold encB
  by_cases hr : refP e.kind
  · have h2 := numI_le ((enc_okE h).ref hr).1
    have h3 := numI_le ((enc_okE h).ref hr).2
    rw [if_pos hr]; simp only [List.length_append]; omega
  · rw [if_neg hr]; omega

theorem encode_no (e : EvV) (h : e.okV) (hr : ¬ rightP e) : Spc Try.prog 54 [.ex (aggE e)] fun B => .tup [ownB B [], .ex (vi 1)] := by
  refine Spc.intro Try.func54 rfl (Nat.le_of_ble_eq_true rfl) fun w0 => ?_
  have hI := hIb w0
  have hA := Own.below w0
  have k := right_fn e h
  rw [decide_eq_false hr] at k
  refine J.heap0 1000 (newB w0) ?_
  repeat (refine J.seq (J.region mixed hI (by kernel_rfl) ?_))
  refine Plan.boxC (key := 1000) rfl rfl rfl (by intro _ e; cases e; decide) rfl rfl hA fun β => ?_
  repeat (first | refine Plan.assign rfl rfl rfl rfl ?_ | refine J.seq (J.seq (J.region mixed hI (by kernel_rfl) ?_)))
  refine Plan.loadAggC (key := 1000) (q := 0) (vs := e.enc) rfl rfl rfl rfl rfl rfl obj_whole Try.underlying48 rfl (by rw [encE]; kernel_rfl) (by decide) ?_
  refine Plan.call (B := w0.heap.size) rfl rfl rfl (k) Try.func72 rfl rfl (hBb w0) (by repeat (first | exact Opnds.nil | refine Opnds.cons rfl (by exact Sub.refl _) ?_)) ?_
  repeat (first | refine Plan.assign rfl rfl rfl rfl ?_ | refine Plan.un rfl rfl rfl rfl rfl ?_ | refine J.seq (J.region mixed hI (by kernel_rfl) ?_) | refine J.condT rfl ?_)
  exact J.ret (Nrm.ret2 rfl (fun _ h => h) fun B hB => ⟨_, rfl, Ress.cons rfl (Sub.nilOwn (fun _ h => Nat.le_trans hB h.size)) (Ress.cons rfl (Sub.refl _) Ress.nil)⟩)
def encEv (w0 : World) (B β : Nat) (e : EvV) (i : Nat) : Env :=
  [(1, .ex (ptr β)), (4, ownB B (nums ((encNs e).take i))), (24, own B 3 1 (is (encNs e))), (25, .ex (vi 19)), (26, .ex (vi i)), (1000, heap (fun b => newB w0 b ∧ b < B) [obj β e.enc])]
def encM (w0 : World) (β γ δ : Nat) (e : EvV) (B1 : Option Addr) (m1 c1 : Nat) (b : List UInt8) : Env :=
  [(1, .ex (ptr β)), (4, ownB w0.heap.size b), (7, .ex (ptr γ)), (8, .ex (ptr δ)), (1000, heap (newB w0) [obj β e.enc, rowC 5 1 B1 m1 c1 (bs (nums (encNs e))), obj γ e.op, obj δ (partsV e.kind)])]
theorem u64in {x : Int} (h : small x) : IntKind.u64.wrap x = (x.toNat : Int) := by
  have h1 := h.1
  have h2 := h.2
  rw [IntKind.wrap_u64]; omega
theorem encode_yes (e : EvV) (h : e.okV) (hr : rightP e) : Spc Try.prog 54 [.ex (aggE e)] fun B => .tup [ownB B (encB e), .ex (vi 0)] := by
  refine Spc.intro Try.func54 rfl (Nat.le_of_ble_eq_true rfl) fun w0 => ?_
  have hI := hIb w0
  have hA := Own.below w0
  have k := right_fn e h
  rw [decide_eq_true hr] at k
  have hok := enc_okE hr
  have hsm := encNs_small hr
  refine J.heap0 1000 (newB w0) ?_
  refine J.seq (J.region mixed hI (by kernel_rfl) ?_)
  refine Plan.boxC (key := 1000) rfl rfl rfl (by intro _ e; cases e; decide) rfl rfl hA fun β => ?_
  repeat (refine Plan.assign rfl rfl rfl rfl ?_)
  refine J.fresh (key := 1000) rfl hA fun B hBA => ?_
  have hI := hFresh (B := B) (hIb w0)
  repeat (refine J.seq (J.seq (J.region mixed hI (by kernel_rfl) ?_)))
  refine Plan.loadAggC (key := 1000) (q := 0) (vs := e.enc) rfl rfl rfl rfl rfl rfl obj_whole Try.underlying48 rfl (by rw [encE]; kernel_rfl) (by decide) ?_
  refine Plan.call (B := 0) rfl rfl rfl (k) Try.func72 rfl rfl (fun _ _ => Nat.zero_le _) (by repeat (first | exact Opnds.nil | refine Opnds.cons rfl (by exact Sub.refl _) ?_)) ?_
  repeat (first | refine Plan.assign rfl rfl rfl rfl ?_ | refine Plan.un rfl rfl rfl rfl rfl ?_ | refine Plan.fieldC rfl rfl rfl rfl (by first | exact Try.underlying48 | exact Try.underlying42) rfl (by kernel_rfl) (by first | exact (rfl : _ = 0) | exact (rfl : _ = 1) | exact (rfl : _ = 2)) ?_ | refine Plan.loadC (key := 1000) (q := 0) rfl rfl rfl rfl rfl rfl (obj_reads1 rfl) (by exact Try.underlying3) (by rfl) (by decide) ?_ | refine J.seq (J.region mixed hI (by kernel_rfl) ?_) | refine J.seq (J.seq (J.region mixed hI (by kernel_rfl) ?_)) | refine J.condF rfl ?_ | refine J.skip ?_)
  refine Plan.litTight (B := B) (m := 3) rfl rfl rfl eltI rfl (fun _ h => h.2) rfl (by simp [Value.cells]) (by decide) ?_
  repeat (refine Plan.fieldC rfl rfl rfl rfl (by exact Try.underlying48) rfl (by kernel_rfl) (by exact (rfl : _ = 3)) ?_)
  refine Plan.sliceArr (len := 16) (sz := 1) rfl rfl rfl rfl Try.underlying44 (by kernel_rfl) ?_
  refine Plan.appendTight (key := 1000) (q := 0) (news := vList e.d) rfl rfl rfl rfl (Sub.refl _) rfl eltI rfl rfl (obj_reads rfl) rfl (by decide) (Nat.le_refl _) (by decide) (by decide) (by simp [vList, Value.oneCell']) (by simp [vList, flat, Value.cells]) ?_
  refine Plan.lenRow (m := 19) rfl rfl rfl rfl Sub.own Try.underlying120 (by simp [vList, flat, Value.cells]) (by decide) ?_
  repeat (refine Plan.move rfl rfl rfl rfl ?_)
  refine J.block (J.loop (encEv w0 B β e) (fun i => i ≤ 19) (fun i => 19 - i) 0 (Nat.zero_le _) ?_ ?_)
  · exact Weak.cons rfl (Sub.refl _) (Weak.cons rfl (Sub.nilOwn (fun _ h => h.2)) (Weak.cons rfl (Sub.of_eq rfl) (Weak.cons rfl (Sub.refl _) (Weak.cons rfl (Sub.refl _) (Weak.cons rfl (Sub.refl _) Weak.nil)))))
  intro i hi
  repeat (first | (refine Plan.ints rfl rfl rfl rfl rfl rfl ?_; (skip)) | refine J.seq (J.region mixed hI (by kernel_rfl) ?_))
  refine J.seq (J.condD rfl (fun hlt => ?_) (fun hlt => ?_))
  · have hlt' : i < (encNs e).length := by
      show i < 19
      omega
    have hsi : small ((encNs e).getD i 0) := by
      rw [List.getD_eq_getElem?_getD, List.getElem?_eq_getElem hlt']; exact hsm _ (List.getElem_mem hlt')
    have hsi' := hsi.2
    have hnl := nums_le (l := (encNs e).take i) fun x hx => hsm x (List.mem_of_mem_take hx)
    rw [List.length_take] at hnl
    repeat (refine J.skip ?_)
    refine J.seq (J.block ?_)
    repeat (refine J.seq (J.region mixed hI (by kernel_rfl) ?_))
    refine Plan.indexAddr (fun x => [vi x]) 1 (encNs e) 0 rfl rfl rfl rfl Sub.own rfl eltI (fun _ => rfl) (by omega) (by omega) ?_
    rw [Int.toNat_natCast]
    refine Plan.load rfl rfl rfl rfl (Sub.refl _) Try.underlying3 rfl ?_
    repeat (refine Plan.assign rfl rfl rfl rfl ?_)
    refine J.region mixed hI (by kernel_rfl) ?_
    refine Plan.move rfl rfl rfl rfl ?_
    refine Plan.move rfl rfl rfl rfl ?_
    refine Plan.convInt rfl rfl rfl rfl (by exact Try.underlying3) (by exact Try.underlying122) ?_
    refine Plan.int (u64in hsi) ?_
    refine Plan.call (B := B) rfl rfl rfl (vlq_Put (nums ((encNs e).take i)) ((encNs e).getD i 0).toNat (by omega) (by omega)) Try.func74 rfl rfl (fun _ h => h.2) (by repeat (first | exact Opnds.nil | refine Opnds.cons rfl (by first | exact Sub.refl _ | exact Sub.own) ?_)) ?_
    repeat (first | refine Plan.move rfl rfl rfl rfl ?_ | refine Plan.assign rfl rfl rfl rfl ?_ | (refine Plan.ints rfl rfl rfl rfl rfl rfl ?_; (refine Plan.int (i64r (by omega)) ?_)) | refine J.region mixed hI (by kernel_rfl) ?_)
    refine Plan.int (y := ((i + 1 : Nat) : Int)) (by omega) ?_
    repeat (fail)
    refine Nrm.next (i + 1) (by omega) (by omega) ?_
    exact Weak.cons rfl (Sub.refl _) (Weak.cons rfl (Sub.of_eq (by rw [nums_snoc hlt']; rfl)) (Weak.cons rfl (Sub.refl _) (Weak.cons rfl (Sub.refl _) (Weak.cons rfl (Sub.refl _) (Weak.cons rfl (Sub.refl _) Weak.nil)))))
  have hie : i = 19 := by omega
  subst hie
  refine J.exit ?_
  refine J.takeC (t := 4) (key := 1000) rfl (Sub.refl _) rfl hBA fun B1 m1 c1 hm1 => ?_
  refine J.idle (I' := fun w => Below w0.heap.size w0 w) (fun _ h => h.1) ?_
  have hI := hIb w0
  repeat (first | refine Plan.fieldC rfl rfl rfl rfl (by exact Try.underlying48) rfl (by kernel_rfl) (by exact (rfl : _ = 19)) ?_ | refine J.seq (J.region mixed hI (by kernel_rfl) ?_))
  refine Plan.loadAggC (key := 1000) (q := 0) (vs := e.op) rfl rfl rfl rfl rfl rfl (obj_reads rfl) Try.underlying46 rfl (by kernel_rfl) (by decide) ?_
  refine Plan.allocC (key := 1000) (z := .agg #[vi 0, str [], str [], str [], vi 0, vi 0, vi 0]) rfl rfl rfl (by intro _ e; cases e; decide) (by kernel_rfl) rfl hA fun γ => ?_
  refine Plan.storeC (key := 1000) (q := 2) (off := 0) rfl rfl rfl rfl rfl rfl (by simp [Value.cells, Value.oneCell', EvV.op, str]) (by show _ = some e.op.toArray.size; kernel_rfl) rfl hA rfl (obj_pat (Nat.le_of_ble_eq_true rfl)) ?_
  repeat (first | refine Plan.fieldC rfl rfl rfl rfl (by first | exact Try.underlying48 | exact Try.underlying46) rfl (by kernel_rfl) (by exact (rfl : _ = 0)) ?_ | refine Plan.loadC (key := 1000) (q := 2) rfl rfl rfl rfl rfl rfl (obj_reads1 rfl) (by exact Try.underlying3) (by rfl) (by decide) ?_ | refine J.seq (J.region mixed hI (by kernel_rfl) ?_))
  refine Plan.call (B := w0.heap.size) rfl rfl rfl (uses_fn e.kind) Try.func75 rfl rfl (hBb w0) (by repeat (first | exact Opnds.nil | refine Opnds.cons rfl (by exact Sub.refl _) ?_)) ?_
  repeat (first | refine Plan.move rfl rfl rfl rfl ?_ | refine Plan.extract rfl rfl rfl rfl rfl ?_)
  refine Plan.allocC (key := 1000) (z := .agg #[.bool false, .bool false, .bool false, .bool false]) rfl rfl rfl (by intro _ e; cases e; decide) (by kernel_rfl) rfl hA fun δ => ?_
  refine Plan.storeC (key := 1000) (q := 3) (off := 0) rfl rfl rfl rfl rfl rfl (by simp [Value.cells, Value.oneCell', partsV]) (by show _ = some (partsV e.kind).toArray.size; kernel_rfl) rfl hA rfl (obj_pat (Nat.le_of_ble_eq_true rfl)) ?_
  repeat (refine Plan.assign rfl rfl rfl rfl ?_)
  refine J.seeC (t := 4) (key := 1000) (q := 1) (xs := bs (nums (encNs e))) rfl rfl rfl (fun w F hh => row_rowH hh) ?_
  have l0 := nums_le hsm
  have l0' : (encNs e).length = 19 := rfl
  have lk := hok.kind
  have sk : small e.kind := by unfold small; omega
  have l1 := numI_le sk
  have s1 := hok.key
  have s2 := hok.field
  have s3 := hok.value
  have e1 := encB1_le hr
  have e2 := encB2_le hr
  have e3 := encB3_le hr
  have e4 := encB4_le hr
  refine J.seqMid (σ := Unit) (fun _ => encM w0 β γ δ e B1 m1 c1 (encB1 e)) (fun _ => True) ?_ fun _ _ => ?_
  · refine J.region mixed hI (by kernel_rfl) ?_
    repeat (first | refine Plan.move rfl rfl rfl rfl ?_ | (refine Plan.convInt rfl rfl rfl rfl (by exact Try.underlying3) (by first | exact Try.underlying3 | exact Try.underlying122) ?_; (refine Plan.int (u64r (by omega)) ?_)) | refine Plan.fieldC rfl rfl rfl rfl (by first | exact Try.underlying48 | exact Try.underlying46) rfl (by kernel_rfl) (by exact (rfl : _ = 0)) ?_ | refine Plan.loadC (key := 1000) (q := 2) rfl rfl rfl rfl rfl rfl (obj_reads1 rfl) (by exact Try.underlying3) (by rfl) (by decide) ?_)
    refine Plan.int (y := (e.kind.toNat : Int)) (by omega) ?_
    refine Plan.call (B := w0.heap.size) rfl rfl rfl (vlq_Put (nums (encNs e)) e.kind.toNat (by omega) (by omega)) Try.func74 rfl rfl (hBb w0) (by repeat (first | exact Opnds.nil | refine Opnds.cons rfl (by exact Sub.refl _) ?_)) ?_
    repeat (first | refine Plan.fieldC rfl rfl rfl rfl (by first | exact Try.underlying48 | exact Try.underlying46) rfl (by kernel_rfl) (by exact (rfl : _ = 1)) ?_ | refine Plan.loadC (key := 1000) (q := 2) rfl rfl rfl rfl rfl rfl (obj_reads1 rfl) (by first | exact Try.underlying3 | exact Try.underlying9) (by rfl) (by decide) ?_)
    refine Plan.call (B := w0.heap.size) rfl rfl rfl (vlq_PutText (nums (encNs e) ++ num e.kind.toNat) e.key (by rw [List.length_append]; unfold numI at l1; omega)) Try.func76 rfl rfl (hBb w0) (by repeat (first | exact Opnds.nil | refine Opnds.cons rfl (by first | exact Sub.refl _ | exact Sub.own) ?_)) ?_
    repeat (refine Plan.assign rfl rfl rfl rfl ?_)
    exact Nrm.mid () trivial (Weak.cons rfl (Sub.refl _) (Weak.cons rfl (Sub.of_eq (rfl)) (Weak.cons rfl (Sub.refl _) (Weak.cons rfl (Sub.refl _) (Weak.cons rfl (Sub.refl _) Weak.nil)))))
  refine J.seqMid (σ := Unit) (fun _ => encM w0 β γ δ e B1 m1 c1 (encB2 e)) (fun _ => True) ?_ fun _ _ => ?_
  · repeat (first | refine Plan.fieldC rfl rfl rfl rfl (by first | exact Try.underlying48 | exact Try.underlying124) rfl (by kernel_rfl) (by exact (rfl : _ = 0)) ?_ | refine J.seq (J.region mixed hI (by kernel_rfl) ?_))
    refine Plan.loadC (key := 1000) (q := 3) rfl rfl rfl rfl rfl rfl (obj_reads1 rfl) Try.underlying4 rfl (by decide) ?_
    refine J.condD rfl (fun hf => ?_) (fun hf => ?_)
    · have hy : encB2 e = _ := if_pos hf
      repeat (first | refine Plan.move rfl rfl rfl rfl ?_ | refine Plan.fieldC rfl rfl rfl rfl (by first | exact Try.underlying48 | exact Try.underlying46) rfl (by kernel_rfl) (by exact (rfl : _ = 2)) ?_ | refine Plan.loadC (key := 1000) (q := 2) rfl rfl rfl rfl rfl rfl (obj_reads1 rfl) (by first | exact Try.underlying3 | exact Try.underlying9) (by rfl) (by decide) ?_ | refine J.region mixed hI (by kernel_rfl) ?_)
      refine Plan.call (B := w0.heap.size) rfl rfl rfl (vlq_PutText (encB1 e) e.field (by omega)) Try.func76 rfl rfl (hBb w0) (by repeat (first | exact Opnds.nil | refine Opnds.cons rfl (by first | exact Sub.refl _ | exact Sub.own) ?_)) ?_
      repeat (refine Plan.assign rfl rfl rfl rfl ?_)
      exact Nrm.mid () trivial (Weak.cons rfl (Sub.refl _) (Weak.cons rfl (Sub.of_eq (by rw [hy] <;> rfl)) (Weak.cons rfl (Sub.refl _) (Weak.cons rfl (Sub.refl _) (Weak.cons rfl (Sub.refl _) Weak.nil)))))
    · have hn : encB2 e = _ := if_neg hf
      refine J.skip ?_
      exact Nrm.mid () trivial (Weak.cons rfl (Sub.refl _) (Weak.cons rfl (Sub.of_eq (by rw [hn])) (Weak.cons rfl (Sub.refl _) (Weak.cons rfl (Sub.refl _) (Weak.cons rfl (Sub.refl _) Weak.nil)))))
  refine J.seqMid (σ := Unit) (fun _ => encM w0 β γ δ e B1 m1 c1 (encB3 e)) (fun _ => True) ?_ fun _ _ => ?_
  · repeat (first | refine Plan.fieldC rfl rfl rfl rfl (by first | exact Try.underlying48 | exact Try.underlying124) rfl (by kernel_rfl) (by exact (rfl : _ = 1)) ?_ | refine J.seq (J.region mixed hI (by kernel_rfl) ?_))
    refine Plan.loadC (key := 1000) (q := 3) rfl rfl rfl rfl rfl rfl (obj_reads1 rfl) Try.underlying4 rfl (by decide) ?_
    refine J.condD rfl (fun hf => ?_) (fun hf => ?_)
    · have hy : encB3 e = _ := if_pos hf
      repeat (first | refine Plan.move rfl rfl rfl rfl ?_ | refine Plan.fieldC rfl rfl rfl rfl (by first | exact Try.underlying48 | exact Try.underlying46) rfl (by kernel_rfl) (by exact (rfl : _ = 3)) ?_ | refine Plan.loadC (key := 1000) (q := 2) rfl rfl rfl rfl rfl rfl (obj_reads1 rfl) (by first | exact Try.underlying3 | exact Try.underlying9) (by rfl) (by decide) ?_ | refine J.region mixed hI (by kernel_rfl) ?_)
      refine Plan.call (B := w0.heap.size) rfl rfl rfl (vlq_PutText (encB2 e) e.value (by omega)) Try.func76 rfl rfl (hBb w0) (by repeat (first | exact Opnds.nil | refine Opnds.cons rfl (by first | exact Sub.refl _ | exact Sub.own) ?_)) ?_
      repeat (refine Plan.assign rfl rfl rfl rfl ?_)
      exact Nrm.mid () trivial (Weak.cons rfl (Sub.refl _) (Weak.cons rfl (Sub.of_eq (by rw [hy] <;> rfl)) (Weak.cons rfl (Sub.refl _) (Weak.cons rfl (Sub.refl _) (Weak.cons rfl (Sub.refl _) Weak.nil)))))
    · have hn : encB3 e = _ := if_neg hf
      refine J.skip ?_
      exact Nrm.mid () trivial (Weak.cons rfl (Sub.refl _) (Weak.cons rfl (Sub.of_eq (by rw [hn])) (Weak.cons rfl (Sub.refl _) (Weak.cons rfl (Sub.refl _) (Weak.cons rfl (Sub.refl _) Weak.nil)))))
  refine J.seqMid (σ := Unit) (fun _ => encM w0 β γ δ e B1 m1 c1 (encB4 e)) (fun _ => True) ?_ fun _ _ => ?_
  · repeat (first | refine Plan.fieldC rfl rfl rfl rfl (by first | exact Try.underlying48 | exact Try.underlying124) rfl (by kernel_rfl) (by exact (rfl : _ = 2)) ?_ | refine J.seq (J.region mixed hI (by kernel_rfl) ?_))
    refine Plan.loadC (key := 1000) (q := 3) rfl rfl rfl rfl rfl rfl (obj_reads1 rfl) Try.underlying4 rfl (by decide) ?_
    refine J.condD rfl (fun hf => ?_) (fun hf => ?_)
    · have hy : encB4 e = _ := if_pos hf
      repeat (first | refine Plan.move rfl rfl rfl rfl ?_ | refine Plan.fieldC rfl rfl rfl rfl (by first | exact Try.underlying48 | exact Try.underlying46) rfl (by kernel_rfl) (by exact (rfl : _ = 4)) ?_ | refine Plan.loadC (key := 1000) (q := 2) rfl rfl rfl rfl rfl rfl (obj_reads1 rfl) (by exact Try.underlying3) (by rfl) (by decide) ?_ | refine J.region mixed hI (by kernel_rfl) ?_)
      refine Plan.call (B := w0.heap.size) rfl rfl rfl (vlq_PutInt (encB3 e) e.num hok.num (by omega)) Try.func77 rfl rfl (hBb w0) (by repeat (first | exact Opnds.nil | refine Opnds.cons rfl (by first | exact Sub.refl _ | exact Sub.own) ?_)) ?_
      repeat (refine Plan.assign rfl rfl rfl rfl ?_)
      exact Nrm.mid () trivial (Weak.cons rfl (Sub.refl _) (Weak.cons rfl (Sub.of_eq (by rw [hy] <;> rfl)) (Weak.cons rfl (Sub.refl _) (Weak.cons rfl (Sub.refl _) (Weak.cons rfl (Sub.refl _) Weak.nil)))))
    · have hn : encB4 e = _ := if_neg hf
      refine J.skip ?_
      exact Nrm.mid () trivial (Weak.cons rfl (Sub.refl _) (Weak.cons rfl (Sub.of_eq (by rw [hn])) (Weak.cons rfl (Sub.refl _) (Weak.cons rfl (Sub.refl _) (Weak.cons rfl (Sub.refl _) Weak.nil)))))
  refine J.seqMid (σ := Unit) (fun _ => encM w0 β γ δ e B1 m1 c1 (encB e)) (fun _ => True) ?_ fun _ _ => ?_
  · repeat (first | refine Plan.fieldC rfl rfl rfl rfl (by first | exact Try.underlying48 | exact Try.underlying124) rfl (by kernel_rfl) (by exact (rfl : _ = 3)) ?_ | refine J.seq (J.region mixed hI (by kernel_rfl) ?_))
    refine Plan.loadC (key := 1000) (q := 3) rfl rfl rfl rfl rfl rfl (obj_reads1 rfl) Try.underlying4 rfl (by decide) ?_
    refine J.condD rfl (fun hf => ?_) (fun hf => ?_)
    · have hy : encB e = _ := if_pos hf
      repeat (first | refine Plan.move rfl rfl rfl rfl ?_ | (refine Plan.convInt rfl rfl rfl rfl (by exact Try.underlying3) (by first | exact Try.underlying3 | exact Try.underlying122) ?_; (skip)) | refine Plan.fieldC rfl rfl rfl rfl (by first | exact Try.underlying48 | exact Try.underlying46 | exact Try.underlying42) rfl (by kernel_rfl) (by exact (rfl : _ = 5)) ?_ | refine Plan.loadC (key := 1000) (q := 2) rfl rfl rfl rfl rfl rfl (obj_reads1 rfl) (by exact Try.underlying3) (by rfl) (by decide) ?_ | refine J.region mixed hI (by kernel_rfl) ?_)
      have r1 := (hok.ref hf).1
      have r2 := (hok.ref hf).2
      have r1' := r1.2
      have r2' := r2.2
      have r1'' := r1.1
      have r2'' := r2.1
      have l3 := numI_le r1
      refine Plan.int (y := (e.rr.toNat : Int)) (by exact u64in r1) ?_
      refine Plan.call (B := w0.heap.size) rfl rfl rfl (vlq_Put (encB4 e) e.rr.toNat (by omega) (by omega)) Try.func74 rfl rfl (hBb w0) (by repeat (first | exact Opnds.nil | refine Opnds.cons rfl (by first | exact Sub.refl _ | exact Sub.own) ?_)) ?_
      repeat (first | (refine Plan.convInt rfl rfl rfl rfl (by exact Try.underlying3) (by first | exact Try.underlying3 | exact Try.underlying122) ?_; (refine Plan.int (u64r (by omega)) ?_)) | refine Plan.fieldC rfl rfl rfl rfl (by first | exact Try.underlying48 | exact Try.underlying46 | exact Try.underlying42) rfl (by kernel_rfl) (by first | exact (rfl : _ = 5) | exact (rfl : _ = 6)) ?_ | refine Plan.loadC (key := 1000) (q := 2) rfl rfl rfl rfl rfl rfl (obj_reads1 rfl) (by exact Try.underlying3) (by rfl) (by decide) ?_)
      refine Plan.int (y := (e.rn.toNat : Int)) (by omega) ?_
      refine Plan.call (B := w0.heap.size) rfl rfl rfl (vlq_Put (encB4 e ++ num e.rr.toNat) e.rn.toNat (by omega) (by rw [List.length_append]; unfold numI at l3; omega)) Try.func74 rfl rfl (hBb w0) (by repeat (first | exact Opnds.nil | refine Opnds.cons rfl (by first | exact Sub.refl _ | exact Sub.own) ?_)) ?_
      repeat (refine Plan.assign rfl rfl rfl rfl ?_)
      exact Nrm.mid () trivial (Weak.cons rfl (Sub.refl _) (Weak.cons rfl (Sub.of_eq (by rw [hy] <;> rfl)) (Weak.cons rfl (Sub.refl _) (Weak.cons rfl (Sub.refl _) (Weak.cons rfl (Sub.refl _) Weak.nil)))))
    · have hn : encB e = _ := if_neg hf
      refine J.skip ?_
      exact Nrm.mid () trivial (Weak.cons rfl (Sub.refl _) (Weak.cons rfl (Sub.of_eq (by rw [hn])) (Weak.cons rfl (Sub.refl _) (Weak.cons rfl (Sub.refl _) (Weak.cons rfl (Sub.refl _) Weak.nil)))))
  repeat (first | refine Plan.move rfl rfl rfl rfl ?_ | refine Plan.assign rfl rfl rfl rfl ?_ | refine J.seq (J.region mixed hI (by kernel_rfl) ?_))
  exact J.ret (Nrm.ret2 rfl (fun _ h => h) fun B hB => ⟨_, rfl, Ress.cons rfl (Sub.ownLower hB) (Ress.cons rfl (Sub.refl _) Ress.nil)⟩)
end Go.Proofs.Ytepgphflnelpoaa
end
