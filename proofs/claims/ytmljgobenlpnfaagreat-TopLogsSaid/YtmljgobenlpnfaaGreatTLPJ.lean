/-
  Laid together: TopVec, BagTopL, BagTopM, FreeMapS, FreeMapN, TopSp.
-/
import Derived.Test.YtmljgobenlpnfaaGreatTLPI
set_option linter.unusedSimpArgs false
set_option linter.unusedVariables false
set_option maxRecDepth 20000

section
namespace Go.Free
open Go.RowKit
section
variable {P : Program} {ops : Array Oper} {Q : Exit → Act → World → Prop} {n : Nat} {I : World → Prop} {E : Env} {A : Nat → Prop} {H : List Chunk} {key : Nat}
theorem Nrm.retCell {fn : Func} {R : Nat → Fa} {w0 : World} {t q β : Nat} {ty : TypeId} {td : TypeDesc} {c : Chunk} {cs : List Value} (hr : fn.results = #[.cell t ty]) (hI : ∀ w, I w → Below w0.heap.size w0 w)
    (hl : look E t = some (.ex (ptr β))) (hk : look E key = some (heap A H)) (hq : H[q]? = some c) (hrd : c.reads β 0 cs) (hu : P.underlying ty = some td) (hna : aggB td = true) (hi : (P.info? ty).map (·.size) = some cs.length)
    (hs : ∀ B, B ≤ w0.heap.size → R B = .ex (.agg cs.toArray)) : Nrm n I (FnPost P fn R w0 .ret) E := fun a w h1 h2 h3 => by
  obtain ⟨φ, hL, _⟩ := h3 key _ hk
  have hrun := cell_load (P := P) (hL.holds q _ hq) hrd hu hna hi
  have hv := h3 t _ hl
  simp only [Fa.den] at hv
  have hv' : a.tmps.getD t undef = ptr β := hv
  have hasz : (asAddr (a.tmps[t]?.getD undef)).run P w = .ok ⟨β, 0, none⟩ w := by rw [← Array.getD_eq_getD_getElem?, hv']; rfl
  refine ⟨h2.defers, .agg cs.toArray, ?_, hI w h1, fun B hB => ?_⟩
  · simp [results, hr, hasz, hrun]
  · rw [hs B hB]; simp only [Fa.den]
end
end Go.Free
namespace Go.Proofs.YtmljgobenlpnfaaGreat
open Go.Free Go.RowKit Go.Proofs
set_option maxHeartbeats 8000000
def okV (v : Nat → Int) : Prop := ∀ i, i < 16 → in64 (v i)
def maxV (v w : Nat → Int) : Nat → Int := fun i => max (v i) (w i)
theorem okV_max {v w : Nat → Int} (hv : okV v) (hw : okV w) : okV (maxV v w) := fun i hi => by
  have h1 := hv i hi
  have h2 := hw i hi
  unfold maxV in64 at *; omega
theorem set_vL (f : Nat → Int) (x : Int) : ∀ {i : Nat}, i < 16 → (vList f).set i (vi x) = vList fun j => if j = i then x else f j
  | 0, _ => rfl | 1, _ => rfl | 2, _ => rfl | 3, _ => rfl | 4, _ => rfl | 5, _ => rfl | 6, _ => rfl | 7, _ => rfl | 8, _ => rfl | 9, _ => rfl | 10, _ => rfl | 11, _ => rfl | 12, _ => rfl | 13, _ => rfl | 14, _ => rfl | 15, _ => rfl
  | _ + 16, h => absurd h (by omega)
def upTo (v w : Nat → Int) (i : Nat) : Nat → Int := fun j => if j < i then maxV v w j else v j
theorem upTo_set (v w : Nat → Int) {i : Nat} (h : i < 16) : (vList (upTo v w i)).set i (vi (maxV v w i)) = vList (upTo v w (i + 1)) := by
  rw [set_vL _ _ h]
  congr 1
  funext j
  unfold upTo
  by_cases h1 : j = i
  · subst h1; rw [if_pos rfl, if_pos (by omega)]
  · rw [if_neg h1]
    by_cases h2 : j < i
    · rw [if_pos h2, if_pos (by omega)]
    · rw [if_neg h2, if_neg (by omega)]
def joE (w0 : World) (v w : Nat → Int) (a b c : Nat) (i : Nat) : Env :=
  [(2, .ex (ptr a)), (4, .ex (ptr c)), (7, .ex (aggV w)), (8, .ex (vi i)), (1000, heap (newB w0) [obj a (vList (upTo v w i)), obj b (vList w), obj c (vList fun _ => 0)])]
theorem join_fn (v w : Nat → Int) : Spc Tryz.prog 56 [.ex (aggV v), .ex (aggV w)] fun _ => .ex (aggV (maxV v w)) := by
  refine Spc.intro Tryz.func56 rfl (Nat.le_of_ble_eq_true rfl) fun w0 => ?_
  have hI := hIb w0
  have hA := Own.below w0
  refine J.heap0 1000 (newB w0) ?_
  repeat (refine J.seq (J.region mixed hI (by kernel_rfl) ?_))
  refine Plan.boxC (key := 1000) rfl rfl rfl (by intro _ e; cases e; decide) rfl rfl hA fun a => ?_
  refine Plan.boxC (key := 1000) rfl rfl rfl (by intro _ e; cases e; decide) rfl rfl hA fun b => ?_
  refine Plan.allocC (key := 1000) (z := .agg (vList fun _ => 0).toArray) rfl rfl rfl (by intro _ e; cases e; decide) (by kernel_rfl) rfl hA fun c => ?_
  repeat (refine J.seq (J.seq (J.region mixed hI (by kernel_rfl) ?_)))
  refine Plan.loadAggC (key := 1000) (q := 1) (vs := vList w) rfl rfl rfl rfl rfl rfl obj_whole Tryz.underlying36 rfl (by kernel_rfl) (by decide) ?_
  repeat (refine Plan.move rfl rfl rfl rfl ?_)
  refine J.block (J.loop (joE w0 v w a b c) (fun i => i ≤ 16) (fun i => 16 - i) 0 (Nat.zero_le _) ?_ ?_)
  · repeat (first | exact Weak.nil | refine Weak.cons rfl (Sub.refl _) ?_)
  intro i hi
  repeat (first | (refine Plan.ints rfl rfl rfl rfl rfl rfl ?_; (skip)) | refine J.seq (J.region mixed hI (by kernel_rfl) ?_))
  refine J.seq (J.condD rfl (fun hc => ?_) (fun hc => ?_))
  · have hlt : i < 16 := by omega
    have hup : (vList (upTo v w i))[i]? = some (vi (v i)) := by rw [vList_get _ hlt]; unfold upTo; rw [if_neg (by omega)]
    repeat (refine J.skip ?_)
    refine J.seq (J.block ?_)
    repeat (first | refine Plan.move rfl rfl rfl rfl ?_ | refine J.seq (J.region mixed hI (by kernel_rfl) ?_))
    refine Plan.indexAgg (len := 16) (vs := vList w) rfl rfl rfl rfl rfl Tryz.underlying36 (by kernel_rfl) Tryz.underlying3 rfl (by omega) (by omega) (by rw [Int.toNat_natCast]; exact vList_get w hlt) ?_
    repeat (first | refine Plan.move rfl rfl rfl rfl ?_ | refine Plan.assign rfl rfl rfl rfl ?_ | refine J.region mixed hI (by kernel_rfl) ?_)
    refine Plan.indexArr (off := i) (len := 16) (sz := 1) rfl rfl rfl rfl rfl Tryz.underlying36 (by kernel_rfl) (by omega) (by omega) (by simp) ?_
    refine Plan.loadC (key := 1000) (q := 0) rfl rfl rfl rfl rfl rfl (obj_reads1 hup) Tryz.underlying3 rfl (by decide) ?_
    repeat (refine Plan.move rfl rfl rfl rfl ?_)
    refine Plan.max2 rfl rfl rfl rfl rfl ?_
    refine Plan.int (y := maxV v w i) (by unfold maxV; split <;> omega) ?_
    refine Plan.indexArr (off := i) (len := 16) (sz := 1) rfl rfl rfl rfl rfl Tryz.underlying36 (by kernel_rfl) (by omega) (by omega) (by simp) ?_
    refine Plan.storeC (key := 1000) (q := 0) rfl rfl rfl rfl rfl rfl (by simp [Value.cells, Value.oneCell']) (by kernel_rfl) rfl hA rfl (obj_pat1 (show i < 16 from hlt)) ?_
    rw [upTo_set v w hlt]
    repeat (first | refine Plan.move rfl rfl rfl rfl ?_ | (refine Plan.ints rfl rfl rfl rfl rfl rfl ?_; (refine Plan.int (i64r (by omega)) ?_)) | refine J.region mixed hI (by kernel_rfl) ?_)
    refine Plan.int (y := ((i + 1 : Nat) : Int)) (by omega) ?_
    repeat (fail)
    exact Nrm.next (i + 1) (by omega) (by omega) (by repeat (first | exact Weak.nil | refine Weak.cons rfl (Sub.refl _) ?_))
  have hie : i = 16 := by omega
  subst hie
  refine J.exit ?_
  refine J.regroup (key := 1000) [obj a (vList (maxV v w)), obj c (vList fun _ => 0)] rfl (Ent.pickC [0, 2] rfl rfl) ?_
  repeat (refine J.seq (J.region mixed hI (by kernel_rfl) ?_))
  refine Plan.loadAggC (key := 1000) (q := 0) (vs := vList (maxV v w)) rfl rfl rfl rfl rfl rfl obj_whole Tryz.underlying36 rfl (by kernel_rfl) (by decide) ?_
  refine Plan.storeC (key := 1000) (q := 1) (off := 0) rfl rfl rfl rfl rfl rfl (by simp [Value.cells, Value.oneCell', vList]) (by show _ = some (vList (maxV v w)).toArray.size; kernel_rfl) rfl hA rfl (obj_pat (Nat.le_of_ble_eq_true rfl)) ?_
  refine J.regroup (key := 1000) [obj c (vList (maxV v w))] rfl (Ent.pickC [1] rfl rfl) ?_
  exact J.ret (Nrm.retCell (key := 1000) (q := 0) rfl (fun _ h => h) rfl rfl rfl obj_whole Tryz.underlying36 rfl (by kernel_rfl) fun B _ => rfl)
def mostB (d v : Nat → Int) : Bool := (List.range 16).all fun i => decide (d i ≤ v i)
theorem mostB_iff {d v : Nat → Int} : mostB d v = true ↔ ∀ i, i < 16 → d i ≤ v i := by
  unfold mostB
  rw [List.all_eq_true]
  exact ⟨fun h i hi => of_decide_eq_true (h i (List.mem_range.2 hi)), fun h i hi => decide_eq_true (h i (List.mem_range.1 hi))⟩
theorem formedVV (zs : Array Value) (h : zs.size = 16) : (Value.agg zs).formed Tryz.prog 36 = true := by
  have hc : Tryz.prog.cellsOf 36 = 16 := by kernel_rfl
  unfold Value.formed
  rw [Tryz.underlying36]
  simp only [hc, h]
  rfl
theorem vv_cells {v : Nat → Int} (h : okV v) : CellsOk (List.replicate 16 (.int .i64)) (vList v) :=
  ⟨_, _, rfl, intF (h 0 (by decide)), _, _, rfl, intF (h 1 (by decide)), _, _, rfl, intF (h 2 (by decide)), _, _, rfl, intF (h 3 (by decide)), _, _, rfl, intF (h 4 (by decide)), _, _, rfl, intF (h 5 (by decide)), _, _, rfl, intF (h 6 (by decide)), _, _, rfl, intF (h 7 (by decide)),
   _, _, rfl, intF (h 8 (by decide)), _, _, rfl, intF (h 9 (by decide)), _, _, rfl, intF (h 10 (by decide)), _, _, rfl, intF (h 11 (by decide)), _, _, rfl, intF (h 12 (by decide)), _, _, rfl, intF (h 13 (by decide)), _, _, rfl, intF (h 14 (by decide)), _, _, rfl, intF (h 15 (by decide)), rfl⟩
theorem vList_inj {v w : Nat → Int} : vList v = vList w ↔ ∀ i, i < 16 → v i = w i := by
  constructor
  · intro h i hi
    have h1 := vList_get v hi
    rw [h, vList_get w hi] at h1
    simpa using h1.symm
  · intro h
    simp [vList, h]
theorem max_eq (d v : Nat → Int) : mostB d v = true ↔ vList (maxV d v) = vList v := by
  rw [mostB_iff, vList_inj]
  unfold maxV
  exact ⟨fun h i hi => Int.max_eq_right (h i hi), fun h i hi => by have := h i hi; omega⟩
def putV2 (v : Nat → Int) (d : Dt) : Nat → Int := fun i => if i = d.1.toNat then d.2 else v i
theorem with_fn (v : Nat → Int) (d : Dt) (hv : rightVP v) (hd : dotP d.1 d.2) (hn : d.2 = v d.1.toNat + 1) : Spc Tryz.prog 14 [.ex (aggV v), .ex (aggD d.1 d.2)] fun _ => .tup [.ex (aggV (putV2 v d)), .ex (vi 0)] := by
  refine Spc.intro Tryz.func14 rfl (Nat.le_of_ble_eq_true rfl) fun w0 => ?_
  have hI := hIb w0
  have hA := Own.below w0
  have hr : d.1.toNat < 16 := by have := hd.1; have := hd.2.1; omega
  have hr0 : (0 : Int) ≤ d.1 := hd.1
  have hr1 : d.1 < ((16 : Nat) : Int) := hd.2.1
  have hb := hv _ hr
  refine J.heap0 1000 (newB w0) ?_
  refine J.seq (J.region mixed hI (by kernel_rfl) ?_)
  refine Plan.boxC (key := 1000) rfl rfl rfl (by intro _ e; cases e; decide) rfl rfl hA fun a => ?_
  refine Plan.boxC (key := 1000) rfl rfl rfl (by intro _ e; cases e; decide) rfl rfl hA fun b => ?_
  refine Plan.allocC (key := 1000) (z := .agg (vList fun _ => 0).toArray) rfl rfl rfl (by intro _ e; cases e; decide) (by kernel_rfl) rfl hA fun c => ?_
  repeat (refine Plan.assign rfl rfl rfl rfl ?_)
  refine J.seq (J.block ?_)
  refine J.seq (J.region mixed hI (by kernel_rfl) ?_)
  refine Plan.loadAggC (key := 1000) (q := 0) (vs := vList v) rfl rfl rfl rfl rfl rfl (obj_reads rfl) Tryz.underlying36 rfl (by kernel_rfl) (by decide) ?_
  refine Plan.call (B := w0.heap.size) rfl rfl rfl (rightV_fn v) Tryz.func38 rfl rfl (hBb w0) (by repeat (first | exact Opnds.nil | refine Opnds.cons rfl (by exact Sub.refl _) ?_)) ?_
  rw [decide_eq_true hv]
  repeat (first | refine Plan.move rfl rfl rfl rfl ?_ | refine Plan.un rfl rfl rfl rfl rfl ?_)
  refine Plan.loadAggC (key := 1000) (q := 1) (vs := [vi d.1, vi d.2]) rfl rfl rfl rfl rfl rfl (obj_reads rfl) Tryz.underlying34 rfl (by kernel_rfl) (by decide) ?_
  refine Plan.call (B := w0.heap.size) rfl rfl rfl (dot_fn d.1 d.2) Tryz.func39 rfl rfl (hBb w0) (by repeat (first | exact Opnds.nil | refine Opnds.cons rfl (by exact Sub.refl _) ?_)) ?_
  rw [decide_eq_true hd]
  repeat (first | refine Plan.assign rfl rfl rfl rfl ?_ | refine Plan.pick rfl rfl rfl rfl rfl ?_ | refine Plan.un rfl rfl rfl rfl rfl ?_)
  refine J.condF rfl ?_
  refine J.seq (J.region mixed hI (by kernel_rfl) ?_)
  repeat (first | refine Plan.fieldC rfl rfl rfl rfl (by first | exact Tryz.underlying58 | exact Tryz.underlying34) rfl (by kernel_rfl) (by first | exact (rfl : _ = 0) | exact (rfl : _ = 1)) ?_ | refine Plan.loadC (key := 1000) (q := 1) rfl rfl rfl rfl rfl rfl (obj_reads1 rfl) (by exact Tryz.underlying3) (by rfl) (by decide) ?_)
  refine Plan.indexArr (off := d.1.toNat) (len := 16) (sz := 1) rfl rfl rfl rfl rfl Tryz.underlying36 (by kernel_rfl) hr0 hr1 (by simp) ?_
  refine Plan.loadC (key := 1000) (q := 0) (off := d.1.toNat) rfl rfl rfl rfl rfl rfl (obj_reads1 (vList_get v hr)) Tryz.underlying3 rfl (by decide) ?_
  refine Plan.ints rfl rfl rfl rfl rfl rfl ?_
  refine Plan.int (y := d.2) (by rw [hn]; exact i64r (by omega)) ?_
  refine Plan.ints rfl rfl rfl rfl rfl rfl ?_
  refine Plan.boolv (y := false) (by simp) ?_
  repeat (refine Plan.assign rfl rfl rfl rfl ?_)
  refine J.condF rfl ?_
  refine J.skip ?_
  refine J.seq (J.region mixed hI (by kernel_rfl) ?_)
  repeat (first | refine Plan.fieldC rfl rfl rfl rfl (by first | exact Tryz.underlying58 | exact Tryz.underlying34) rfl (by kernel_rfl) (by first | exact (rfl : _ = 0) | exact (rfl : _ = 1)) ?_ | refine Plan.loadC (key := 1000) (q := 1) rfl rfl rfl rfl rfl rfl (obj_reads1 rfl) (by exact Tryz.underlying3) (by rfl) (by decide) ?_)
  refine Plan.indexArr (off := d.1.toNat) (len := 16) (sz := 1) rfl rfl rfl rfl rfl Tryz.underlying36 (by kernel_rfl) hr0 hr1 (by simp) ?_
  refine Plan.storeC (key := 1000) (q := 0) (off := d.1.toNat) rfl rfl rfl rfl rfl rfl (by simp [Value.cells, Value.oneCell']) (by kernel_rfl) rfl hA rfl (obj_pat1 (show d.1.toNat < 16 from hr)) ?_
  have hset : (vList v).set d.1.toNat (vi d.2) = vList (putV2 v d) := set_vL v d.2 hr
  refine Plan.regroup [obj a (vList (putV2 v d)), obj b [vi d.1, vi d.2], obj c (vList fun _ => 0)] (by kernel_rfl) hI (key := 1000) rfl (Ent.sep (Ent.of_eq (congrArg (obj a) hset)) (Ent.refl _)) ?_
  repeat (fail)
  refine J.seq (J.region mixed hI (by kernel_rfl) ?_)
  refine Plan.loadAggC (key := 1000) (q := 0) (vs := vList (putV2 v d)) rfl rfl rfl rfl rfl rfl (obj_reads rfl) Tryz.underlying36 rfl (by kernel_rfl) (by decide) ?_
  refine Plan.storeC (key := 1000) (q := 2) (off := 0) rfl rfl rfl rfl rfl rfl (by simp [Value.cells, Value.oneCell', vList]) (by show _ = some (vList (putV2 v d)).toArray.size; kernel_rfl) rfl hA rfl (obj_pat (Nat.le_of_ble_eq_true rfl)) ?_
  repeat (refine Plan.assign rfl rfl rfl rfl ?_)
  exact J.ret (Nrm.retCT (key := 1000) (q := 2) rfl (fun _ h => h) rfl rfl rfl (obj_reads rfl) Tryz.underlying36 rfl (by kernel_rfl) fun B _ => ⟨_, _, rfl, rfl, Sub.refl _⟩)
instance (v : Nat → Int) (e : EvV) : Decidable (readyP v e) := by unfold readyP; infer_instance
theorem ready_most {v : Nat → Int} {e : EvV} (hr : rightP e) (hn : e.n = v e.r.toNat + 1) : mostB e.d v = decide (readyP v e) := by
  rw [Bool.eq_iff_iff, mostB_iff, decide_eq_true_eq]
  exact ⟨fun h => ⟨hr, hn, h⟩, fun h => h.2.2⟩
abbrev spCells (kv : Value) (v : Nat → Int) (t : Int) : List Value := kv :: (vList v ++ [vi t])
theorem sp_get (kv : Value) (v : Nat → Int) (t : Int) {i : Nat} (h : i < 16) : (spCells kv v t)[1 + i]? = some (vi (v i)) := by
  rw [Nat.add_comm]
  show (vList v ++ [vi t])[i]? = _
  rw [List.getElem?_append_left (by simp [vList]; omega)]
  exact vList_get v h
theorem ready_fn (σ : Nat) (kv : Value) (v : Nat → Int) (t : Int) (hv : rightVP v) (e : EvV) (he : e.okV) (hr : rightP e) : SpcR Tryz.prog 25 [.ex (ptr σ), .ex (aggE e)] (obj σ (spCells kv v t)) fun _ => .ex (.bool (decide (readyP v e))) := by
  refine SpcR.introOld Tryz.func25 rfl (Nat.le_of_ble_eq_true rfl) fun w0 => ?_
  have hI := hIb w0
  have hA := Own.below w0
  have hrn : e.r.toNat < 16 := by have := hr.1.1; have := hr.1.2.1; omega
  have hr0 : (0 : Int) ≤ e.r := hr.1.1
  have hr1 : e.r < ((16 : Nat) : Int) := hr.1.2.1
  have hb := hv _ hrn
  have hov : okV v := fun i hi => by have := hv i hi; unfold in64; omega
  have hok := okV_max (v := e.d) (w := v) (fun i hi => he.2.2.2.1 i hi) hov
  refine J.heap0 1001 (newB w0) ?_
  refine J.seq (J.region mixed hI (by kernel_rfl) ?_)
  refine Plan.boxC (key := 1001) rfl rfl rfl (by intro _ e; cases e; decide) rfl rfl hA fun α => ?_
  repeat (refine Plan.assign rfl rfl rfl rfl ?_)
  refine J.heapAgain 1000 (fun _ h => h) rfl ?_
  refine J.seq (J.seq (J.region mixed hI (by kernel_rfl) ?_))
  repeat (first | refine Plan.move rfl rfl rfl rfl ?_ | refine Plan.eqlPtr rfl rfl rfl rfl (by kernel_rfl) ?_)
  refine Plan.loadAggC (key := 1001) (q := 0) (vs := e.enc) rfl rfl rfl rfl rfl rfl obj_whole Tryz.underlying40 rfl (by rw [encE]; kernel_rfl) (by decide) ?_
  refine Plan.call (B := w0.heap.size) rfl rfl rfl (right_fn e he) Tryz.func24 rfl rfl (hBb w0) (by repeat (first | exact Opnds.nil | refine Opnds.cons rfl (by exact Sub.refl _) ?_)) ?_
  rw [decide_eq_true hr]
  repeat (first | refine Plan.move rfl rfl rfl rfl ?_ | refine Plan.pick rfl rfl rfl rfl rfl ?_ | refine Plan.un rfl rfl rfl rfl rfl ?_ | refine Plan.fieldC rfl rfl rfl rfl (by first | exact Tryz.underlying58 | exact Tryz.underlying40 | exact Tryz.underlying34) rfl (by kernel_rfl) (by first | exact (rfl : _ = 0) | exact (rfl : _ = 1)) ?_)
  refine Plan.loadC (key := 1001) (q := 0) rfl rfl rfl rfl rfl rfl (obj_reads1 rfl) Tryz.underlying3 rfl (by decide) ?_
  repeat (first | refine Plan.move rfl rfl rfl rfl ?_ | refine Plan.fieldC rfl rfl rfl rfl (by first | exact Tryz.underlying58 | exact Tryz.underlying40 | exact Tryz.underlying34) rfl (by kernel_rfl) (by exact (rfl : _ = 0)) ?_)
  refine Plan.loadC (key := 1001) (q := 0) rfl rfl rfl rfl rfl rfl (obj_reads1 rfl) Tryz.underlying3 rfl (by decide) ?_
  repeat (first | refine Plan.nilOk rfl rfl rfl rfl ?_ | refine Plan.fieldC rfl rfl rfl rfl (by first | exact Tryz.underlying58 | exact Tryz.underlying55) rfl (by kernel_rfl) (by exact (rfl : _ = 1)) ?_)
  refine Plan.indexArr (off := 1 + e.r.toNat) (len := 16) (sz := 1) rfl rfl rfl rfl rfl Tryz.underlying36 (by kernel_rfl) hr0 hr1 (by simp) ?_
  refine Plan.loadC (key := 1000) (q := 0) (off := 1 + e.r.toNat) rfl rfl rfl rfl rfl rfl (obj_reads1 (sp_get kv v t hrn)) Tryz.underlying3 rfl (by decide) ?_
  refine Plan.ints rfl rfl rfl rfl rfl rfl ?_
  refine Plan.int (y := v e.r.toNat + 1) (i64r (by omega)) ?_
  refine Plan.ints rfl rfl rfl rfl rfl rfl ?_
  by_cases hn : e.n = v e.r.toNat + 1
  case neg =>
    refine Plan.boolv (y := true) (by simp [hn]) ?_
    repeat (refine Plan.pick rfl rfl rfl rfl rfl ?_)
    refine J.condT rfl ?_
    refine J.seq (J.region mixed hI (by kernel_rfl) ?_)
    repeat (refine Plan.assign rfl rfl rfl rfl ?_)
    rw [decide_eq_false (show ¬ readyP v e from fun h => hn h.2.1)]
    exact J.ret (Nrm.ret1 rfl (fun _ h => h) rfl fun B _ => Sub.refl _)
  case pos =>
  refine Plan.boolv (y := false) (by simp [hn]) ?_
  repeat (refine Plan.pick rfl rfl rfl rfl rfl ?_)
  refine J.condF rfl ?_
  refine J.skip ?_
  refine J.seq (J.region mixed hI (by kernel_rfl) ?_)
  repeat (refine Plan.fieldC rfl rfl rfl rfl (by first | exact Tryz.underlying58 | exact Tryz.underlying40) rfl (by kernel_rfl) (by exact (rfl : _ = 3)) ?_)
  refine Plan.loadAggC (key := 1001) (q := 0) (off := 3) (vs := vList e.d) rfl rfl rfl rfl rfl rfl (obj_reads rfl) Tryz.underlying36 rfl (by kernel_rfl) (by decide) ?_
  repeat (first | refine Plan.move rfl rfl rfl rfl ?_ | refine Plan.nilOk rfl rfl rfl rfl ?_ | refine Plan.fieldC rfl rfl rfl rfl (by first | exact Tryz.underlying58 | exact Tryz.underlying55) rfl (by kernel_rfl) (by exact (rfl : _ = 1)) ?_)
  refine Plan.loadAggC (key := 1000) (q := 0) (off := 1) (vs := vList v) rfl rfl rfl rfl rfl rfl (obj_reads rfl) Tryz.underlying36 rfl (by kernel_rfl) (by decide) ?_
  refine Plan.call (B := w0.heap.size) rfl rfl rfl (join_fn e.d v) Tryz.func56 rfl rfl (hBb w0) (by repeat (first | exact Opnds.nil | refine Opnds.cons rfl (by exact Sub.refl _) ?_)) ?_
  repeat (first | refine Plan.move rfl rfl rfl rfl ?_ | refine Plan.nilOk rfl rfl rfl rfl ?_ | refine Plan.fieldC rfl rfl rfl rfl (by first | exact Tryz.underlying58 | exact Tryz.underlying55) rfl (by kernel_rfl) (by exact (rfl : _ = 1)) ?_)
  refine Plan.loadAggC (key := 1000) (q := 0) (off := 1) (vs := vList v) rfl rfl rfl rfl rfl rfl (obj_reads rfl) Tryz.underlying36 rfl (by kernel_rfl) (by decide) ?_
  refine Plan.eqAgg (m := 9) (l := List.replicate 16 (.int .i64)) (xs := vList (maxV e.d v)) (ys := vList v) (r := mostB e.d v) rfl rfl rfl rfl rfl (by decide) (by kernel_rfl) (by kernel_rfl) (by kernel_rfl) (vv_cells hok) (vv_cells hov) formedVV (max_eq e.d v) (.inl ⟨rfl, rfl⟩) ?_
  rw [ready_most hr hn]
  repeat (refine Plan.assign rfl rfl rfl rfl ?_)
  exact J.ret (Nrm.ret1 rfl (fun _ h => h) rfl fun B _ => Sub.refl _)
end Go.Proofs.YtmljgobenlpnfaaGreat
end

section
namespace Go.Proofs.YtmljgobenlpnfaaGreat
open Go.Free Go.RowKit Go.Proofs
set_option maxHeartbeats 4000000
abbrev itL (x : Dt × EvV) : List Value := itC EvV.enc x
theorem itLL (x : Dt × EvV) : (itL x).length = 28 := rfl
abbrev it0L : Dt × EvV := ((0, 0), ev0)
theorem eltItL : Elt Tryz.prog 70 80 (.agg (itL it0L).toArray) 28 248 := Elt.mk' Tryz.underlying70 (by kernel_rfl) rfl (by decide) (by decide)
theorem cmpAt_fnL (x : Dt × EvV) (d : Dt) : Spc Tryz.prog 81 [.ex (.agg (itL x).toArray), .ex (aggD d.1 d.2)] fun _ => .ex (vi (cmpD x.1 d)) := by
  refine Spc.intro Tryz.func81 rfl (Nat.le_of_ble_eq_true rfl) fun w0 => ?_
  have hI := hIb w0
  have hA := Own.below w0
  refine J.heap0 1000 (newB w0) ?_
  repeat (refine J.seq (J.region mixed hI (by kernel_rfl) ?_))
  refine Plan.boxC (key := 1000) rfl rfl rfl (by intro _ e; cases e; decide) rfl rfl hA fun β => ?_
  refine Plan.boxC (key := 1000) rfl rfl rfl (by intro _ e; cases e; decide) rfl rfl hA fun γ => ?_
  repeat (first | refine Plan.assign rfl rfl rfl rfl ?_ | refine Plan.fieldC rfl rfl rfl rfl (by first | exact Tryz.underlying58 | exact Tryz.underlying34 | exact Tryz.underlying80) rfl (by kernel_rfl) (by exact (rfl : _ = 0)) ?_ | refine Plan.loadC (key := 1000) (q := 0) rfl rfl rfl rfl rfl rfl (obj_reads1 rfl) (by exact Tryz.underlying3) (by rfl) (by decide) ?_ | refine Plan.loadC (key := 1000) (q := 1) rfl rfl rfl rfl rfl rfl (obj_reads1 rfl) (by exact Tryz.underlying3) (by rfl) (by decide) ?_ | refine J.seq (J.region mixed hI (by kernel_rfl) ?_))
  refine Plan.call (B := w0.heap.size) rfl rfl rfl (compare_fn x.1.1 d.1) Tryz.func83 rfl rfl (hBb w0) (by repeat (first | exact Opnds.nil | refine Opnds.cons rfl (by exact Sub.refl _) ?_)) ?_
  repeat (first | refine Plan.fieldC rfl rfl rfl rfl (by first | exact Tryz.underlying58 | exact Tryz.underlying34 | exact Tryz.underlying80) rfl (by kernel_rfl) (by first | exact (rfl : _ = 0) | exact (rfl : _ = 1)) ?_ | refine Plan.loadC (key := 1000) (q := 0) rfl rfl rfl rfl rfl rfl (obj_reads1 rfl) (by exact Tryz.underlying3) (by rfl) (by decide) ?_ | refine Plan.loadC (key := 1000) (q := 1) rfl rfl rfl rfl rfl rfl (obj_reads1 rfl) (by exact Tryz.underlying3) (by rfl) (by decide) ?_)
  refine Plan.call (B := w0.heap.size) rfl rfl rfl (compare_fn x.1.2 d.2) Tryz.func83 rfl rfl (hBb w0) (by repeat (first | exact Opnds.nil | refine Opnds.cons rfl (by exact Sub.refl _) ?_)) ?_
  refine Plan.lit (B := w0.heap.size) rfl rfl rfl eltI rfl (hBb w0) rfl (by simp [Value.cells]) (by decide) ?_
  refine Plan.call (B := w0.heap.size) rfl rfl rfl (or_fn [cmp3 x.1.1 d.1, cmp3 x.1.2 d.2] (by simp)) Tryz.func82 rfl rfl (hBb w0) (by repeat (first | exact Opnds.nil | refine Opnds.cons rfl (by exact Sub.own) ?_)) ?_
  repeat (refine Plan.assign rfl rfl rfl rfl ?_)
  exact J.ret (Nrm.ret1 rfl (fun _ h => h) rfl fun B _ => Sub.refl _)
def fdEL (w0 : World) (l : List (Dt × EvV)) (d : Dt) (γ : Nat) (s : Nat × Nat) : Env :=
  [(0, .old w0 (row 28 (l.flatMap itL))), (2, .ex (.func (.func 81) #[] #[])), (4, .ex (ptr γ)), (8, .ex (vi l.length)), (9, .ex (vi s.1)), (10, .ex (vi s.2)), (1000, heap (newB w0) [obj γ [vi d.1, vi d.2]])]
theorem find_fnL (l : List (Dt × EvV)) (hs : sortedD l) (hl : l.length ≤ 1000000) (d : Dt) :
    Spc Tryz.prog 80 [row 28 (l.flatMap itL), .ex (aggD d.1 d.2), .ex (.func (.func 81) #[] #[])] fun _ => .tup [.ex (vi (posD l d)), .ex (.bool (hereD l d))] := by
  refine Spc.intro Tryz.func80 rfl (Nat.le_of_ble_eq_true rfl) fun w0 => ?_
  have hI := hIb w0
  have hA := Own.below w0
  refine J.heap0 1000 (newB w0) ?_
  repeat (refine J.seq (J.region mixed hI (by kernel_rfl) ?_))
  refine Plan.boxC (key := 1000) rfl rfl rfl (by intro _ e; cases e; decide) rfl rfl hA fun γ => ?_
  repeat (first | refine Plan.move rfl rfl rfl rfl ?_ | refine Plan.assign rfl rfl rfl rfl ?_ | refine J.seq (J.region mixed hI (by kernel_rfl) ?_))
  refine Plan.lenRow (m := l.length) rfl rfl rfl rfl (Sub.old fun _ h => h) Tryz.underlying70 (by rw [flatMap_length _ 28 itLL]) (by decide) ?_
  repeat (first | refine Plan.move rfl rfl rfl rfl ?_ | refine Plan.assign rfl rfl rfl rfl ?_ | refine J.seq (J.region mixed hI (by kernel_rfl) ?_))
  refine J.seq (J.block (J.loop (fdEL w0 l d γ) (fun s => s.1 ≤ s.2 ∧ s.2 ≤ l.length ∧ (∀ k x, l[k]? = some x → k < s.1 → dlt x.1 d) ∧ ∀ k x, l[k]? = some x → s.2 ≤ k → ¬ dlt x.1 d) (fun s => s.2 - s.1) (0, l.length) ⟨Nat.zero_le _, Nat.le_refl _, fun k x _ h => by simp at h, fun k x hx h => by have := (List.getElem?_eq_some_iff.1 hx).1; simp only at h; omega⟩ ?_ ?_))
  · repeat (first | exact Weak.nil | refine Weak.cons rfl (Sub.refl _) ?_)
  rintro ⟨i, j⟩ ⟨hij, hj, hlo, hhi⟩
  simp only at hij hj hlo hhi
  repeat (first | refine Plan.move rfl rfl rfl rfl ?_ | (refine Plan.ints rfl rfl rfl rfl rfl rfl ?_; (skip)) | refine J.seq (J.seq (J.region mixed hI (by kernel_rfl) ?_)))
  refine J.condD rfl (fun hc => ?_) (fun hc => ?_)
  · have hc' : i < j := by omega
    obtain ⟨h, hh⟩ : ∃ h, h = (i + j) / 2 := ⟨_, rfl⟩
    have hhl : h < l.length := by omega
    have hx : l[h]? = some l[h] := List.getElem?_eq_getElem hhl
    have hgd : l.getD h it0L = l[h] := by rw [List.getD_eq_getElem?_getD, hx]; rfl
    repeat (refine J.skip ?_)
    refine J.block ?_
    repeat (first | refine Plan.move rfl rfl rfl rfl ?_ | (refine Plan.ints rfl rfl rfl rfl rfl rfl ?_; (refine Plan.int (i64r (by omega)) ?_)) | (refine Plan.convInt rfl rfl rfl rfl (by exact Tryz.underlying3) (by first | exact Tryz.underlying3 | exact Tryz.underlying148) ?_; (refine Plan.int (u64r (by omega)) ?_)) | refine J.seq (J.region mixed hI (by kernel_rfl) ?_))
    refine Plan.int (y := ((i + j : Nat) : Int)) (by omega) ?_
    refine Plan.shrN (q := 1) rfl rfl rfl rfl rfl (by decide) ?_
    rw [show (i + j) / 2 ^ 1 = h by rw [hh]]
    repeat (first | refine Plan.move rfl rfl rfl rfl ?_ | refine Plan.assign rfl rfl rfl rfl ?_ | (refine Plan.convInt rfl rfl rfl rfl (by first | exact Tryz.underlying3 | exact Tryz.underlying148) (by exact Tryz.underlying3) ?_; (refine Plan.int (i64r (by omega)) ?_)) | refine J.seq (J.region mixed hI (by kernel_rfl) ?_))
    refine Plan.indexAddr itL 28 l it0L rfl rfl rfl rfl (Sub.old fun _ h => h) rfl eltItL itLL (by omega) (by omega) ?_
    rw [Int.toNat_natCast, hgd]
    refine Plan.loadAggP rfl rfl rfl rfl (Sub.refl _) Tryz.underlying80 rfl (by rw [itLL]; kernel_rfl) ?_
    refine Plan.loadAggC (key := 1000) (q := 0) (vs := [vi d.1, vi d.2]) rfl rfl rfl rfl rfl rfl (obj_reads rfl) Tryz.underlying34 rfl (by kernel_rfl) (by decide) ?_
    refine Plan.callFn rfl rfl rfl rfl (vals2 rfl rfl) Tryz.func81 rfl rfl (Spc.fnCalls (cmpAt_fnL l[h] d) (fun w _ => by simp [Fa.dens, Fa.den])) ?_
    repeat ((refine Plan.ints rfl rfl rfl rfl rfl rfl ?_; (skip)))
    refine J.condD rfl (fun hc2 => ?_) (fun hc2 => ?_)
    · have hlt : dlt l[h].1 d := (cmpD_lt _ _).1 hc2
      repeat (first | refine Plan.move rfl rfl rfl rfl ?_ | refine Plan.assign rfl rfl rfl rfl ?_ | (refine Plan.ints rfl rfl rfl rfl rfl rfl ?_; (refine Plan.int (i64r (by omega)) ?_)) | refine J.region mixed hI (by kernel_rfl) ?_)
      refine Plan.int (y := ((h + 1 : Nat) : Int)) (by omega) ?_
      repeat (fail)
      refine Nrm.next (h + 1, j) ⟨by simp only; omega, hj, fun k x hk hkh => ?_, hhi⟩ (by simp only; omega) (by repeat (first | exact Weak.nil | refine Weak.cons rfl (Sub.refl _) ?_))
      rcases Nat.lt_or_ge k h with h1 | h1
      · exact dlt_trans (sorted_at hs hk hx h1) hlt
      · have : k = h := by simp only at hkh; omega
        subst this; rw [hx] at hk; cases hk; exact hlt
    · have hlt : ¬ dlt l[h].1 d := fun hd => hc2 ((cmpD_lt _ _).2 hd)
      repeat (first | refine Plan.move rfl rfl rfl rfl ?_ | refine Plan.assign rfl rfl rfl rfl ?_ | refine J.region mixed hI (by kernel_rfl) ?_)
      refine Nrm.next (i, h) ⟨by simp only; omega, by simp only; omega, hlo, fun k x hk hkh => ?_⟩ (by simp only; omega) (by repeat (first | exact Weak.nil | refine Weak.cons rfl (Sub.refl _) ?_))
      rcases Nat.lt_or_ge h k with h1 | h1
      · exact fun hd => hlt (dlt_trans (sorted_at hs hx hk h1) hd)
      · have : k = h := by simp only at hkh; omega
        subst this; rw [hx] at hk; cases hk; exact hlt
  have hie : i = j := by omega
  subst hie
  have hpos : posD l d = i := posD_of hj hlo hhi
  refine J.exit ?_
  rw [hpos]
  have hhere : hereD l d = ((l[i]?).map fun x => decide (x.1 = d)).getD false := by unfold hereD; rw [hpos]
  repeat (first | refine Plan.move rfl rfl rfl rfl ?_ | (refine Plan.ints rfl rfl rfl rfl rfl rfl ?_; (skip)) | refine J.seq (J.region mixed hI (by kernel_rfl) ?_))
  refine Plan.splitD (fun hc2 => ?_) (fun hc2 => ?_)
  · have hil : i < l.length := by omega
    have hx : l[i]? = some l[i] := List.getElem?_eq_getElem hil
    have hgd : l.getD i it0L = l[i] := by rw [List.getD_eq_getElem?_getD, hx]; rfl
    rw [hx] at hhere
    repeat (refine Plan.move rfl rfl rfl rfl ?_)
    refine Plan.indexAddr itL 28 l it0L rfl rfl rfl rfl (Sub.old fun _ h => h) rfl eltItL itLL (by omega) (by omega) ?_
    rw [Int.toNat_natCast, hgd]
    refine Plan.loadAggP rfl rfl rfl rfl (Sub.refl _) Tryz.underlying80 rfl (by rw [itLL]; kernel_rfl) ?_
    refine Plan.loadAggC (key := 1000) (q := 0) (vs := [vi d.1, vi d.2]) rfl rfl rfl rfl rfl rfl (obj_reads rfl) Tryz.underlying34 rfl (by kernel_rfl) (by decide) ?_
    refine Plan.callFn rfl rfl rfl rfl (vals2 rfl rfl) Tryz.func81 rfl rfl (Spc.fnCalls (cmpAt_fnL l[i] d) (fun w _ => by simp [Fa.dens, Fa.den])) ?_
    repeat (first | refine Plan.assign rfl rfl rfl rfl ?_ | refine Plan.pick rfl rfl rfl rfl rfl ?_ | (refine Plan.ints rfl rfl rfl rfl rfl rfl ?_; (skip)))
    have hb : (cmpD l[i].1 d == 0) = hereD l d := by
      rw [hhere]; exact beq_decide (cmpD_eq _ _)
    refine Plan.boolv hb ?_
    repeat (fail)
    exact J.ret (Nrm.ret2 rfl (fun _ h => h) fun B hB => ⟨_, rfl, Ress.cons rfl (by exact Sub.refl _) (Ress.cons rfl (by exact Sub.refl _) Ress.nil)⟩)
  · have hx : l[i]? = none := List.getElem?_eq_none (by omega)
    rw [hx] at hhere
    rw [hhere]
    repeat (first | refine Plan.assign rfl rfl rfl rfl ?_ | refine Plan.skip rfl rfl ?_ | refine Plan.pick rfl rfl rfl rfl rfl ?_)
    exact J.ret (Nrm.ret2 rfl (fun _ h => h) fun B hB => ⟨_, rfl, Ress.cons rfl (by exact Sub.refl _) (Ress.cons rfl (by exact Sub.refl _) Ress.nil)⟩)
def bagCL (β : Nat) (D : Value) (l : List (Dt × EvV)) : Chunk := exC fun p : Option Addr × Nat => sepC (obj β [.slice p.1 l.length p.2, D]) (rowC 80 28 p.1 l.length p.2 (l.flatMap itL))
theorem place_fnL (β : Nat) (D : Value) (l : List (Dt × EvV)) (hs : sortedD l) (hl : l.length ≤ 1000000) (d : Dt) : SpcR Tryz.prog 59 [.ex (ptr β), .ex (aggD d.1 d.2)] (bagCL β D l) fun _ => .tup [.ex (vi (posD l d)), .ex (.bool (hereD l d))] := by
  refine SpcR.intro Tryz.func59 rfl (Nat.le_of_ble_eq_true rfl) fun w0 => ?_
  have hI := hIb w0
  refine J.exC (key := 1000) (q := 0) rfl rfl fun x => ?_
  refine J.sepC (key := 1000) (q := 0) rfl rfl ?_
  repeat (refine J.seq (J.region mixed hI (by kernel_rfl) ?_))
  refine Plan.boxP rfl rfl rfl rfl ?_
  repeat (first | refine Plan.move rfl rfl rfl rfl ?_ | refine Plan.assign rfl rfl rfl rfl ?_ | refine J.seq (J.seq (J.region mixed hI (by kernel_rfl) ?_)))
  refine Plan.eqlPtr rfl rfl rfl rfl (by kernel_rfl) ?_
  repeat (first | refine Plan.move rfl rfl rfl rfl ?_ | refine J.seq (J.region mixed hI (by kernel_rfl) ?_) | refine J.condF rfl ?_ | refine J.skip ?_)
  refine Plan.nilOk rfl rfl rfl rfl ?_
  refine Plan.fieldC rfl rfl rfl rfl (by exact Tryz.underlying72) rfl (by kernel_rfl) (by exact (rfl : _ = 0)) ?_
  refine Plan.loadRowC (key := 1000) (q := 0) (q2 := 1) rfl rfl rfl rfl rfl rfl (obj_reads1 rfl) rfl Tryz.underlying70 (by rfl) (by decide) ?_
  refine Plan.loadAggP rfl rfl rfl rfl (Sub.refl _) Tryz.underlying34 rfl (by kernel_rfl) ?_
  refine Plan.call (B := 0) rfl rfl rfl (find_fnL l hs hl d) Tryz.func80 rfl rfl (fun _ _ => Nat.zero_le _) (Opnds.cons rfl (Sub.refl _) (Opnds.cons rfl (Sub.refl _) (Opnds.cons rfl (Sub.refl _) Opnds.nil))) ?_
  repeat (first | refine Plan.assign rfl rfl rfl rfl ?_ | refine Plan.extract rfl rfl rfl rfl rfl ?_)
  exact J.ret (Nrm.ret2 rfl (fun _ h => h) fun B hB => ⟨_, rfl, Ress.cons rfl (by exact Sub.refl _) (Ress.cons rfl (by exact Sub.refl _) Ress.nil)⟩)
theorem itOneL (x : Dt × EvV) : ∀ u ∈ itL x, u.oneCell' = true := by
  simp [itC, encTI, encTS, EvV.enc, str, Value.oneCell']
abbrev rowIL (B : Option Addr) (n cap : Nat) (xs : List Value) : Chunk := rowC 80 28 B n cap xs
theorem insert_fnL (B : Option Addr) (cap vb vc : Nat) (l : List (Dt × EvV)) (hl : l.length ≤ 1000000) (i : Nat) (hi : i ≤ l.length) (y : Dt × EvV) :
    SpcC Tryz.prog 63 [.ex (.slice B l.length cap), .ex (vi i), .ex (.slice (some ⟨vb, 0, none⟩) 1 vc)] (sepC (rowIL B l.length cap (l.flatMap itL)) (rowIL (some ⟨vb, 0, none⟩) 1 vc (itL y)))
      (fun _ : Option Addr × Nat => True) (fun x => .ex (.slice x.1 (l.length + 1) x.2)) (fun x => rowIL x.1 (l.length + 1) x.2 ((insD l i y).flatMap itL)) := by
  refine SpcC.intro2 Tryz.func63 rfl (Nat.le_of_ble_eq_true rfl) fun w1 F args hd hc => ?_
  have hI := kept_below F w1
  have hA := Own.kept F w1
  refine J.sepC (key := 1000) (q := 0) rfl rfl ?_
  refine J.factC (key := 1000) (q := 0) rfl rfl (fun w F h => row_room h) fun hrm => ?_
  obtain ⟨hr1, hr2, hr3, hr4, hr5⟩ := hrm
  refine J.factC (key := 1000) (q := 1) rfl rfl (fun w F h => row_room h) fun hrv => ?_
  obtain ⟨-, hv2, hv3, -, -⟩ := hrv
  repeat (first | refine Plan.move rfl rfl rfl rfl ?_ | refine Plan.assign rfl rfl rfl rfl ?_ | refine J.seq (J.region mixed hI (by kernel_rfl) ?_))
  refine Plan.sliceAny rfl rfl rfl rfl eltItL rfl hi ?_
  repeat (first | refine Plan.move rfl rfl rfl rfl ?_ | refine J.seq (J.region mixed hI (by kernel_rfl) ?_))
  refine Plan.lenE rfl rfl rfl rfl Tryz.underlying70 ?_
  repeat (first | refine Plan.move rfl rfl rfl rfl ?_ | refine Plan.assign rfl rfl rfl rfl ?_ | (refine Plan.ints rfl rfl rfl rfl rfl rfl ?_; (skip)) | refine J.seq (J.region mixed hI (by kernel_rfl) ?_) | refine J.seq (J.seq (J.region mixed hI (by kernel_rfl) ?_)) | refine J.condF rfl ?_ | refine J.skip ?_)
  refine Plan.lenE rfl rfl rfl rfl Tryz.underlying70 ?_
  repeat (first | refine Plan.move rfl rfl rfl rfl ?_ | refine Plan.assign rfl rfl rfl rfl ?_ | (refine Plan.ints rfl rfl rfl rfl rfl rfl ?_; (skip)) | refine J.seq (J.seq (J.region mixed hI (by kernel_rfl) ?_)))
  refine J.condE rfl (fun hin => ?_) (fun hin => ?_)
  · have hin' : i = l.length := by omega
    subst hin'
    refine J.seeC (t := 2) (key := 1000) (q := 1) rfl rfl rfl (fun w F h => row_rowH h) ?_
    repeat (first | refine Plan.move rfl rfl rfl rfl ?_ | refine J.seq (J.region mixed hI (by kernel_rfl) ?_))
    refine Plan.appendC (key := 1000) (q := 0) rfl rfl rfl rfl rfl (Sub.refl _) eltItL (by intro _ e; cases e; decide) rfl hA rfl (itOneL y) (by rw [flat_len itLL, itLL]; omega) fun B' m' cap' hm' => ?_
    have hm2 : m' = l.length + 1 := by rw [flat_len itLL, itLL] at hm'; omega
    subst hm2
    repeat (refine Plan.assign rfl rfl rfl rfl ?_)
    refine J.ret (Nrm.retC1 (key := 1000) (B', cap') rfl rfl rfl trivial (Sub.refl _) (Ent.trans Ent.left (Ent.rowEq (by simp [insD]))))
  have hlt : i < l.length := by omega
  obtain ⟨g, rfl⟩ : ∃ g, B = some ⟨g, 0, none⟩ := by
    cases B with
    | none => have := (hr4 rfl).1; omega
    | some ad => exact ⟨ad.block, by rw [← hr5 ad rfl]⟩
  refine J.convC (key := 1000) (q := 0) rfl rfl row_blk ?_
  refine J.exC (key := 1000) (q := 0) rfl rfl fun rest => ?_
  refine J.purC (key := 1000) (q := 0) rfl rfl fun hrest => ?_
  refine J.convC (key := 1000) (q := 1) rfl rfl row_blk ?_
  refine J.exC (key := 1000) (q := 1) rfl rfl fun rest2 => ?_
  refine J.purC (key := 1000) (q := 1) rfl rfl fun hrest2 => ?_
  have hfl := flat_len itLL l
  have hyl := itLL y
  have hrl := hrest.1
  rw [List.length_append] at hrl
  have e1 := flat_take itLL l i hi rest
  have hpl : ((l.take i).flatMap itL).length = i * 28 := by rw [flat_len itLL, List.length_take, Nat.min_eq_left hi]
  have hdl : ((l.drop i).flatMap itL).length = (l.length - i) * 28 := by rw [flat_len itLL, List.length_drop]
  have hone : ∀ u ∈ (l.drop i).flatMap itL, u.oneCell' = true := fun u hu => by
    obtain ⟨x, _, hx⟩ := List.mem_flatMap.1 hu
    exact itOneL x u hx
  repeat (first | refine Plan.move rfl rfl rfl rfl ?_ | (refine Plan.ints rfl rfl rfl rfl rfl rfl ?_; (refine Plan.int (i64r (by omega)) ?_)) | refine J.seq (J.seq (J.region mixed hI (by kernel_rfl) ?_)) | refine J.skip ?_)
  refine Plan.capE rfl rfl rfl rfl Tryz.underlying70 ?_
  repeat ((refine Plan.ints rfl rfl rfl rfl rfl rfl ?_; (skip)))
  refine J.condD rfl (fun hroom => ?_) (fun hroom => ?_)
  · repeat (first | refine Plan.move rfl rfl rfl rfl ?_ | refine J.seq (J.region mixed hI (by kernel_rfl) ?_))
    refine Plan.sliceHi (b0 := i) rfl rfl rfl rfl eltItL rfl (by omega) ?_
    repeat (first | refine Plan.move rfl rfl rfl rfl ?_ | (refine Plan.ints rfl rfl rfl rfl rfl rfl ?_; (refine Plan.int (i64r (by omega)) ?_)))
    refine Plan.int (y := ((l.length + 1 - i : Nat) : Int)) (by omega) ?_
    refine Plan.appendZ (key := 1000) (q := 0) rfl rfl rfl (by intro _ e; cases e; decide) rfl rfl eltItL Tryz.underlying3 rfl hA rfl (by rw [List.length_append]; omega) (by omega) (by omega) (by omega) fun β cap' rest3 h1 h2 h3 => ?_
    rw [show i + (l.length + 1 - i) = l.length + 1 by omega, e1]
    repeat (first | refine Plan.move rfl rfl rfl rfl ?_ | refine Plan.assign rfl rfl rfl rfl ?_ | refine J.seq (J.region mixed hI (by kernel_rfl) ?_))
    refine Plan.sliceLo rfl rfl rfl rfl eltItL rfl (by omega) (by omega) (by omega) ?_
    repeat (refine Plan.move rfl rfl rfl rfl ?_)
    refine Plan.copyC (key := 1000) (q := 2) (q2 := 1) (cnt := 1) (news := itL y) rfl rfl rfl (by intro _ e; cases e; decide) rfl rfl eltItL rfl hA rfl rfl (blk_reads (by simp [hyl])) (by simp only [Nat.min_def]; split <;> omega) (by rw [hyl]) (itOneL y) (by rw [List.length_append, hpl, h3, hyl]; omega) ?_
    rw [show 0 + i * 28 = i * 28 by omega, splice hpl]
    repeat (first | refine Plan.move rfl rfl rfl rfl ?_ | (refine Plan.ints rfl rfl rfl rfl rfl rfl ?_; (refine Plan.int (i64r (by omega)) ?_)) | refine J.seq (J.region mixed hI (by kernel_rfl) ?_))
    refine Plan.sliceLo (a0 := i + 1) rfl rfl rfl rfl eltItL rfl (by omega) (by omega) (by omega) ?_
    repeat (refine Plan.move rfl rfl rfl rfl ?_)
    refine Plan.sliceLo rfl rfl rfl rfl eltItL rfl (by omega) (by omega) (by omega) ?_
    have hPl : ((l.take i).flatMap itL ++ itL y).length = (i + 1) * 28 := by rw [List.length_append, hpl, hyl]; omega
    have hR3 : (rest3.drop (itL y).length).length = (cap' - i - 1) * 28 := by rw [List.length_drop, h3, hyl]; omega
    rw [← List.append_assoc]
    refine Plan.copyC (key := 1000) (q := 2) (q2 := 0) (cnt := l.length - i) (news := (l.drop i).flatMap itL) rfl rfl rfl (by intro _ e; cases e; decide) rfl rfl eltItL rfl hA rfl rfl (blk_reads (by rw [show 0 + i * 28 = i * 28 by omega]; exact flat_mid itLL l i hi rest)) (by simp only [Nat.min_def]; split <;> omega) hdl hone (by rw [List.length_append, hPl, hdl, hR3]; omega) ?_
    rw [show 0 + (i + 1) * 28 = (i + 1) * 28 by omega, splice hPl, ← List.append_assoc]
    have hins : (insD l i y).flatMap itL = (l.take i).flatMap itL ++ itL y ++ (l.drop i).flatMap itL := by simp [insD]
    repeat (first | refine Plan.move rfl rfl rfl rfl ?_ | refine Plan.assign rfl rfl rfl rfl ?_ | refine J.seq (J.region mixed hI (by kernel_rfl) ?_))
    refine J.ret (Nrm.retC1 (key := 1000) (some ⟨β, 0, none⟩, cap') rfl rfl rfl trivial (Sub.refl _) (Ent.right.trans (Ent.right.trans (Ent.left.trans ?_))))
    rw [hins]
    exact blk_row (by rw [List.length_append, List.length_append, hPl, hdl, List.length_drop, hR3]; show _ = cap' * 28; omega) (by rw [List.length_append, hPl, hdl]; omega) (show _ ≤ cap' by omega) (show cap' ≤ _ by omega)
  repeat (first | refine Plan.move rfl rfl rfl rfl ?_ | (refine Plan.ints rfl rfl rfl rfl rfl rfl ?_; (refine Plan.int (i64r (by omega)) ?_)) | refine J.seq (J.region mixed hI (by kernel_rfl) ?_) | refine J.skip ?_)
  refine Plan.sliceHi (b0 := l.length + 1) rfl rfl rfl rfl eltItL rfl (by omega) ?_
  repeat (first | refine Plan.move rfl rfl rfl rfl ?_ | refine Plan.assign rfl rfl rfl rfl ?_ | (refine Plan.ints rfl rfl rfl rfl rfl rfl ?_; (refine Plan.int (i64r (by omega)) ?_)) | refine J.seq (J.seq (J.region mixed hI (by kernel_rfl) ?_)))
  refine Plan.sliceLo (a0 := i + 1) rfl rfl rfl rfl eltItL rfl (by omega) (by omega) (by omega) ?_
  repeat (fail)
  refine Plan.overlapsC (key := 1000) (q := 1) (q2 := 0) rfl rfl rfl rfl rfl rfl rfl rfl rfl rfl eltItL rfl rfl rfl (by decide) (by rw [List.length_append]; omega) (Nat.le_of_ble_eq_true rfl) ?_
  repeat (first | refine Plan.move rfl rfl rfl rfl ?_ | (refine Plan.ints rfl rfl rfl rfl rfl rfl ?_; (refine Plan.int (i64r (by omega)) ?_)) | refine Plan.un rfl rfl rfl rfl rfl ?_ | refine J.seq (J.region mixed hI (by kernel_rfl) ?_) | refine J.condT rfl ?_)
  refine Plan.sliceLo (a0 := i + 1) rfl rfl rfl rfl eltItL rfl (by omega) (by omega) (by omega) ?_
  repeat (refine Plan.move rfl rfl rfl rfl ?_)
  refine Plan.sliceLo rfl rfl rfl rfl eltItL rfl (by omega) (by omega) (by omega) ?_
  have hL0 : (l.flatMap itL ++ rest).length = cap * 28 := hrest.1
  refine Plan.copyC (key := 1000) (q := 0) (q2 := 0) (cnt := l.length - i) (news := (l.drop i).flatMap itL) rfl rfl rfl (by intro _ e; cases e; decide) rfl rfl eltItL rfl hA rfl rfl (blk_reads (by rw [show 0 + i * 28 = i * 28 by omega]; exact flat_mid itLL l i hi rest)) (by simp only [Nat.min_def]; split <;> omega) hdl hone (by rw [hL0, hdl]; omega) ?_
  obtain ⟨mid, hmid⟩ : ∃ mid, mid = (l.flatMap itL ++ rest).take (0 + (i + 1) * 28) ++ (l.drop i).flatMap itL ++ (l.flatMap itL ++ rest).drop (0 + (i + 1) * 28 + ((l.drop i).flatMap itL).length) := ⟨_, rfl⟩
  rw [← hmid]
  have hmidl : mid.length = cap * 28 := by rw [hmid, List.length_append, List.length_append, List.length_take, List.length_drop, hL0, hdl, Nat.min_eq_left (by omega)]; omega
  repeat (first | refine Plan.move rfl rfl rfl rfl ?_ | refine J.seq (J.region mixed hI (by kernel_rfl) ?_))
  refine Plan.sliceLo (a0 := i) rfl rfl rfl rfl eltItL rfl (by omega) (by omega) (by omega) ?_
  repeat (refine Plan.move rfl rfl rfl rfl ?_)
  refine Plan.copyC (key := 1000) (q := 0) (q2 := 1) (cnt := 1) (news := itL y) rfl rfl rfl (by intro _ e; cases e; decide) rfl rfl eltItL rfl hA rfl rfl (blk_reads (by simp [hyl])) (by simp only [Nat.min_def]; split <;> omega) (by rw [hyl]) (itOneL y) (by rw [hmidl, hyl]; omega) ?_
  obtain ⟨tail, ht⟩ : ∃ tail, tail = (l.flatMap itL ++ rest).drop (0 + (i + 1) * 28 + ((l.drop i).flatMap itL).length) := ⟨_, rfl⟩
  have htl : tail.length = cap * 28 - ((i + 1) * 28 + (l.length - i) * 28) := by rw [ht, List.length_drop, hL0, hdl]; omega
  have hins : (insD l i y).flatMap itL = (l.take i).flatMap itL ++ itL y ++ (l.drop i).flatMap itL := by simp [insD]
  have hfin : mid.take (0 + i * 28) ++ itL y ++ mid.drop (0 + i * 28 + (itL y).length) = (insD l i y).flatMap itL ++ tail := by
    have hm : mid = (l.flatMap itL ++ rest).take ((i + 1) * 28) ++ ((l.drop i).flatMap itL ++ tail) := by rw [hmid, ht, List.append_assoc, Nat.zero_add]
    have hk1 : ((l.flatMap itL ++ rest).take ((i + 1) * 28)).length = (i + 1) * 28 := by rw [List.length_take, hL0, Nat.min_eq_left (by omega)]
    have a1 : mid.take (0 + i * 28) = (l.take i).flatMap itL := by
      rw [hm, Nat.zero_add, List.take_append_of_le_length (by rw [hk1]; omega), List.take_take, Nat.min_eq_left (by omega), e1]
    have a2 : mid.drop (0 + i * 28 + (itL y).length) = (l.drop i).flatMap itL ++ tail := by
      rw [hm, show 0 + i * 28 + (itL y).length = (i + 1) * 28 by rw [hyl]; omega, List.drop_left' hk1]
    rw [a1, a2, hins]; simp only [List.append_assoc]
  rw [hfin]
  repeat (first | refine Plan.move rfl rfl rfl rfl ?_ | refine Plan.assign rfl rfl rfl rfl ?_ | refine J.seq (J.region mixed hI (by kernel_rfl) ?_))
  have hil : ((insD l i y).flatMap itL).length = (l.length + 1) * 28 := by rw [flat_len itLL, insD_length]
  refine J.ret (Nrm.retC1 (key := 1000) (some ⟨g, 0, none⟩, cap) rfl rfl rfl trivial (Sub.refl _) (Ent.left.trans ?_))
  exact blk_row (by rw [List.length_append, hil, htl]; show _ = cap * 28; omega) hil (show _ ≤ cap by omega) (show cap ≤ _ by omega)
theorem delete_fnL (g cap : Nat) (l : List (Dt × EvV)) (i : Nat) (hi : i < l.length) (hl : l.length ≤ 1000000) :
    SpcC Tryz.prog 60 [.ex (.slice (some ⟨g, 0, none⟩) l.length cap), .ex (vi i), .ex (vi (i + 1 : Nat))] (rowIL (some ⟨g, 0, none⟩) l.length cap (l.flatMap itL))
      (fun _ : Unit => True) (fun _ => .ex (.slice (some ⟨g, 0, none⟩) (l.length - 1) cap)) (fun _ => rowIL (some ⟨g, 0, none⟩) (l.length - 1) cap ((l.eraseIdx i).flatMap itL)) := by
  refine SpcC.intro2 Tryz.func60 rfl (Nat.le_of_ble_eq_true rfl) fun w1 F args hd hc => ?_
  have hI := kept_below F w1
  have hA := Own.kept F w1
  refine J.convC (key := 1000) (q := 0) rfl rfl row_blk ?_
  refine J.exC (key := 1000) (q := 0) rfl rfl fun rest => ?_
  refine J.purC (key := 1000) (q := 0) rfl rfl fun hrest => ?_
  obtain ⟨hr1, hr2, hr3, hr4⟩ := hrest
  have hfl := flat_len itLL l
  have e1 := flat_take itLL l i (by omega) rest
  have hpl : ((l.take i).flatMap itL).length = i * 28 := by rw [flat_len itLL, List.length_take, Nat.min_eq_left (by omega)]
  have hdl : ((l.drop (i + 1)).flatMap itL).length = (l.length - (i + 1)) * 28 := by rw [flat_len itLL, List.length_drop]
  have hone : ∀ u ∈ (l.drop (i + 1)).flatMap itL, u.oneCell' = true := fun u hu => by
    obtain ⟨x, _, hx⟩ := List.mem_flatMap.1 hu
    exact itOneL x u hx
  have hdel : (l.eraseIdx i).flatMap itL = (l.take i).flatMap itL ++ (l.drop (i + 1)).flatMap itL := by rw [List.eraseIdx_eq_take_drop_succ, List.flatMap_append]
  repeat (first | refine Plan.move rfl rfl rfl rfl ?_ | refine Plan.assign rfl rfl rfl rfl ?_ | refine J.seq (J.region mixed hI (by kernel_rfl) ?_))
  refine Plan.lenE rfl rfl rfl rfl Tryz.underlying70 ?_
  repeat (fail)
  refine Plan.slice3 (a0 := i) (b0 := i + 1) (c0 := l.length) rfl rfl rfl rfl eltItL rfl rfl rfl (by omega) (by omega) (by omega) ?_
  repeat (first | refine Plan.move rfl rfl rfl rfl ?_ | (refine Plan.ints rfl rfl rfl rfl rfl rfl ?_; (skip)) | refine J.seq (J.seq (J.region mixed hI (by kernel_rfl) ?_)))
  refine J.condE rfl (fun hc => by omega) (fun _ => ?_)
  repeat (first | refine Plan.move rfl rfl rfl rfl ?_ | refine J.seq (J.region mixed hI (by kernel_rfl) ?_) | refine J.skip ?_)
  refine Plan.lenE rfl rfl rfl rfl Tryz.underlying70 ?_
  repeat (first | refine Plan.move rfl rfl rfl rfl ?_ | refine Plan.assign rfl rfl rfl rfl ?_ | refine J.seq (J.region mixed hI (by kernel_rfl) ?_))
  refine Plan.sliceHi (b0 := i) rfl rfl rfl rfl eltItL rfl (by omega) ?_
  repeat (refine Plan.move rfl rfl rfl rfl ?_)
  refine Plan.sliceLoB (a0 := i + 1) rfl rfl rfl rfl eltItL rfl (by omega) ?_
  refine Plan.appendBlk (key := 1000) (q := 0) (q2 := 0) (news := (l.drop (i + 1)).flatMap itL) rfl rfl rfl (by intro _ e; cases e; decide) rfl rfl eltItL rfl hA rfl rfl (blk_reads ?_) hdl hone (by omega) (by rw [hr1, hdl]; omega) ?_
  · by_cases hcap : cap = i + 1
    · have : (l.drop (i + 1)).flatMap itL = [] := List.eq_nil_of_length_eq_zero (by rw [hdl, show l.length - (i + 1) = 0 by omega, Nat.zero_mul])
      rw [this]; rfl
    · rw [if_neg hcap, Nat.zero_add]; exact flat_mid itLL l (i + 1) (by omega) rest
  obtain ⟨rest2, hrest2⟩ : ∃ r, r = (l.flatMap itL ++ rest).drop (i * 28 + ((l.drop (i + 1)).flatMap itL).length) := ⟨_, rfl⟩
  rw [← hrest2, e1, ← hdel, show i + (l.length - (i + 1)) = l.length - 1 by omega]
  have hel : ((l.eraseIdx i).flatMap itL).length = (l.length - 1) * 28 := by rw [hdel, List.length_append, hpl, hdl]; omega
  have hr2l : rest2.length = (cap - (l.length - 1)) * 28 := by rw [hrest2, List.length_drop, hr1, hdl]; omega
  repeat (first | refine Plan.move rfl rfl rfl rfl ?_ | refine Plan.assign rfl rfl rfl rfl ?_ | refine J.seq (J.region mixed hI (by kernel_rfl) ?_))
  refine Plan.lenE rfl rfl rfl rfl Tryz.underlying70 ?_
  repeat (refine Plan.move rfl rfl rfl rfl ?_)
  refine Plan.sliceMid (a0 := l.length - 1) (b0 := l.length) rfl rfl rfl rfl eltItL rfl rfl (by omega) (by omega) (by omega) ?_
  refine Plan.clearC (key := 1000) (q := 0) rfl rfl rfl rfl rfl eltItL rfl hA rfl (fun u hu => itOneL it0L u hu) (by rw [List.length_append, hel, hr2l]; omega) fun zs hzs => ?_
  have hfin : ((l.eraseIdx i).flatMap itL ++ rest2).take (0 + (l.length - 1) * 28) ++ zs ++ ((l.eraseIdx i).flatMap itL ++ rest2).drop (0 + (l.length - 1) * 28 + (l.length - (l.length - 1)) * 28) = (l.eraseIdx i).flatMap itL ++ (zs ++ rest2.drop 28) := by
    rw [Nat.zero_add, List.take_left' hel, show (l.length - 1) * 28 + (l.length - (l.length - 1)) * 28 = ((l.eraseIdx i).flatMap itL).length + 28 by rw [hel]; omega, ← List.drop_drop, List.drop_left, List.append_assoc]
  rw [hfin]
  repeat (first | refine Plan.move rfl rfl rfl rfl ?_ | refine Plan.assign rfl rfl rfl rfl ?_ | refine J.seq (J.region mixed hI (by kernel_rfl) ?_))
  refine J.ret (Nrm.retC1 (key := 1000) () rfl rfl rfl trivial (Sub.refl _) (Ent.left.trans ?_))
  exact blk_row (by rw [List.length_append, List.length_append, hel, hzs, List.length_drop, hr2l]; show _ = cap * 28; omega) hel (show _ ≤ cap by omega) (show cap ≤ _ by omega)
theorem bag_closeL {β cap : Nat} {D : Value} {l : List (Dt × EvV)} {B : Option Addr} : Ent (allC [obj β [.slice B l.length cap, D], rowIL B l.length cap (l.flatMap itL)]) (bagCL β D l) :=
  Ent.ex (B, cap) (Ent.sep (Ent.refl _) Ent.one)
theorem put_fnL (β : Nat) (D : Value) (l : List (Dt × EvV)) (hs : sortedD l) (hl : l.length ≤ 1000000) (d : Dt) (x : EvV) :
    SpcC Tryz.prog 32 [.ex (ptr β), .ex (aggD d.1 d.2), .ex (.agg (EvV.enc x).toArray)] (bagCL β D l) (fun _ : Unit => True) (fun _ => Fa.any) (fun _ => bagCL β D (putD l d x)) := by
  refine SpcC.introLow Tryz.func32 rfl (Nat.le_of_ble_eq_true rfl) fun w0 F => ?_
  have hI := kept_below F w0
  have hA := Own.kept F w0
  repeat (refine J.seq (J.region mixed hI (by kernel_rfl) ?_))
  refine Plan.boxP rfl rfl rfl rfl ?_
  refine Plan.boxP rfl rfl rfl rfl ?_
  repeat (first | refine Plan.move rfl rfl rfl rfl ?_ | refine Plan.eqlPtr rfl rfl rfl rfl (by kernel_rfl) ?_ | refine J.seq (J.region mixed hI (by kernel_rfl) ?_) | refine J.seq (J.seq (J.region mixed hI (by kernel_rfl) ?_)) | refine J.condF rfl ?_ | refine J.skip ?_)
  refine Plan.loadAggP rfl rfl rfl rfl (Sub.refl _) Tryz.underlying34 rfl (by kernel_rfl) ?_
  refine Plan.callR (key := 1000) (B := 0) (q := 0) rfl rfl rfl (place_fnL β D l hs hl d) Tryz.func59 rfl rfl (fun _ _ => Nat.zero_le _) (by repeat (first | exact Opnds.nil | refine Opnds.cons rfl (by exact Sub.refl _) ?_)) rfl rfl (by decide) ?_
  repeat (first | refine Plan.move rfl rfl rfl rfl ?_ | refine Plan.assign rfl rfl rfl rfl ?_ | refine Plan.extract rfl rfl rfl rfl rfl ?_ | refine J.seq (J.seq (J.region mixed hI (by kernel_rfl) ?_)))
  refine J.exC (key := 1000) (q := 0) rfl rfl fun p => ?_
  refine J.sepC (key := 1000) (q := 0) rfl rfl ?_
  refine J.factC (key := 1000) (q := 1) rfl rfl (fun w F h => row_room h) fun hrm => ?_
  obtain ⟨B, cap⟩ := p
  dsimp only at hrm ⊢
  refine J.cond rfl (fun hh => ?_) (fun hh => ?_)
  · obtain ⟨y, hy, hyd⟩ := here_at hh
    have hlt : posD l d < l.length := (List.getElem?_eq_some_iff.1 hy).1
    obtain ⟨g, rfl⟩ : ∃ g, B = some ⟨g, 0, none⟩ := by
      cases B with
      | none => have := (hrm.2.2.2.1 rfl).1; omega
      | some ad => exact ⟨ad.block, by rw [← hrm.2.2.2.2 ad rfl]⟩
    have hput : putD l d x = l.set (posD l d) (d, x) := by unfold putD; rw [if_pos hh]
    have hsf := set_flat (enc := EvV.enc) itLL l (posD l d) y x hy (posD l d * 28 + 2) rfl
    rw [hyd, ← hput] at hsf
    have hlen : (putD l d x).length = l.length := by rw [hput, List.length_set]
    refine J.unlow (key := 1000) rfl ?_
    repeat (first | refine Plan.move rfl rfl rfl rfl ?_ | refine Plan.nilOk rfl rfl rfl rfl ?_ | refine Plan.fieldC rfl rfl rfl rfl (by first | exact Tryz.underlying58 | exact Tryz.underlying72) rfl (by kernel_rfl) (by exact (rfl : _ = 0)) ?_ | refine Plan.loadC (key := 1000) (q := 0) rfl rfl rfl rfl rfl rfl (obj_reads1 rfl) (by first | exact Tryz.underlying3 | exact Tryz.underlying70) (by rfl) (by decide) ?_ | refine J.seq (J.region mixed hI (by kernel_rfl) ?_))
    refine Plan.loadAggP rfl rfl rfl rfl (Sub.refl _) Tryz.underlying40 rfl (by show _ = some (EvV.enc x).length; rw [encE]; kernel_rfl) ?_
    refine Plan.indexC (off := posD l d * 28) rfl rfl rfl rfl rfl eltItL hlt (by omega) ?_
    refine Plan.fieldC (off := posD l d * 28 + 2) rfl rfl rfl rfl (by exact Tryz.underlying80) rfl (by kernel_rfl) rfl ?_
    refine Plan.storeC (key := 1000) (q := 1) (off := posD l d * 28 + 2) rfl rfl rfl rfl rfl rfl (fun u hu => itOneL (d, x) u (List.mem_cons_of_mem _ (List.mem_cons_of_mem _ hu))) (by kernel_rfl) rfl hA rfl (row_pat (by rw [flat_len itLL]; show posD l d * 28 + 2 + (28 - 2) ≤ _; omega)) ?_
    repeat (fail)
    refine J.ret (Nrm.retC0 (key := 1000) () rfl rfl rfl trivial ?_ (.inr rfl))
    refine Ent.trans (Ent.sep (Ent.refl _) (Ent.sep (Ent.rowEq hsf) (Ent.refl _))) ?_
    have := bag_closeL (D := D) (β := β) (cap := cap) (l := putD l d x) (B := some ⟨g, 0, none⟩)
    rw [hlen] at this
    exact this
  · have hput : putD l d x = insD l (posD l d) (d, x) := by unfold putD; rw [if_neg (by rw [hh]; decide)]
    have hlen : (putD l d x).length = l.length + 1 := by rw [hput, insD_length]
    refine J.skip ?_
    refine J.loose2 [(0, ptr β)] [(0, .ex (ptr β))] mixed hI rfl rfl rfl (by kernel_rfl) (by kernel_rfl) (by kernel_rfl) rfl rfl (fun ⟨_, _, h⟩ => h) (fun _ _ _ _ h => h) (by repeat (first | exact Weak.nil | refine Weak.cons rfl (Sub.refl _) ?_)) ?_ ?_
    · exact Gives.cons [(0, .ex (ptr β))] (by kernel_rfl) rfl (by kernel_rfl) (Plan.move rfl rfl rfl rfl (Plan.gives rfl)) Gives.nil
    repeat (first | refine Plan.move rfl rfl rfl rfl ?_ | refine Plan.assign rfl rfl rfl rfl ?_ | refine Plan.nilOk rfl rfl rfl rfl ?_ | refine Plan.fieldC rfl rfl rfl rfl (by first | exact Tryz.underlying58 | exact Tryz.underlying72) rfl (by kernel_rfl) (by exact (rfl : _ = 0)) ?_ | refine Plan.loadC (key := 1000) (q := 0) rfl rfl rfl rfl rfl rfl (obj_reads1 rfl) (by exact Tryz.underlying70) (by rfl) (by decide) ?_)
    refine Plan.loadAggP rfl rfl rfl rfl (Sub.refl _) Tryz.underlying34 rfl (by kernel_rfl) ?_
    repeat (fail)
    refine Plan.loadAggP rfl rfl rfl rfl (Sub.refl _) Tryz.underlying40 rfl (by show _ = some (EvV.enc x).length; rw [encE]; kernel_rfl) ?_
    refine Plan.build rfl rfl rfl (Parts.cons rfl (Parts.cons rfl Parts.nil)) (cells := (itL (d, x)).toArray) (by kernel_rfl) ?_
    refine Plan.litTight (B := w0.heap.size) (m := 1) rfl rfl rfl eltItL rfl (fun w h => h.size) rfl (fun v hv => by rw [List.mem_singleton.1 hv]; rfl) (by decide) ?_
    refine Plan.callOwn (key := 1000) (q := 1) (t := 34) rfl rfl rfl (fun g => insert_fnL B cap g 1 l hl (posD l d) (posD_le l d) (d, x)) Tryz.func63 rfl rfl (by intro _ e; cases e; decide) rfl (Sub.refl _) (fun g => by repeat (first | exact Opnds.nil | refine Opnds.cons rfl (by exact Sub.refl _) ?_)) rfl hA (fun b hb => .inr hb) rfl fun y _ => ?_
    repeat (first | refine Plan.nilOk rfl rfl rfl rfl ?_ | refine Plan.fieldC rfl rfl rfl rfl (by first | exact Tryz.underlying58 | exact Tryz.underlying72) rfl (by kernel_rfl) (by exact (rfl : _ = 0)) ?_)
    refine Plan.storeC (key := 1000) (q := 0) rfl rfl rfl rfl rfl rfl (by simp [Value.cells, Value.oneCell', str]) (by kernel_rfl) rfl hA rfl (obj_pat1 (Nat.le_of_ble_eq_true rfl)) ?_
    rw [← hput, ← hlen]
    exact Nrm.retC0 (key := 1000) () rfl rfl rfl trivial (bag_closeL (D := D) (B := y.1) (cap := y.2)) (.inl rfl)
theorem remove_fnL (β : Nat) (D : Value) (l : List (Dt × EvV)) (hs : sortedD l) (hl : l.length ≤ 1000000) (d : Dt) :
    SpcC Tryz.prog 29 [.ex (ptr β), .ex (aggD d.1 d.2)] (bagCL β D l) (fun _ : Unit => True) (fun _ => .ex (.bool (hereD l d))) (fun _ => bagCL β D (remD l d)) := by
  refine SpcC.intro Tryz.func29 rfl (Nat.le_of_ble_eq_true rfl) fun w0 F => ?_
  have hI := kept_below F w0
  have hA := Own.kept F w0
  repeat (refine J.seq (J.region mixed hI (by kernel_rfl) ?_))
  refine Plan.boxP rfl rfl rfl rfl ?_
  repeat (first | refine Plan.move rfl rfl rfl rfl ?_ | refine Plan.assign rfl rfl rfl rfl ?_ | refine J.seq (J.region mixed hI (by kernel_rfl) ?_))
  refine Plan.loadAggP rfl rfl rfl rfl (Sub.refl _) Tryz.underlying34 rfl (by kernel_rfl) ?_
  refine Plan.callR (key := 1000) (B := 0) (q := 0) rfl rfl rfl (place_fnL β D l hs hl d) Tryz.func59 rfl rfl (fun _ _ => Nat.zero_le _) (by repeat (first | exact Opnds.nil | refine Opnds.cons rfl (by exact Sub.refl _) ?_)) rfl rfl (by decide) ?_
  repeat (first | refine Plan.move rfl rfl rfl rfl ?_ | refine Plan.assign rfl rfl rfl rfl ?_ | refine Plan.extract rfl rfl rfl rfl rfl ?_ | refine J.seq (J.seq (J.region mixed hI (by kernel_rfl) ?_)))
  refine J.cond (b := hereD l d) rfl (fun hh => ?_) (fun hh => ?_)
  · obtain ⟨y, hy, hyd⟩ := here_at hh
    have hlt : posD l d < l.length := (List.getElem?_eq_some_iff.1 hy).1
    have hrem : remD l d = l.eraseIdx (posD l d) := by unfold remD; rw [if_pos hh]
    have hlen : (remD l d).length = l.length - 1 := by rw [hrem, List.length_eraseIdx, if_pos hlt]
    refine J.exC (key := 1000) (q := 0) rfl rfl fun p => ?_
    refine J.sepC (key := 1000) (q := 0) rfl rfl ?_
    refine J.factC (key := 1000) (q := 1) rfl rfl (fun w F h => row_room h) fun hrm => ?_
    obtain ⟨B, cap⟩ := p
    dsimp only at hrm ⊢
    obtain ⟨g, rfl⟩ : ∃ g, B = some ⟨g, 0, none⟩ := by
      cases B with
      | none => have := (hrm.2.2.2.1 rfl).1; omega
      | some ad => exact ⟨ad.block, by rw [← hrm.2.2.2.2 ad rfl]⟩
    repeat (first | refine Plan.move rfl rfl rfl rfl ?_ | (refine Plan.ints rfl rfl rfl rfl rfl rfl ?_; (refine Plan.int (i64r (by omega)) ?_)) | refine Plan.nilOk rfl rfl rfl rfl ?_ | refine Plan.fieldC rfl rfl rfl rfl (by first | exact Tryz.underlying58 | exact Tryz.underlying72) rfl (by kernel_rfl) (by exact (rfl : _ = 0)) ?_ | refine Plan.loadC (key := 1000) (q := 0) rfl rfl rfl rfl rfl rfl (obj_reads1 rfl) (by first | exact Tryz.underlying3 | exact Tryz.underlying70) (by rfl) (by decide) ?_ | refine J.region mixed hI (by kernel_rfl) ?_)
    refine Plan.int (y := ((posD l d + 1 : Nat) : Int)) (by omega) ?_
    refine Plan.callC (key := 1000) (q := 1) rfl rfl rfl (delete_fnL g cap l (posD l d) hlt hl) Tryz.func60 rfl rfl (by intro _ e; cases e; decide) (by repeat (first | exact Opnds.nil | refine Opnds.cons rfl (by exact Sub.refl _) ?_)) rfl hA rfl ?_
    intro _ _
    repeat (first | refine Plan.nilOk rfl rfl rfl rfl ?_ | refine Plan.fieldC rfl rfl rfl rfl (by first | exact Tryz.underlying58 | exact Tryz.underlying72) rfl (by kernel_rfl) (by exact (rfl : _ = 0)) ?_)
    refine Plan.storeC (key := 1000) (q := 0) rfl rfl rfl rfl rfl rfl (by simp [Value.cells, Value.oneCell', str]) (by kernel_rfl) rfl hA rfl (obj_pat1 (Nat.le_of_ble_eq_true rfl)) ?_
    rw [← hrem, ← hlen, hh]
    repeat (first | refine Plan.move rfl rfl rfl rfl ?_ | refine Plan.assign rfl rfl rfl rfl ?_ | refine J.seq (J.region mixed hI (by kernel_rfl) ?_))
    exact J.ret (Nrm.retC1 (key := 1000) () rfl rfl rfl trivial (Sub.refl _) (bag_closeL (D := D) (B := some ⟨g, 0, none⟩) (cap := cap)))
  · have hrem : remD l d = l := by unfold remD; rw [hh]; rfl
    rw [hrem, hh]
    repeat (first | refine Plan.move rfl rfl rfl rfl ?_ | refine Plan.assign rfl rfl rfl rfl ?_ | refine J.seq (J.region mixed hI (by kernel_rfl) ?_) | refine J.skip ?_)
    exact J.ret (Nrm.retC1 (key := 1000) () rfl rfl rfl trivial (Sub.refl _) Ent.one)
theorem clone_fnL (l : List (Dt × EvV)) (hl : l.length ≤ 1000000) : Spc Tryz.prog 57 [row 28 (l.flatMap itL)] fun B => own B 80 28 (l.flatMap itL) := by
  refine Spc.intro Tryz.func57 rfl (Nat.le_of_ble_eq_true rfl) fun w0 => ?_
  have hI := hIb w0
  repeat (first | refine Plan.move rfl rfl rfl rfl ?_ | refine Plan.assign rfl rfl rfl rfl ?_ | refine J.seq (J.region mixed hI (by kernel_rfl) ?_) | refine J.seq (J.seq (J.region mixed hI (by kernel_rfl) ?_)))
  refine Plan.eqlNil rfl rfl rfl rfl (Sub.old fun _ h => h) Tryz.underlying70 ?_
  repeat (fail)
  refine J.condNil rfl (fun he => ?_) ?_
  · rw [he]
    repeat (first | refine Plan.assign rfl rfl rfl rfl ?_ | refine J.seq (J.region mixed hI (by kernel_rfl) ?_))
    exact J.ret (Nrm.ret1 rfl (fun _ h => h) rfl fun B hB => by first | exact Sub.refl _ | exact Sub.own | exact Sub.old (fun _ h => h) | exact Sub.oldOwn (fun _ h => h) | exact Sub.nilRow | exact Sub.ownLower hB | exact Sub.nilOwn (fun _ h => Nat.le_trans hB h.size))
  · repeat (first | refine J.seq (J.region mixed hI (by kernel_rfl) ?_) | refine J.skip ?_)
    refine Plan.lit (B := w0.heap.size) (vs := []) rfl rfl rfl eltItL rfl (hBb w0) rfl (by simp [Value.cells]) (by decide) ?_
    repeat (refine Plan.move rfl rfl rfl rfl ?_)
    refine Plan.append (news := l.flatMap itL) rfl rfl rfl rfl (Sub.refl _) rfl (Sub.old fun _ h => h) eltItL (by intro d hd; cases hd; decide) (hGb w0) (fun u hu => by
      obtain ⟨x, _, hx⟩ := List.mem_flatMap.1 hu
      exact itOneL x u hx) (by simp only [flat, List.flatMap_nil, List.length_nil]; rw [flat_len itLL]; omega) ?_
    repeat (refine Plan.assign rfl rfl rfl rfl ?_)
    exact J.ret (Nrm.ret1 rfl (fun _ h => h) rfl fun B hB => by first | exact Sub.refl _ | exact Sub.own | exact Sub.old (fun _ h => h) | exact Sub.oldOwn (fun _ h => h) | exact Sub.nilRow | exact Sub.ownLower hB | exact Sub.nilOwn (fun _ h => Nat.le_trans hB h.size))
theorem items_fnL (β : Nat) (D : Value) (l : List (Dt × EvV)) (hl : l.length ≤ 1000000) : SpcR Tryz.prog 27 [.ex (ptr β)] (bagCL β D l) fun B => own B 80 28 (l.flatMap itL) := by
  refine SpcR.intro Tryz.func27 rfl (Nat.le_of_ble_eq_true rfl) fun w0 => ?_
  have hI := hIb w0
  refine J.exC (key := 1000) (q := 0) rfl rfl fun x => ?_
  refine J.sepC (key := 1000) (q := 0) rfl rfl ?_
  repeat (first | refine Plan.move rfl rfl rfl rfl ?_ | refine Plan.assign rfl rfl rfl rfl ?_ | refine J.seq (J.region mixed hI (by kernel_rfl) ?_) | refine J.seq (J.seq (J.region mixed hI (by kernel_rfl) ?_)))
  refine Plan.eqlPtr rfl rfl rfl rfl (by kernel_rfl) ?_
  repeat (first | refine Plan.move rfl rfl rfl rfl ?_ | refine J.seq (J.region mixed hI (by kernel_rfl) ?_) | refine J.condF rfl ?_ | refine J.skip ?_)
  refine Plan.nilOk rfl rfl rfl rfl ?_
  refine Plan.fieldC rfl rfl rfl rfl (by exact Tryz.underlying72) rfl (by kernel_rfl) (by exact (rfl : _ = 0)) ?_
  refine Plan.loadRowC (key := 1000) (q := 0) (q2 := 1) rfl rfl rfl rfl rfl rfl (obj_reads1 rfl) rfl Tryz.underlying70 (by rfl) (by decide) ?_
  refine Plan.call (B := w0.heap.size) rfl rfl rfl (clone_fnL l hl) Tryz.func57 rfl rfl (hBb w0) (by repeat (first | exact Opnds.nil | refine Opnds.cons rfl (by exact Sub.refl _) ?_)) ?_
  repeat (refine Plan.assign rfl rfl rfl rfl ?_)
  exact J.ret (Nrm.ret1 rfl (fun _ h => h) rfl fun B hB => by first | exact Sub.refl _ | exact Sub.own | exact Sub.old (fun _ h => h) | exact Sub.oldOwn (fun _ h => h) | exact Sub.nilRow | exact Sub.ownLower hB | exact Sub.nilOwn (fun _ h => Nat.le_trans hB h.size))
end Go.Proofs.YtmljgobenlpnfaaGreat
end

section
namespace Go.Proofs.YtmljgobenlpnfaaGreat
open Go.Free Go.RowKit Go.Proofs
set_option maxHeartbeats 4000000
def encT (x : EvV × Dt) : List Value := x.1.enc ++ [vi x.2.1, vi x.2.2]
theorem encT_len (x : EvV × Dt) : (encT x).length = 28 := rfl
abbrev ptr1 (β : Nat) : Value := .pointer (some ⟨β, 1, none⟩)
abbrev itM (x : Dt × (EvV × Dt)) : List Value := itC encT x
theorem itLM (x : Dt × (EvV × Dt)) : (itM x).length = 30 := rfl
abbrev it0M : Dt × (EvV × Dt) := ((0, 0), (ev0, (0, 0)))
theorem eltItM : Elt Tryz.prog 73 99 (.agg (itM it0M).toArray) 30 264 := Elt.mk' Tryz.underlying73 (by kernel_rfl) rfl (by decide) (by decide)
theorem cmpAt_fnM (x : Dt × (EvV × Dt)) (d : Dt) : Spc Tryz.prog 85 [.ex (.agg (itM x).toArray), .ex (aggD d.1 d.2)] fun _ => .ex (vi (cmpD x.1 d)) := by
  refine Spc.intro Tryz.func85 rfl (Nat.le_of_ble_eq_true rfl) fun w0 => ?_
  have hI := hIb w0
  have hA := Own.below w0
  refine J.heap0 1000 (newB w0) ?_
  repeat (refine J.seq (J.region mixed hI (by kernel_rfl) ?_))
  refine Plan.boxC (key := 1000) rfl rfl rfl (by intro _ e; cases e; decide) rfl rfl hA fun β => ?_
  refine Plan.boxC (key := 1000) rfl rfl rfl (by intro _ e; cases e; decide) rfl rfl hA fun γ => ?_
  repeat (first | refine Plan.assign rfl rfl rfl rfl ?_ | refine Plan.fieldC rfl rfl rfl rfl (by first | exact Tryz.underlying58 | exact Tryz.underlying34 | exact Tryz.underlying99) rfl (by kernel_rfl) (by exact (rfl : _ = 0)) ?_ | refine Plan.loadC (key := 1000) (q := 0) rfl rfl rfl rfl rfl rfl (obj_reads1 rfl) (by exact Tryz.underlying3) (by rfl) (by decide) ?_ | refine Plan.loadC (key := 1000) (q := 1) rfl rfl rfl rfl rfl rfl (obj_reads1 rfl) (by exact Tryz.underlying3) (by rfl) (by decide) ?_ | refine J.seq (J.region mixed hI (by kernel_rfl) ?_))
  refine Plan.call (B := w0.heap.size) rfl rfl rfl (compare_fn x.1.1 d.1) Tryz.func83 rfl rfl (hBb w0) (by repeat (first | exact Opnds.nil | refine Opnds.cons rfl (by exact Sub.refl _) ?_)) ?_
  repeat (first | refine Plan.fieldC rfl rfl rfl rfl (by first | exact Tryz.underlying58 | exact Tryz.underlying34 | exact Tryz.underlying99) rfl (by kernel_rfl) (by first | exact (rfl : _ = 0) | exact (rfl : _ = 1)) ?_ | refine Plan.loadC (key := 1000) (q := 0) rfl rfl rfl rfl rfl rfl (obj_reads1 rfl) (by exact Tryz.underlying3) (by rfl) (by decide) ?_ | refine Plan.loadC (key := 1000) (q := 1) rfl rfl rfl rfl rfl rfl (obj_reads1 rfl) (by exact Tryz.underlying3) (by rfl) (by decide) ?_)
  refine Plan.call (B := w0.heap.size) rfl rfl rfl (compare_fn x.1.2 d.2) Tryz.func83 rfl rfl (hBb w0) (by repeat (first | exact Opnds.nil | refine Opnds.cons rfl (by exact Sub.refl _) ?_)) ?_
  refine Plan.lit (B := w0.heap.size) rfl rfl rfl eltI rfl (hBb w0) rfl (by simp [Value.cells]) (by decide) ?_
  refine Plan.call (B := w0.heap.size) rfl rfl rfl (or_fn [cmp3 x.1.1 d.1, cmp3 x.1.2 d.2] (by simp)) Tryz.func82 rfl rfl (hBb w0) (by repeat (first | exact Opnds.nil | refine Opnds.cons rfl (by exact Sub.own) ?_)) ?_
  repeat (refine Plan.assign rfl rfl rfl rfl ?_)
  exact J.ret (Nrm.ret1 rfl (fun _ h => h) rfl fun B _ => Sub.refl _)
def fdEM (w0 : World) (l : List (Dt × (EvV × Dt))) (d : Dt) (γ : Nat) (s : Nat × Nat) : Env :=
  [(0, .old w0 (row 30 (l.flatMap itM))), (2, .ex (.func (.func 85) #[] #[])), (4, .ex (ptr γ)), (8, .ex (vi l.length)), (9, .ex (vi s.1)), (10, .ex (vi s.2)), (1000, heap (newB w0) [obj γ [vi d.1, vi d.2]])]
theorem find_fnM (l : List (Dt × (EvV × Dt))) (hs : sortedD l) (hl : l.length ≤ 1000000) (d : Dt) :
    Spc Tryz.prog 84 [row 30 (l.flatMap itM), .ex (aggD d.1 d.2), .ex (.func (.func 85) #[] #[])] fun _ => .tup [.ex (vi (posD l d)), .ex (.bool (hereD l d))] := by
  refine Spc.intro Tryz.func84 rfl (Nat.le_of_ble_eq_true rfl) fun w0 => ?_
  have hI := hIb w0
  have hA := Own.below w0
  refine J.heap0 1000 (newB w0) ?_
  repeat (refine J.seq (J.region mixed hI (by kernel_rfl) ?_))
  refine Plan.boxC (key := 1000) rfl rfl rfl (by intro _ e; cases e; decide) rfl rfl hA fun γ => ?_
  repeat (first | refine Plan.move rfl rfl rfl rfl ?_ | refine Plan.assign rfl rfl rfl rfl ?_ | refine J.seq (J.region mixed hI (by kernel_rfl) ?_))
  refine Plan.lenRow (m := l.length) rfl rfl rfl rfl (Sub.old fun _ h => h) Tryz.underlying73 (by rw [flatMap_length _ 30 itLM]) (by decide) ?_
  repeat (first | refine Plan.move rfl rfl rfl rfl ?_ | refine Plan.assign rfl rfl rfl rfl ?_ | refine J.seq (J.region mixed hI (by kernel_rfl) ?_))
  refine J.seq (J.block (J.loop (fdEM w0 l d γ) (fun s => s.1 ≤ s.2 ∧ s.2 ≤ l.length ∧ (∀ k x, l[k]? = some x → k < s.1 → dlt x.1 d) ∧ ∀ k x, l[k]? = some x → s.2 ≤ k → ¬ dlt x.1 d) (fun s => s.2 - s.1) (0, l.length) ⟨Nat.zero_le _, Nat.le_refl _, fun k x _ h => by simp at h, fun k x hx h => by have := (List.getElem?_eq_some_iff.1 hx).1; simp only at h; omega⟩ ?_ ?_))
  · repeat (first | exact Weak.nil | refine Weak.cons rfl (Sub.refl _) ?_)
  rintro ⟨i, j⟩ ⟨hij, hj, hlo, hhi⟩
  simp only at hij hj hlo hhi
  repeat (first | refine Plan.move rfl rfl rfl rfl ?_ | (refine Plan.ints rfl rfl rfl rfl rfl rfl ?_; (skip)) | refine J.seq (J.seq (J.region mixed hI (by kernel_rfl) ?_)))
  refine J.condD rfl (fun hc => ?_) (fun hc => ?_)
  · have hc' : i < j := by omega
    obtain ⟨h, hh⟩ : ∃ h, h = (i + j) / 2 := ⟨_, rfl⟩
    have hhl : h < l.length := by omega
    have hx : l[h]? = some l[h] := List.getElem?_eq_getElem hhl
    have hgd : l.getD h it0M = l[h] := by rw [List.getD_eq_getElem?_getD, hx]; rfl
    repeat (refine J.skip ?_)
    refine J.block ?_
    repeat (first | refine Plan.move rfl rfl rfl rfl ?_ | (refine Plan.ints rfl rfl rfl rfl rfl rfl ?_; (refine Plan.int (i64r (by omega)) ?_)) | (refine Plan.convInt rfl rfl rfl rfl (by exact Tryz.underlying3) (by first | exact Tryz.underlying3 | exact Tryz.underlying148) ?_; (refine Plan.int (u64r (by omega)) ?_)) | refine J.seq (J.region mixed hI (by kernel_rfl) ?_))
    refine Plan.int (y := ((i + j : Nat) : Int)) (by omega) ?_
    refine Plan.shrN (q := 1) rfl rfl rfl rfl rfl (by decide) ?_
    rw [show (i + j) / 2 ^ 1 = h by rw [hh]]
    repeat (first | refine Plan.move rfl rfl rfl rfl ?_ | refine Plan.assign rfl rfl rfl rfl ?_ | (refine Plan.convInt rfl rfl rfl rfl (by first | exact Tryz.underlying3 | exact Tryz.underlying148) (by exact Tryz.underlying3) ?_; (refine Plan.int (i64r (by omega)) ?_)) | refine J.seq (J.region mixed hI (by kernel_rfl) ?_))
    refine Plan.indexAddr itM 30 l it0M rfl rfl rfl rfl (Sub.old fun _ h => h) rfl eltItM itLM (by omega) (by omega) ?_
    rw [Int.toNat_natCast, hgd]
    refine Plan.loadAggP rfl rfl rfl rfl (Sub.refl _) Tryz.underlying99 rfl (by rw [itLM]; kernel_rfl) ?_
    refine Plan.loadAggC (key := 1000) (q := 0) (vs := [vi d.1, vi d.2]) rfl rfl rfl rfl rfl rfl (obj_reads rfl) Tryz.underlying34 rfl (by kernel_rfl) (by decide) ?_
    refine Plan.callFn rfl rfl rfl rfl (vals2 rfl rfl) Tryz.func85 rfl rfl (Spc.fnCalls (cmpAt_fnM l[h] d) (fun w _ => by simp [Fa.dens, Fa.den])) ?_
    repeat ((refine Plan.ints rfl rfl rfl rfl rfl rfl ?_; (skip)))
    refine J.condD rfl (fun hc2 => ?_) (fun hc2 => ?_)
    · have hlt : dlt l[h].1 d := (cmpD_lt _ _).1 hc2
      repeat (first | refine Plan.move rfl rfl rfl rfl ?_ | refine Plan.assign rfl rfl rfl rfl ?_ | (refine Plan.ints rfl rfl rfl rfl rfl rfl ?_; (refine Plan.int (i64r (by omega)) ?_)) | refine J.region mixed hI (by kernel_rfl) ?_)
      refine Plan.int (y := ((h + 1 : Nat) : Int)) (by omega) ?_
      repeat (fail)
      refine Nrm.next (h + 1, j) ⟨by simp only; omega, hj, fun k x hk hkh => ?_, hhi⟩ (by simp only; omega) (by repeat (first | exact Weak.nil | refine Weak.cons rfl (Sub.refl _) ?_))
      rcases Nat.lt_or_ge k h with h1 | h1
      · exact dlt_trans (sorted_at hs hk hx h1) hlt
      · have : k = h := by simp only at hkh; omega
        subst this; rw [hx] at hk; cases hk; exact hlt
    · have hlt : ¬ dlt l[h].1 d := fun hd => hc2 ((cmpD_lt _ _).2 hd)
      repeat (first | refine Plan.move rfl rfl rfl rfl ?_ | refine Plan.assign rfl rfl rfl rfl ?_ | refine J.region mixed hI (by kernel_rfl) ?_)
      refine Nrm.next (i, h) ⟨by simp only; omega, by simp only; omega, hlo, fun k x hk hkh => ?_⟩ (by simp only; omega) (by repeat (first | exact Weak.nil | refine Weak.cons rfl (Sub.refl _) ?_))
      rcases Nat.lt_or_ge h k with h1 | h1
      · exact fun hd => hlt (dlt_trans (sorted_at hs hx hk h1) hd)
      · have : k = h := by simp only at hkh; omega
        subst this; rw [hx] at hk; cases hk; exact hlt
  have hie : i = j := by omega
  subst hie
  have hpos : posD l d = i := posD_of hj hlo hhi
  refine J.exit ?_
  rw [hpos]
  have hhere : hereD l d = ((l[i]?).map fun x => decide (x.1 = d)).getD false := by unfold hereD; rw [hpos]
  repeat (first | refine Plan.move rfl rfl rfl rfl ?_ | (refine Plan.ints rfl rfl rfl rfl rfl rfl ?_; (skip)) | refine J.seq (J.region mixed hI (by kernel_rfl) ?_))
  refine Plan.splitD (fun hc2 => ?_) (fun hc2 => ?_)
  · have hil : i < l.length := by omega
    have hx : l[i]? = some l[i] := List.getElem?_eq_getElem hil
    have hgd : l.getD i it0M = l[i] := by rw [List.getD_eq_getElem?_getD, hx]; rfl
    rw [hx] at hhere
    repeat (refine Plan.move rfl rfl rfl rfl ?_)
    refine Plan.indexAddr itM 30 l it0M rfl rfl rfl rfl (Sub.old fun _ h => h) rfl eltItM itLM (by omega) (by omega) ?_
    rw [Int.toNat_natCast, hgd]
    refine Plan.loadAggP rfl rfl rfl rfl (Sub.refl _) Tryz.underlying99 rfl (by rw [itLM]; kernel_rfl) ?_
    refine Plan.loadAggC (key := 1000) (q := 0) (vs := [vi d.1, vi d.2]) rfl rfl rfl rfl rfl rfl (obj_reads rfl) Tryz.underlying34 rfl (by kernel_rfl) (by decide) ?_
    refine Plan.callFn rfl rfl rfl rfl (vals2 rfl rfl) Tryz.func85 rfl rfl (Spc.fnCalls (cmpAt_fnM l[i] d) (fun w _ => by simp [Fa.dens, Fa.den])) ?_
    repeat (first | refine Plan.assign rfl rfl rfl rfl ?_ | refine Plan.pick rfl rfl rfl rfl rfl ?_ | (refine Plan.ints rfl rfl rfl rfl rfl rfl ?_; (skip)))
    have hb : (cmpD l[i].1 d == 0) = hereD l d := by
      rw [hhere]; exact beq_decide (cmpD_eq _ _)
    refine Plan.boolv hb ?_
    repeat (fail)
    exact J.ret (Nrm.ret2 rfl (fun _ h => h) fun B hB => ⟨_, rfl, Ress.cons rfl (by exact Sub.refl _) (Ress.cons rfl (by exact Sub.refl _) Ress.nil)⟩)
  · have hx : l[i]? = none := List.getElem?_eq_none (by omega)
    rw [hx] at hhere
    rw [hhere]
    repeat (first | refine Plan.assign rfl rfl rfl rfl ?_ | refine Plan.skip rfl rfl ?_ | refine Plan.pick rfl rfl rfl rfl rfl ?_)
    exact J.ret (Nrm.ret2 rfl (fun _ h => h) fun B hB => ⟨_, rfl, Ress.cons rfl (by exact Sub.refl _) (Ress.cons rfl (by exact Sub.refl _) Ress.nil)⟩)
def bagCM (β : Nat) (D : Value) (l : List (Dt × (EvV × Dt))) : Chunk := exC fun p : Option Addr × Nat => sepC (obj β [D, .slice p.1 l.length p.2]) (rowC 99 30 p.1 l.length p.2 (l.flatMap itM))
theorem place_fnM (β : Nat) (D : Value) (l : List (Dt × (EvV × Dt))) (hs : sortedD l) (hl : l.length ≤ 1000000) (d : Dt) : SpcR Tryz.prog 61 [.ex (ptr1 β), .ex (aggD d.1 d.2)] (bagCM β D l) fun _ => .tup [.ex (vi (posD l d)), .ex (.bool (hereD l d))] := by
  refine SpcR.intro Tryz.func61 rfl (Nat.le_of_ble_eq_true rfl) fun w0 => ?_
  have hI := hIb w0
  refine J.exC (key := 1000) (q := 0) rfl rfl fun x => ?_
  refine J.sepC (key := 1000) (q := 0) rfl rfl ?_
  repeat (refine J.seq (J.region mixed hI (by kernel_rfl) ?_))
  refine Plan.boxP rfl rfl rfl rfl ?_
  repeat (first | refine Plan.move rfl rfl rfl rfl ?_ | refine Plan.assign rfl rfl rfl rfl ?_ | refine J.seq (J.seq (J.region mixed hI (by kernel_rfl) ?_)))
  refine Plan.eqlPtr rfl rfl rfl rfl (by kernel_rfl) ?_
  repeat (first | refine Plan.move rfl rfl rfl rfl ?_ | refine J.seq (J.region mixed hI (by kernel_rfl) ?_) | refine J.condF rfl ?_ | refine J.skip ?_)
  refine Plan.nilOk rfl rfl rfl rfl ?_
  refine Plan.fieldC rfl rfl rfl rfl (by exact Tryz.underlying75) rfl (by kernel_rfl) (by exact (rfl : _ = 1)) ?_
  refine Plan.loadRowC (key := 1000) (q := 0) (q2 := 1) rfl rfl rfl rfl rfl rfl (obj_reads1 rfl) rfl Tryz.underlying73 (by rfl) (by decide) ?_
  refine Plan.loadAggP rfl rfl rfl rfl (Sub.refl _) Tryz.underlying34 rfl (by kernel_rfl) ?_
  refine Plan.call (B := 0) rfl rfl rfl (find_fnM l hs hl d) Tryz.func84 rfl rfl (fun _ _ => Nat.zero_le _) (Opnds.cons rfl (Sub.refl _) (Opnds.cons rfl (Sub.refl _) (Opnds.cons rfl (Sub.refl _) Opnds.nil))) ?_
  repeat (first | refine Plan.assign rfl rfl rfl rfl ?_ | refine Plan.extract rfl rfl rfl rfl rfl ?_)
  exact J.ret (Nrm.ret2 rfl (fun _ h => h) fun B hB => ⟨_, rfl, Ress.cons rfl (by exact Sub.refl _) (Ress.cons rfl (by exact Sub.refl _) Ress.nil)⟩)
theorem itOneM (x : Dt × (EvV × Dt)) : ∀ u ∈ itM x, u.oneCell' = true := by
  simp [itC, encT, EvV.enc, str, Value.oneCell']
abbrev rowIM (B : Option Addr) (n cap : Nat) (xs : List Value) : Chunk := rowC 99 30 B n cap xs
theorem insert_fnM (B : Option Addr) (cap vb vc : Nat) (l : List (Dt × (EvV × Dt))) (hl : l.length ≤ 1000000) (i : Nat) (hi : i ≤ l.length) (y : Dt × (EvV × Dt)) :
    SpcC Tryz.prog 62 [.ex (.slice B l.length cap), .ex (vi i), .ex (.slice (some ⟨vb, 0, none⟩) 1 vc)] (sepC (rowIM B l.length cap (l.flatMap itM)) (rowIM (some ⟨vb, 0, none⟩) 1 vc (itM y)))
      (fun _ : Option Addr × Nat => True) (fun x => .ex (.slice x.1 (l.length + 1) x.2)) (fun x => rowIM x.1 (l.length + 1) x.2 ((insD l i y).flatMap itM)) := by
  refine SpcC.intro2 Tryz.func62 rfl (Nat.le_of_ble_eq_true rfl) fun w1 F args hd hc => ?_
  have hI := kept_below F w1
  have hA := Own.kept F w1
  refine J.sepC (key := 1000) (q := 0) rfl rfl ?_
  refine J.factC (key := 1000) (q := 0) rfl rfl (fun w F h => row_room h) fun hrm => ?_
  obtain ⟨hr1, hr2, hr3, hr4, hr5⟩ := hrm
  refine J.factC (key := 1000) (q := 1) rfl rfl (fun w F h => row_room h) fun hrv => ?_
  obtain ⟨-, hv2, hv3, -, -⟩ := hrv
  repeat (first | refine Plan.move rfl rfl rfl rfl ?_ | refine Plan.assign rfl rfl rfl rfl ?_ | refine J.seq (J.region mixed hI (by kernel_rfl) ?_))
  refine Plan.sliceAny rfl rfl rfl rfl eltItM rfl hi ?_
  repeat (first | refine Plan.move rfl rfl rfl rfl ?_ | refine J.seq (J.region mixed hI (by kernel_rfl) ?_))
  refine Plan.lenE rfl rfl rfl rfl Tryz.underlying73 ?_
  repeat (first | refine Plan.move rfl rfl rfl rfl ?_ | refine Plan.assign rfl rfl rfl rfl ?_ | (refine Plan.ints rfl rfl rfl rfl rfl rfl ?_; (skip)) | refine J.seq (J.region mixed hI (by kernel_rfl) ?_) | refine J.seq (J.seq (J.region mixed hI (by kernel_rfl) ?_)) | refine J.condF rfl ?_ | refine J.skip ?_)
  refine Plan.lenE rfl rfl rfl rfl Tryz.underlying73 ?_
  repeat (first | refine Plan.move rfl rfl rfl rfl ?_ | refine Plan.assign rfl rfl rfl rfl ?_ | (refine Plan.ints rfl rfl rfl rfl rfl rfl ?_; (skip)) | refine J.seq (J.seq (J.region mixed hI (by kernel_rfl) ?_)))
  refine J.condE rfl (fun hin => ?_) (fun hin => ?_)
  · have hin' : i = l.length := by omega
    subst hin'
    refine J.seeC (t := 2) (key := 1000) (q := 1) rfl rfl rfl (fun w F h => row_rowH h) ?_
    repeat (first | refine Plan.move rfl rfl rfl rfl ?_ | refine J.seq (J.region mixed hI (by kernel_rfl) ?_))
    refine Plan.appendC (key := 1000) (q := 0) rfl rfl rfl rfl rfl (Sub.refl _) eltItM (by intro _ e; cases e; decide) rfl hA rfl (itOneM y) (by rw [flat_len itLM, itLM]; omega) fun B' m' cap' hm' => ?_
    have hm2 : m' = l.length + 1 := by rw [flat_len itLM, itLM] at hm'; omega
    subst hm2
    repeat (refine Plan.assign rfl rfl rfl rfl ?_)
    refine J.ret (Nrm.retC1 (key := 1000) (B', cap') rfl rfl rfl trivial (Sub.refl _) (Ent.trans Ent.left (Ent.rowEq (by simp [insD]))))
  have hlt : i < l.length := by omega
  obtain ⟨g, rfl⟩ : ∃ g, B = some ⟨g, 0, none⟩ := by
    cases B with
    | none => have := (hr4 rfl).1; omega
    | some ad => exact ⟨ad.block, by rw [← hr5 ad rfl]⟩
  refine J.convC (key := 1000) (q := 0) rfl rfl row_blk ?_
  refine J.exC (key := 1000) (q := 0) rfl rfl fun rest => ?_
  refine J.purC (key := 1000) (q := 0) rfl rfl fun hrest => ?_
  refine J.convC (key := 1000) (q := 1) rfl rfl row_blk ?_
  refine J.exC (key := 1000) (q := 1) rfl rfl fun rest2 => ?_
  refine J.purC (key := 1000) (q := 1) rfl rfl fun hrest2 => ?_
  have hfl := flat_len itLM l
  have hyl := itLM y
  have hrl := hrest.1
  rw [List.length_append] at hrl
  have e1 := flat_take itLM l i hi rest
  have hpl : ((l.take i).flatMap itM).length = i * 30 := by rw [flat_len itLM, List.length_take, Nat.min_eq_left hi]
  have hdl : ((l.drop i).flatMap itM).length = (l.length - i) * 30 := by rw [flat_len itLM, List.length_drop]
  have hone : ∀ u ∈ (l.drop i).flatMap itM, u.oneCell' = true := fun u hu => by
    obtain ⟨x, _, hx⟩ := List.mem_flatMap.1 hu
    exact itOneM x u hx
  repeat (first | refine Plan.move rfl rfl rfl rfl ?_ | (refine Plan.ints rfl rfl rfl rfl rfl rfl ?_; (refine Plan.int (i64r (by omega)) ?_)) | refine J.seq (J.seq (J.region mixed hI (by kernel_rfl) ?_)) | refine J.skip ?_)
  refine Plan.capE rfl rfl rfl rfl Tryz.underlying73 ?_
  repeat ((refine Plan.ints rfl rfl rfl rfl rfl rfl ?_; (skip)))
  refine J.condD rfl (fun hroom => ?_) (fun hroom => ?_)
  · repeat (first | refine Plan.move rfl rfl rfl rfl ?_ | refine J.seq (J.region mixed hI (by kernel_rfl) ?_))
    refine Plan.sliceHi (b0 := i) rfl rfl rfl rfl eltItM rfl (by omega) ?_
    repeat (first | refine Plan.move rfl rfl rfl rfl ?_ | (refine Plan.ints rfl rfl rfl rfl rfl rfl ?_; (refine Plan.int (i64r (by omega)) ?_)))
    refine Plan.int (y := ((l.length + 1 - i : Nat) : Int)) (by omega) ?_
    refine Plan.appendZ (key := 1000) (q := 0) rfl rfl rfl (by intro _ e; cases e; decide) rfl rfl eltItM Tryz.underlying3 rfl hA rfl (by rw [List.length_append]; omega) (by omega) (by omega) (by omega) fun β cap' rest3 h1 h2 h3 => ?_
    rw [show i + (l.length + 1 - i) = l.length + 1 by omega, e1]
    repeat (first | refine Plan.move rfl rfl rfl rfl ?_ | refine Plan.assign rfl rfl rfl rfl ?_ | refine J.seq (J.region mixed hI (by kernel_rfl) ?_))
    refine Plan.sliceLo rfl rfl rfl rfl eltItM rfl (by omega) (by omega) (by omega) ?_
    repeat (refine Plan.move rfl rfl rfl rfl ?_)
    refine Plan.copyC (key := 1000) (q := 2) (q2 := 1) (cnt := 1) (news := itM y) rfl rfl rfl (by intro _ e; cases e; decide) rfl rfl eltItM rfl hA rfl rfl (blk_reads (by simp [hyl])) (by simp only [Nat.min_def]; split <;> omega) (by rw [hyl]) (itOneM y) (by rw [List.length_append, hpl, h3, hyl]; omega) ?_
    rw [show 0 + i * 30 = i * 30 by omega, splice hpl]
    repeat (first | refine Plan.move rfl rfl rfl rfl ?_ | (refine Plan.ints rfl rfl rfl rfl rfl rfl ?_; (refine Plan.int (i64r (by omega)) ?_)) | refine J.seq (J.region mixed hI (by kernel_rfl) ?_))
    refine Plan.sliceLo (a0 := i + 1) rfl rfl rfl rfl eltItM rfl (by omega) (by omega) (by omega) ?_
    repeat (refine Plan.move rfl rfl rfl rfl ?_)
    refine Plan.sliceLo rfl rfl rfl rfl eltItM rfl (by omega) (by omega) (by omega) ?_
    have hPl : ((l.take i).flatMap itM ++ itM y).length = (i + 1) * 30 := by rw [List.length_append, hpl, hyl]; omega
    have hR3 : (rest3.drop (itM y).length).length = (cap' - i - 1) * 30 := by rw [List.length_drop, h3, hyl]; omega
    rw [← List.append_assoc]
    refine Plan.copyC (key := 1000) (q := 2) (q2 := 0) (cnt := l.length - i) (news := (l.drop i).flatMap itM) rfl rfl rfl (by intro _ e; cases e; decide) rfl rfl eltItM rfl hA rfl rfl (blk_reads (by rw [show 0 + i * 30 = i * 30 by omega]; exact flat_mid itLM l i hi rest)) (by simp only [Nat.min_def]; split <;> omega) hdl hone (by rw [List.length_append, hPl, hdl, hR3]; omega) ?_
    rw [show 0 + (i + 1) * 30 = (i + 1) * 30 by omega, splice hPl, ← List.append_assoc]
    have hins : (insD l i y).flatMap itM = (l.take i).flatMap itM ++ itM y ++ (l.drop i).flatMap itM := by simp [insD]
    repeat (first | refine Plan.move rfl rfl rfl rfl ?_ | refine Plan.assign rfl rfl rfl rfl ?_ | refine J.seq (J.region mixed hI (by kernel_rfl) ?_))
    refine J.ret (Nrm.retC1 (key := 1000) (some ⟨β, 0, none⟩, cap') rfl rfl rfl trivial (Sub.refl _) (Ent.right.trans (Ent.right.trans (Ent.left.trans ?_))))
    rw [hins]
    exact blk_row (by rw [List.length_append, List.length_append, hPl, hdl, List.length_drop, hR3]; show _ = cap' * 30; omega) (by rw [List.length_append, hPl, hdl]; omega) (show _ ≤ cap' by omega) (show cap' ≤ _ by omega)
  repeat (first | refine Plan.move rfl rfl rfl rfl ?_ | (refine Plan.ints rfl rfl rfl rfl rfl rfl ?_; (refine Plan.int (i64r (by omega)) ?_)) | refine J.seq (J.region mixed hI (by kernel_rfl) ?_) | refine J.skip ?_)
  refine Plan.sliceHi (b0 := l.length + 1) rfl rfl rfl rfl eltItM rfl (by omega) ?_
  repeat (first | refine Plan.move rfl rfl rfl rfl ?_ | refine Plan.assign rfl rfl rfl rfl ?_ | (refine Plan.ints rfl rfl rfl rfl rfl rfl ?_; (refine Plan.int (i64r (by omega)) ?_)) | refine J.seq (J.seq (J.region mixed hI (by kernel_rfl) ?_)))
  refine Plan.sliceLo (a0 := i + 1) rfl rfl rfl rfl eltItM rfl (by omega) (by omega) (by omega) ?_
  repeat (fail)
  refine Plan.overlapsC (key := 1000) (q := 1) (q2 := 0) rfl rfl rfl rfl rfl rfl rfl rfl rfl rfl eltItM rfl rfl rfl (by decide) (by rw [List.length_append]; omega) (Nat.le_of_ble_eq_true rfl) ?_
  repeat (first | refine Plan.move rfl rfl rfl rfl ?_ | (refine Plan.ints rfl rfl rfl rfl rfl rfl ?_; (refine Plan.int (i64r (by omega)) ?_)) | refine Plan.un rfl rfl rfl rfl rfl ?_ | refine J.seq (J.region mixed hI (by kernel_rfl) ?_) | refine J.condT rfl ?_)
  refine Plan.sliceLo (a0 := i + 1) rfl rfl rfl rfl eltItM rfl (by omega) (by omega) (by omega) ?_
  repeat (refine Plan.move rfl rfl rfl rfl ?_)
  refine Plan.sliceLo rfl rfl rfl rfl eltItM rfl (by omega) (by omega) (by omega) ?_
  have hL0 : (l.flatMap itM ++ rest).length = cap * 30 := hrest.1
  refine Plan.copyC (key := 1000) (q := 0) (q2 := 0) (cnt := l.length - i) (news := (l.drop i).flatMap itM) rfl rfl rfl (by intro _ e; cases e; decide) rfl rfl eltItM rfl hA rfl rfl (blk_reads (by rw [show 0 + i * 30 = i * 30 by omega]; exact flat_mid itLM l i hi rest)) (by simp only [Nat.min_def]; split <;> omega) hdl hone (by rw [hL0, hdl]; omega) ?_
  obtain ⟨mid, hmid⟩ : ∃ mid, mid = (l.flatMap itM ++ rest).take (0 + (i + 1) * 30) ++ (l.drop i).flatMap itM ++ (l.flatMap itM ++ rest).drop (0 + (i + 1) * 30 + ((l.drop i).flatMap itM).length) := ⟨_, rfl⟩
  rw [← hmid]
  have hmidl : mid.length = cap * 30 := by rw [hmid, List.length_append, List.length_append, List.length_take, List.length_drop, hL0, hdl, Nat.min_eq_left (by omega)]; omega
  repeat (first | refine Plan.move rfl rfl rfl rfl ?_ | refine J.seq (J.region mixed hI (by kernel_rfl) ?_))
  refine Plan.sliceLo (a0 := i) rfl rfl rfl rfl eltItM rfl (by omega) (by omega) (by omega) ?_
  repeat (refine Plan.move rfl rfl rfl rfl ?_)
  refine Plan.copyC (key := 1000) (q := 0) (q2 := 1) (cnt := 1) (news := itM y) rfl rfl rfl (by intro _ e; cases e; decide) rfl rfl eltItM rfl hA rfl rfl (blk_reads (by simp [hyl])) (by simp only [Nat.min_def]; split <;> omega) (by rw [hyl]) (itOneM y) (by rw [hmidl, hyl]; omega) ?_
  obtain ⟨tail, ht⟩ : ∃ tail, tail = (l.flatMap itM ++ rest).drop (0 + (i + 1) * 30 + ((l.drop i).flatMap itM).length) := ⟨_, rfl⟩
  have htl : tail.length = cap * 30 - ((i + 1) * 30 + (l.length - i) * 30) := by rw [ht, List.length_drop, hL0, hdl]; omega
  have hins : (insD l i y).flatMap itM = (l.take i).flatMap itM ++ itM y ++ (l.drop i).flatMap itM := by simp [insD]
  have hfin : mid.take (0 + i * 30) ++ itM y ++ mid.drop (0 + i * 30 + (itM y).length) = (insD l i y).flatMap itM ++ tail := by
    have hm : mid = (l.flatMap itM ++ rest).take ((i + 1) * 30) ++ ((l.drop i).flatMap itM ++ tail) := by rw [hmid, ht, List.append_assoc, Nat.zero_add]
    have hk1 : ((l.flatMap itM ++ rest).take ((i + 1) * 30)).length = (i + 1) * 30 := by rw [List.length_take, hL0, Nat.min_eq_left (by omega)]
    have a1 : mid.take (0 + i * 30) = (l.take i).flatMap itM := by
      rw [hm, Nat.zero_add, List.take_append_of_le_length (by rw [hk1]; omega), List.take_take, Nat.min_eq_left (by omega), e1]
    have a2 : mid.drop (0 + i * 30 + (itM y).length) = (l.drop i).flatMap itM ++ tail := by
      rw [hm, show 0 + i * 30 + (itM y).length = (i + 1) * 30 by rw [hyl]; omega, List.drop_left' hk1]
    rw [a1, a2, hins]; simp only [List.append_assoc]
  rw [hfin]
  repeat (first | refine Plan.move rfl rfl rfl rfl ?_ | refine Plan.assign rfl rfl rfl rfl ?_ | refine J.seq (J.region mixed hI (by kernel_rfl) ?_))
  have hil : ((insD l i y).flatMap itM).length = (l.length + 1) * 30 := by rw [flat_len itLM, insD_length]
  refine J.ret (Nrm.retC1 (key := 1000) (some ⟨g, 0, none⟩, cap) rfl rfl rfl trivial (Sub.refl _) (Ent.left.trans ?_))
  exact blk_row (by rw [List.length_append, hil, htl]; show _ = cap * 30; omega) hil (show _ ≤ cap by omega) (show cap ≤ _ by omega)
theorem bag_closeM {β cap : Nat} {D : Value} {l : List (Dt × (EvV × Dt))} {B : Option Addr} : Ent (allC [obj β [D, .slice B l.length cap], rowIM B l.length cap (l.flatMap itM)]) (bagCM β D l) :=
  Ent.ex (B, cap) (Ent.sep (Ent.refl _) Ent.one)
theorem put_fnM (β : Nat) (D : Value) (l : List (Dt × (EvV × Dt))) (hs : sortedD l) (hl : l.length ≤ 1000000) (d : Dt) (x : (EvV × Dt)) :
    SpcC Tryz.prog 30 [.ex (ptr1 β), .ex (aggD d.1 d.2), .ex (.agg (encT x).toArray)] (bagCM β D l) (fun _ : Unit => True) (fun _ => Fa.any) (fun _ => bagCM β D (putD l d x)) := by
  refine SpcC.introLow Tryz.func30 rfl (Nat.le_of_ble_eq_true rfl) fun w0 F => ?_
  have hI := kept_below F w0
  have hA := Own.kept F w0
  repeat (refine J.seq (J.region mixed hI (by kernel_rfl) ?_))
  refine Plan.boxP rfl rfl rfl rfl ?_
  refine Plan.boxP rfl rfl rfl rfl ?_
  repeat (first | refine Plan.move rfl rfl rfl rfl ?_ | refine Plan.eqlPtr rfl rfl rfl rfl (by kernel_rfl) ?_ | refine J.seq (J.region mixed hI (by kernel_rfl) ?_) | refine J.seq (J.seq (J.region mixed hI (by kernel_rfl) ?_)) | refine J.condF rfl ?_ | refine J.skip ?_)
  refine Plan.loadAggP rfl rfl rfl rfl (Sub.refl _) Tryz.underlying34 rfl (by kernel_rfl) ?_
  refine Plan.callR (key := 1000) (B := 0) (q := 0) rfl rfl rfl (place_fnM β D l hs hl d) Tryz.func61 rfl rfl (fun _ _ => Nat.zero_le _) (by repeat (first | exact Opnds.nil | refine Opnds.cons rfl (by exact Sub.refl _) ?_)) rfl rfl (by decide) ?_
  repeat (first | refine Plan.move rfl rfl rfl rfl ?_ | refine Plan.assign rfl rfl rfl rfl ?_ | refine Plan.extract rfl rfl rfl rfl rfl ?_ | refine J.seq (J.seq (J.region mixed hI (by kernel_rfl) ?_)))
  refine J.exC (key := 1000) (q := 0) rfl rfl fun p => ?_
  refine J.sepC (key := 1000) (q := 0) rfl rfl ?_
  refine J.factC (key := 1000) (q := 1) rfl rfl (fun w F h => row_room h) fun hrm => ?_
  obtain ⟨B, cap⟩ := p
  dsimp only at hrm ⊢
  refine J.cond rfl (fun hh => ?_) (fun hh => ?_)
  · obtain ⟨y, hy, hyd⟩ := here_at hh
    have hlt : posD l d < l.length := (List.getElem?_eq_some_iff.1 hy).1
    obtain ⟨g, rfl⟩ : ∃ g, B = some ⟨g, 0, none⟩ := by
      cases B with
      | none => have := (hrm.2.2.2.1 rfl).1; omega
      | some ad => exact ⟨ad.block, by rw [← hrm.2.2.2.2 ad rfl]⟩
    have hput : putD l d x = l.set (posD l d) (d, x) := by unfold putD; rw [if_pos hh]
    have hsf := set_flat (enc := encT) itLM l (posD l d) y x hy (posD l d * 30 + 2) rfl
    rw [hyd, ← hput] at hsf
    have hlen : (putD l d x).length = l.length := by rw [hput, List.length_set]
    refine J.unlow (key := 1000) rfl ?_
    repeat (first | refine Plan.move rfl rfl rfl rfl ?_ | refine Plan.nilOk rfl rfl rfl rfl ?_ | refine Plan.fieldC rfl rfl rfl rfl (by first | exact Tryz.underlying58 | exact Tryz.underlying75) rfl (by kernel_rfl) (by exact (rfl : _ = 1)) ?_ | refine Plan.loadC (key := 1000) (q := 0) rfl rfl rfl rfl rfl rfl (obj_reads1 rfl) (by first | exact Tryz.underlying3 | exact Tryz.underlying73) (by rfl) (by decide) ?_ | refine J.seq (J.region mixed hI (by kernel_rfl) ?_))
    refine Plan.loadAggP rfl rfl rfl rfl (Sub.refl _) Tryz.underlying85 rfl (by show _ = some (encT x).length; rw [encT_len]; kernel_rfl) ?_
    refine Plan.indexC (off := posD l d * 30) rfl rfl rfl rfl rfl eltItM hlt (by omega) ?_
    refine Plan.fieldC (off := posD l d * 30 + 2) rfl rfl rfl rfl (by exact Tryz.underlying99) rfl (by kernel_rfl) rfl ?_
    refine Plan.storeC (key := 1000) (q := 1) (off := posD l d * 30 + 2) rfl rfl rfl rfl rfl rfl (fun u hu => itOneM (d, x) u (List.mem_cons_of_mem _ (List.mem_cons_of_mem _ hu))) (by kernel_rfl) rfl hA rfl (row_pat (by rw [flat_len itLM]; show posD l d * 30 + 2 + (30 - 2) ≤ _; omega)) ?_
    repeat (fail)
    refine J.ret (Nrm.retC0 (key := 1000) () rfl rfl rfl trivial ?_ (.inr rfl))
    refine Ent.trans (Ent.sep (Ent.refl _) (Ent.sep (Ent.rowEq hsf) (Ent.refl _))) ?_
    have := bag_closeM (D := D) (β := β) (cap := cap) (l := putD l d x) (B := some ⟨g, 0, none⟩)
    rw [hlen] at this
    exact this
  · have hput : putD l d x = insD l (posD l d) (d, x) := by unfold putD; rw [if_neg (by rw [hh]; decide)]
    have hlen : (putD l d x).length = l.length + 1 := by rw [hput, insD_length]
    refine J.skip ?_
    refine J.loose2 [(0, ptr1 β)] [(0, .ex (ptr1 β))] mixed hI rfl rfl rfl (by kernel_rfl) (by kernel_rfl) (by kernel_rfl) rfl rfl (fun ⟨_, _, h⟩ => h) (fun _ _ _ _ h => h) (by repeat (first | exact Weak.nil | refine Weak.cons rfl (Sub.refl _) ?_)) ?_ ?_
    · exact Gives.cons [(0, .ex (ptr1 β))] (by kernel_rfl) rfl (by kernel_rfl) (Plan.move rfl rfl rfl rfl (Plan.gives rfl)) Gives.nil
    repeat (first | refine Plan.move rfl rfl rfl rfl ?_ | refine Plan.assign rfl rfl rfl rfl ?_ | refine Plan.nilOk rfl rfl rfl rfl ?_ | refine Plan.fieldC rfl rfl rfl rfl (by first | exact Tryz.underlying58 | exact Tryz.underlying75) rfl (by kernel_rfl) (by exact (rfl : _ = 1)) ?_ | refine Plan.loadC (key := 1000) (q := 0) rfl rfl rfl rfl rfl rfl (obj_reads1 rfl) (by exact Tryz.underlying73) (by rfl) (by decide) ?_)
    refine Plan.loadAggP rfl rfl rfl rfl (Sub.refl _) Tryz.underlying34 rfl (by kernel_rfl) ?_
    repeat (fail)
    refine Plan.loadAggP rfl rfl rfl rfl (Sub.refl _) Tryz.underlying85 rfl (by show _ = some (encT x).length; rw [encT_len]; kernel_rfl) ?_
    refine Plan.build rfl rfl rfl (Parts.cons rfl (Parts.cons rfl Parts.nil)) (cells := (itM (d, x)).toArray) (by kernel_rfl) ?_
    refine Plan.litTight (B := w0.heap.size) (m := 1) rfl rfl rfl eltItM rfl (fun w h => h.size) rfl (fun v hv => by rw [List.mem_singleton.1 hv]; rfl) (by decide) ?_
    refine Plan.callOwn (key := 1000) (q := 1) (t := 34) rfl rfl rfl (fun g => insert_fnM B cap g 1 l hl (posD l d) (posD_le l d) (d, x)) Tryz.func62 rfl rfl (by intro _ e; cases e; decide) rfl (Sub.refl _) (fun g => by repeat (first | exact Opnds.nil | refine Opnds.cons rfl (by exact Sub.refl _) ?_)) rfl hA (fun b hb => .inr hb) rfl fun y _ => ?_
    repeat (first | refine Plan.nilOk rfl rfl rfl rfl ?_ | refine Plan.fieldC rfl rfl rfl rfl (by first | exact Tryz.underlying58 | exact Tryz.underlying75) rfl (by kernel_rfl) (by exact (rfl : _ = 1)) ?_)
    refine Plan.storeC (key := 1000) (q := 0) rfl rfl rfl rfl rfl rfl (by simp [Value.cells, Value.oneCell', str]) (by kernel_rfl) rfl hA rfl (obj_pat1 (Nat.le_of_ble_eq_true rfl)) ?_
    rw [← hput, ← hlen]
    exact Nrm.retC0 (key := 1000) () rfl rfl rfl trivial (bag_closeM (D := D) (B := y.1) (cap := y.2)) (.inl rfl)
theorem clone_fnM (l : List (Dt × (EvV × Dt))) (hl : l.length ≤ 1000000) : Spc Tryz.prog 71 [row 30 (l.flatMap itM)] fun B => own B 99 30 (l.flatMap itM) := by
  refine Spc.intro Tryz.func71 rfl (Nat.le_of_ble_eq_true rfl) fun w0 => ?_
  have hI := hIb w0
  repeat (first | refine Plan.move rfl rfl rfl rfl ?_ | refine Plan.assign rfl rfl rfl rfl ?_ | refine J.seq (J.region mixed hI (by kernel_rfl) ?_) | refine J.seq (J.seq (J.region mixed hI (by kernel_rfl) ?_)))
  refine Plan.eqlNil rfl rfl rfl rfl (Sub.old fun _ h => h) Tryz.underlying73 ?_
  repeat (fail)
  refine J.condNil rfl (fun he => ?_) ?_
  · rw [he]
    repeat (first | refine Plan.assign rfl rfl rfl rfl ?_ | refine J.seq (J.region mixed hI (by kernel_rfl) ?_))
    exact J.ret (Nrm.ret1 rfl (fun _ h => h) rfl fun B hB => by first | exact Sub.refl _ | exact Sub.own | exact Sub.old (fun _ h => h) | exact Sub.oldOwn (fun _ h => h) | exact Sub.nilRow | exact Sub.ownLower hB | exact Sub.nilOwn (fun _ h => Nat.le_trans hB h.size))
  · repeat (first | refine J.seq (J.region mixed hI (by kernel_rfl) ?_) | refine J.skip ?_)
    refine Plan.lit (B := w0.heap.size) (vs := []) rfl rfl rfl eltItM rfl (hBb w0) rfl (by simp [Value.cells]) (by decide) ?_
    repeat (refine Plan.move rfl rfl rfl rfl ?_)
    refine Plan.append (news := l.flatMap itM) rfl rfl rfl rfl (Sub.refl _) rfl (Sub.old fun _ h => h) eltItM (by intro d hd; cases hd; decide) (hGb w0) (fun u hu => by
      obtain ⟨x, _, hx⟩ := List.mem_flatMap.1 hu
      exact itOneM x u hx) (by simp only [flat, List.flatMap_nil, List.length_nil]; rw [flat_len itLM]; omega) ?_
    repeat (refine Plan.assign rfl rfl rfl rfl ?_)
    exact J.ret (Nrm.ret1 rfl (fun _ h => h) rfl fun B hB => by first | exact Sub.refl _ | exact Sub.own | exact Sub.old (fun _ h => h) | exact Sub.oldOwn (fun _ h => h) | exact Sub.nilRow | exact Sub.ownLower hB | exact Sub.nilOwn (fun _ h => Nat.le_trans hB h.size))
theorem items_fnM (β : Nat) (D : Value) (l : List (Dt × (EvV × Dt))) (hl : l.length ≤ 1000000) : SpcR Tryz.prog 43 [.ex (ptr1 β)] (bagCM β D l) fun B => own B 99 30 (l.flatMap itM) := by
  refine SpcR.intro Tryz.func43 rfl (Nat.le_of_ble_eq_true rfl) fun w0 => ?_
  have hI := hIb w0
  refine J.exC (key := 1000) (q := 0) rfl rfl fun x => ?_
  refine J.sepC (key := 1000) (q := 0) rfl rfl ?_
  repeat (first | refine Plan.move rfl rfl rfl rfl ?_ | refine Plan.assign rfl rfl rfl rfl ?_ | refine J.seq (J.region mixed hI (by kernel_rfl) ?_) | refine J.seq (J.seq (J.region mixed hI (by kernel_rfl) ?_)))
  refine Plan.eqlPtr rfl rfl rfl rfl (by kernel_rfl) ?_
  repeat (first | refine Plan.move rfl rfl rfl rfl ?_ | refine J.seq (J.region mixed hI (by kernel_rfl) ?_) | refine J.condF rfl ?_ | refine J.skip ?_)
  refine Plan.nilOk rfl rfl rfl rfl ?_
  refine Plan.fieldC rfl rfl rfl rfl (by exact Tryz.underlying75) rfl (by kernel_rfl) (by exact (rfl : _ = 1)) ?_
  refine Plan.loadRowC (key := 1000) (q := 0) (q2 := 1) rfl rfl rfl rfl rfl rfl (obj_reads1 rfl) rfl Tryz.underlying73 (by rfl) (by decide) ?_
  refine Plan.call (B := w0.heap.size) rfl rfl rfl (clone_fnM l hl) Tryz.func71 rfl rfl (hBb w0) (by repeat (first | exact Opnds.nil | refine Opnds.cons rfl (by exact Sub.refl _) ?_)) ?_
  repeat (refine Plan.assign rfl rfl rfl rfl ?_)
  exact J.ret (Nrm.ret1 rfl (fun _ h => h) rfl fun B hB => by first | exact Sub.refl _ | exact Sub.own | exact Sub.old (fun _ h => h) | exact Sub.oldOwn (fun _ h => h) | exact Sub.nilRow | exact Sub.ownLower hB | exact Sub.nilOwn (fun _ h => Nat.le_trans hB h.size))
end Go.Proofs.YtmljgobenlpnfaaGreat
end

section
namespace Go.Free
open Go.RowKit Go.MapKept
def mkLT (o : Nat) : List (List UInt8 × Value) → List MapEntry
  | [] => []
  | p :: r => ⟨str p.1, p.2, o⟩ :: mkLT (o + 1) r
def mkEsT (kvs : List (List UInt8 × Value)) : Array MapEntry := (mkLT 0 kvs).toArray
theorem mkL_getT : ∀ {l : List (List UInt8 × Value)} {o i : Nat}, (mkLT o l)[i]? = l[i]?.map fun p => ⟨str p.1, p.2, o + i⟩
  | [], _, _ => rfl
  | p :: r, o, 0 => rfl
  | p :: r, o, i + 1 => by
    simp only [mkLT, List.getElem?_cons_succ]
    rw [mkL_getT (l := r)]
    congr 1
    funext q
    rw [Nat.add_right_comm, Nat.add_assoc]
theorem mkL_appT : ∀ {l m : List (List UInt8 × Value)} {o : Nat}, mkLT o (l ++ m) = mkLT o l ++ mkLT (o + l.length) m
  | [], _, _ => rfl
  | p :: r, m, o => by
    simp only [List.cons_append, mkLT, List.length_cons]
    rw [mkL_appT (l := r), show o + 1 + r.length = o + (r.length + 1) by omega]
def mapAtT (z : Value) (kvs : List (List UInt8 × Value)) (k : List UInt8) : Value := match kvs.find? (fun p => decide (p.1 = k)) with | some p => p.2 | none => z
def findVT (kvs : List (List UInt8 × Value)) (k : List UInt8) : Option (Nat × Value) := match kvs.findIdx? (fun p => decide (p.1 = k)) with | some i => some (i, (kvs.getD i ([], .bool false)).2) | none => none
def putVT (kvs : List (List UInt8 × Value)) (k : List UInt8) (v : Value) : List (List UInt8 × Value) := match kvs.findIdx? (fun p => decide (p.1 = k)) with | some i => kvs.set i (k, v) | none => kvs ++ [(k, v)]
theorem bytes_beq (a b : List UInt8) : ((⟨a.toArray⟩ : ByteArray) == ⟨b.toArray⟩) = decide (a = b) := by
  have e : ((⟨a.toArray⟩ : ByteArray) == ⟨b.toArray⟩) = (a.toArray == b.toArray) := rfl
  rw [e]
  by_cases h : a = b
  · subst h; simp
  · rw [decide_eq_false h]
    exact beq_eq_false_iff_ne.2 fun e => h (by simpa using e)
theorem sameNow_str (a b : List UInt8) : Instr.sameNow .string (str a) (str b) = some (decide (a = b)) := by
  unfold str; rw [← bytes_beq]; rfl
theorem sameBits_str (n : Nat) (a : List UInt8) : Instr.sameBits n (str a) (str a) = true := by
  unfold str
  have h := bytes_beq a a
  rw [decide_eq_true rfl] at h
  cases n <;> simp only [Instr.sameBits, h]
theorem findNow_mkT (k : List UInt8) : ∀ (l : List (List UInt8 × Value)) (o : Nat), Instr.findNow .string (str k) (mkLT o l) o = some (match l.findIdx? (fun p => decide (p.1 = k)) with | some i => some (o + i, (l.getD i ([], .bool false)).2) | none => none)
  | [], _ => rfl
  | p :: r, o => by
    simp only [mkLT, Instr.findNow, sameNow_str]
    by_cases h : k = p.1
    · subst h
      simp [List.findIdx?_cons]
    · have h1 : decide (k = p.1) = false := decide_eq_false h
      have h2 : ¬ p.1 = k := fun e => h e.symm
      rw [h1]
      simp only [findNow_mkT k r (o + 1), List.findIdx?_cons, h2, decide_false, Bool.false_eq_true, if_false]
      cases r.findIdx? (fun p => decide (p.1 = k)) with
      | none => rfl
      | some i => simp; omega
def mapCT (μ : Nat) (kvs : List (List UInt8 × Value)) : Chunk := ⟨fun w F => w.heap[μ]? = some (.map (mkEsT kvs) kvs.length) ∧ ∀ b, F b ↔ b = μ,
  fun _ _ b ⟨h, hF⟩ hb => by rw [(hF b).1 hb]; exact (Array.getElem?_eq_some_iff.1 h).1,
  fun _ _ _ ⟨h, hF⟩ hk => ⟨(hk μ ((hF μ).2 rfl)).trans h, hF⟩⟩
theorem run_checkStrN {P : Program} {w : World} {em : Bool} {kt : TypeId} {v : Value} (hu : P.underlying kt = some .string) (m : Nat) : (Instr.checkKey em (m + 1) kt v).run P w = .ok () w := by
  simp [Instr.checkKey, run_underlying hu]
theorem run_checkStr {P : Program} {w : World} {em : Bool} {kt : TypeId} {v : Value} (hu : P.underlying kt = some .string) : (Instr.checkKey em 10000 kt v).run P w = .ok () w := run_checkStrN hu 9999
theorem run_findMkT {P : Program} {w : World} {kt : TypeId} {k : List UInt8} {kvs : List (List UInt8 × Value)} (hu : P.underlying kt = some .string) :
    (Instr.findKey kt (str k) (mkLT 0 kvs)).run P w = .ok (findVT kvs k) w := by
  simp only [Instr.findKey, Sem.run_bind, run_underlying hu, Result.andThen, findNow_mkT, Nat.zero_add, findVT]
  split <;> rfl
section
variable {P : Program} {ops : Array Oper} {Q : Exit → Act → World → Prop} {n : Nat} {I : World → Prop} {k i : Nat} {E : Env} {o : Oper} {d : Bool} {A : Nat → Prop} {H : List Chunk} {key : Nat}
theorem Plan.makeMapT {t : TypeId} (ho : ops[i]? = some o) (hop : o.op = .makeMap t none) (hg : wantB ops E o = some true) (hd : ∀ d, o.dst = some d → d < n) (hk : look E key = some (heap A H)) (hA : Own I A)
    (h : ∀ μ, Plan P ops Q n I d k (i + 1) (setE o.dst (.ex (mapV μ)) ((key, heap A (H ++ [mapCT μ []])) :: sieve E))) (hq : d = false ∨ barB ops i = true := by first | exact .inl rfl | exact .inr (by kernel_rfl)) : Plan P ops Q n I d (k + 1) i E :=
  Plan.turnRun ho hg hd hk hA (fun a w φ _ _ _ hL hLA hfr => by
    have hb : Below w.heap.size w (w.alloc (.map #[] 0)) := (Below.refl _ _).alloc (Nat.le_refl _) _
    have hL' := hL.add (c' := mapCT w.heap.size []) (F := fun b => b = w.heap.size) hb ⟨heap_alloc_new w _, fun b => Iff.rfl⟩ (fun b e => Nat.le_of_eq e.symm)
    refine ⟨mapV w.heap.size, w.alloc (.map #[] 0), .ex (mapV w.heap.size), _, _, .inl ?_, .ofBelow hb, hL', fun q b hb => ?_, by simp [Fa.den], h w.heap.size⟩
    · simp [execOp, hop, Instr.makeMap, newObj, Sem.run]
    · by_cases he : q = H.length
      · simp only [if_pos he] at hb; exact hfr b (Nat.le_of_eq hb.symm)
      · simp only [if_neg he] at hb; exact hLA q b hb) hq
theorem Plan.lookupT {t kt et : TypeId} {x y : Operand} {μ q : Nat} {kk : List UInt8} {kvs : List (List UInt8 × Value)} {z : Value} (ho : ops[i]? = some o) (hop : o.op = .lookup t x y false) (hg : wantB ops E o = some true)
    (hx : opF E x = some (.ex (mapV μ))) (hy : opF E y = some (.ex (str kk))) (ht : P.underlying t = some (.map kt et)) (hkt : P.underlying kt = some .string) (hz : (P.info? et).bind (·.zero) = some z)
    (hk : look E key = some (heap A H)) (hqH : H[q]? = some (mapCT μ kvs)) (hkn : n ≤ key)
    (h : Plan P ops Q n I d k (i + 1) (setE o.dst (.ex (mapAtT z kvs kk)) E)) : Plan P ops Q n I d (k + 1) i E :=
  Plan.step ho (Step.runK ho hg fun a w _ hs' hK => by
    have e1 := hs' x (by simp [hop, Op.operands]) _ hx
    have e2 := hs' y (by simp [hop, Op.operands]) _ hy
    simp only [Fa.den] at e1 e2
    obtain ⟨φ, hL, _⟩ := hK key hkn _ hk
    have hb := (hL.holds q _ hqH).1
    obtain ⟨inf, hi1, hi2⟩ : ∃ inf, P.info? et = some inf ∧ inf.zero = some z := by
      cases hinf : P.info? et with
      | none => rw [hinf] at hz; cases hz
      | some inf => rw [hinf] at hz; exact ⟨inf, rfl, by simpa using hz⟩
    refine ⟨mapAtT z kvs kk, w, ?_, Below.refl _ _, by simp [Fa.den]⟩
    have hfd : ∀ p, kvs.findIdx? (fun p => decide (p.1 = kk)) = p → mapAtT z kvs kk = match p with | some i => (kvs.getD i ([], .bool false)).2 | none => z := fun p hp => by
      unfold mapAtT
      cases p with
      | none =>
        rw [List.findIdx?_eq_none_iff] at hp
        rw [List.find?_eq_none.2 fun x hx => by simpa using hp x hx]
      | some j =>
        rw [List.findIdx?_eq_some_iff_getElem] at hp
        obtain ⟨hj, h1, h2⟩ := hp
        have hf : kvs.find? (fun p => decide (p.1 = kk)) = some kvs[j] := by
          rw [List.find?_eq_some_iff_getElem]
          exact ⟨h1, j, hj, rfl, fun l hl => by simpa using h2 l hl⟩
        rw [hf]
        simp [List.getD_eq_getElem?_getD, List.getElem?_eq_getElem hj]
    have hfk := run_findMkT (P := P) (w := w) (k := kk) (kvs := kvs) hkt
    have hml : (mkEsT kvs).toList = mkLT 0 kvs := rfl
    have hck := run_checkStr (P := P) (w := w) (em := (mkEsT kvs).isEmpty) (v := str kk) hkt
    rw [← hml] at hfk
    unfold findVT at hfk
    cases hj : kvs.findIdx? (fun p => decide (p.1 = kk)) with
    | none =>
      rw [hfd _ hj]
      rw [hj] at hfk
      simp [execOp, hop, e1, e2, Instr.lookup, run_underlying ht, MapKept.run_getObj_map hb, hck, hfk, Result.andThen, zeroValue, typeInfo, hi1, hi2]
    | some j =>
      rw [hfd _ hj]
      rw [hj] at hfk
      simp [execOp, hop, e1, e2, Instr.lookup, run_underlying ht, MapKept.run_getObj_map hb, hck, hfk, Result.andThen]) h
theorem set_mkT {l : List (List UInt8 × Value)} {j : Nat} {k : List UInt8} {v : Value} (hj : j < l.length) : (mkEsT l).modify j (fun e => { e with key := str k, val := v }) = mkEsT (l.set j (k, v)) := by
  apply Array.ext'
  unfold mkEsT
  rw [Array.toList_modify]
  apply List.ext_getElem?
  intro m
  simp only [List.getElem?_modify]
  rw [mkL_getT, mkL_getT, List.getElem?_set]
  by_cases hm : j = m
  · subst hm
    rw [if_pos rfl, if_pos hj, List.getElem?_eq_getElem hj]
    simp
  · rw [if_neg hm]
    cases l[m]? <;> simp [hm]
theorem run_setMapT {P : Program} {w : World} {r : Nat} {ob o' : Obj} (hb : w.heap[r]? = some ob) (hm : ∃ es c, ob = .map es c) : (setObj r o').run P w = .ok () { w with heap := w.heap.setIfInBounds r o' } := by
  obtain ⟨es, c, rfl⟩ := hm
  exact MapKept.run_setObj_map o' hb
theorem Plan.mapUpdateT {t kt et : TypeId} {x y z : Operand} {μ q : Nat} {kk : List UInt8} {v : Value} {kvs : List (List UInt8 × Value)} (ho : ops[i]? = some o) (hop : o.op = .mapUpdate t x y z) (hdst : o.dst = none) (hg : wantB ops E o = some true)
    (hx : opF E x = some (.ex (mapV μ))) (hy : opF E y = some (.ex (str kk))) (hz : opF E z = some (.ex v)) (ht : P.underlying t = some (.map kt et)) (hkt : P.underlying kt = some .string)
    (hk : look E key = some (heap A H)) (hA : Own I A) (hqH : H[q]? = some (mapCT μ kvs))
    (h : Plan P ops Q n I d k (i + 1) ((key, heap A (H.set q (mapCT μ (putVT kvs kk v)))) :: sieve E)) (hq : d = false ∨ barB ops i = true := by first | exact .inl rfl | exact .inr (by kernel_rfl)) : Plan P ops Q n I d (k + 1) i E :=
  Plan.turnRun ho hg (by rw [hdst]; intro _ e; cases e) hk hA (fun a w φ _ _ hs' hL hLA hfr => by
    have e1 := hs' x (by simp [hop, Op.operands]) _ hx
    have e2 := hs' y (by simp [hop, Op.operands]) _ hy
    have e3 := hs' z (by simp [hop, Op.operands]) _ hz
    simp only [Fa.den] at e1 e2 e3
    have hc := hL.holds q _ hqH
    obtain ⟨hb, hF⟩ := hc
    have hlt : μ < w.heap.size := (Array.getElem?_eq_some_iff.1 hb).1
    obtain ⟨w', hw'⟩ : ∃ w' : World, w' = { w with heap := w.heap.setIfInBounds μ (.map (mkEsT (putVT kvs kk v)) (putVT kvs kk v).length) } := ⟨_, rfl⟩
    have hK : Kept (φ q) w w' := by
      subst hw'
      exact ⟨rfl, rfl, rfl, by simp, fun b _ hn => by
        rw [Array.getElem?_setIfInBounds_ne (fun e => hn ((hF b).2 e.symm))]⟩
    have hc2 : (mapCT μ (putVT kvs kk v)).holds w' (φ q) := by
      subst hw'
      exact ⟨by simp [Array.getElem?_setIfInBounds, hlt], hF⟩
    have hqlt : q < H.length := (List.getElem?_eq_some_iff.1 hqH).1
    have hfk := run_findMkT (P := P) (w := w) (k := kk) (kvs := kvs) hkt
    have hml : (mkEsT kvs).toList = mkLT 0 kvs := rfl
    have hck := run_checkStr (P := P) (w := w) (em := false) (v := str kk) hkt
    rw [← hml] at hfk
    unfold findVT at hfk
    have hL' := hL.upd hqlt hK hc2 (fun b hb => .inl hb)
    refine ⟨undef, w', .ex undef, H.set q (mapCT μ (putVT kvs kk v)), _, .inr ⟨?_, rfl⟩, hK.mono (fun b _ hb => hLA q b hb), hL', wide (H := H) hLA hfr (fun b hb => .inl hb), by simp [Fa.den], by rw [hdst]; exact h⟩
    subst hw'
    unfold putVT at *
    cases hj : kvs.findIdx? (fun p => decide (p.1 = kk)) with
    | none =>
      rw [hj] at hfk
      have hpush : (mkEsT kvs).push ⟨str kk, v, kvs.length⟩ = mkEsT (kvs ++ [(kk, v)]) := by
        apply Array.ext'
        unfold mkEsT
        rw [mkL_appT]
        simp [mkLT]
      simp [execOp, hop, e1, e2, e3, Instr.mapUpdate, run_underlying ht, MapKept.run_getObj_map hb, hck, hfk, Result.andThen, hpush, run_setMapT hb ⟨_, _, rfl⟩]
    | some j =>
      rw [hj] at hfk
      rw [List.findIdx?_eq_some_iff_getElem] at hj
      obtain ⟨hjl, h1, _⟩ := hj
      have hkey : kvs[j].1 = kk := by simpa using h1
      have hold : ((mkEsT kvs)[j]?.map (·.key)).getD (str kk) = str kk := by
        have : (mkEsT kvs)[j]? = (mkLT 0 kvs)[j]? := by rw [← Array.getElem?_toList]; rfl
        rw [this, mkL_getT, List.getElem?_eq_getElem hjl]
        simp [hkey]
      have hst : (Instr.keyThatStays (str kk) (str kk)).run P w = .ok (str kk) w := by
        simp [Instr.keyThatStays, sameBits_str]
      simp [execOp, hop, e1, e2, e3, Instr.mapUpdate, run_underlying ht, MapKept.run_getObj_map hb, hck, hfk, Result.andThen, hold, hst, set_mkT hjl, run_setMapT hb ⟨_, _, rfl⟩]) hq
end
end Go.Free
end

section
namespace Go.Free
open Go.RowKit
section
variable {P : Program} {ops : Array Oper} {Q : Exit → Act → World → Prop} {n : Nat} {I : World → Prop} {k i : Nat} {E : Env} {o : Oper} {d : Bool} {A : Nat → Prop} {H : List Chunk} {key : Nat}
theorem run_equalIn_map {w : World} {t kt et : TypeId} (m : Nat) {r : Option Nat} (hu : P.underlying t = some (.map kt et)) : (Op.equalIn (m + 1) t (.map r) (.map none)).run P w = .ok r.isNone w := by
  cases r <;> simp [Op.equalIn, run_underlying hu]
theorem Plan.eqlMap {t kt et yt : TypeId} {x : Operand} {r : Option Nat} (ho : ops[i]? = some o) (hop : o.op = .binOp .eql t x (.const (.map none)) yt) (hg : wantB ops E o = some true)
    (hx : opF E x = some (.ex (.map r))) (hu : P.underlying t = some (.map kt et))
    (h : Plan P ops Q n I d k (i + 1) (setE o.dst (.ex (.bool r.isNone)) E)) : Plan P ops Q n I d (k + 1) i E :=
  Plan.step ho (Step.run ho hg fun a w hI hs' => by
    have h1 := hs' x (by simp [hop, Op.operands]) _ hx
    simp only [Fa.den] at h1
    refine ⟨.bool r.isNone, w, ?_, Below.refl _ _, by simp [Fa.den]⟩
    have hev : a.eval (.const (.map none)) = .map none := rfl
    have hgd : (eqGuard .eql t x (.const (.map none)) (.map r) (.map none)).run P w = .ok () w := by simp [eqGuard]
    have heq : (Op.equal t (.map r) (.map none)).run P w = .ok r.isNone w := run_equalIn_map 9999 hu
    have hrun : (binOp .eql t (.map r) (.map none)).run P w = .ok (.bool r.isNone) w := by
      simp only [binOp]
      simp [heq]
    simp only [execOp, hop, h1, hev, Sem.run_bind, hgd, Result.andThen_ok, hrun, Sem.run_pure]) h
theorem Plan.lookupNilT {t kt et : TypeId} {x y : Operand} {kk : List UInt8} {z : Value} (ho : ops[i]? = some o) (hop : o.op = .lookup t x y false) (hg : wantB ops E o = some true)
    (hx : opF E x = some (.ex (.map none))) (hy : opF E y = some (.ex (str kk))) (ht : P.underlying t = some (.map kt et)) (hkt : P.underlying kt = some .string) (hz : (P.info? et).bind (·.zero) = some z)
    (h : Plan P ops Q n I d k (i + 1) (setE o.dst (.ex z) E)) : Plan P ops Q n I d (k + 1) i E :=
  Plan.step ho (Step.run ho hg fun a w hI hs' => by
    have e1 := hs' x (by simp [hop, Op.operands]) _ hx
    have e2 := hs' y (by simp [hop, Op.operands]) _ hy
    simp only [Fa.den] at e1 e2
    obtain ⟨inf, hi1, hi2⟩ : ∃ inf, P.info? et = some inf ∧ inf.zero = some z := by
      cases hinf : P.info? et with
      | none => rw [hinf] at hz; cases hz
      | some inf => rw [hinf] at hz; exact ⟨inf, rfl, by simpa using hz⟩
    refine ⟨z, w, ?_, Below.refl _ _, by simp [Fa.den]⟩
    have hck := run_checkStr (P := P) (w := w) (em := true) (v := str kk) hkt
    have hfk := run_findMkT (P := P) (w := w) (k := kk) (kvs := []) hkt
    have hml : mkLT 0 [] = [] := rfl
    have hfv : findVT [] kk = none := rfl
    rw [hml, hfv] at hfk
    simp [execOp, hop, e1, e2, Instr.lookup, run_underlying ht, hck, hfk, Result.andThen, zeroValue, typeInfo, hi1, hi2]) h
end
end Go.Free
end

section
namespace Go.Proofs.YtmljgobenlpnfaaGreat
open Go.Free Go.RowKit Go.Proofs Go.Free.Sorts
set_option maxHeartbeats 16000000
structure SE where
  key : List UInt8
  η : Nat
  l : List (Dt × EvV)
  dd : List (Dt × (EvV × Dt))
abbrev rowLv (B : Option Addr) (l : List (Dt × EvV)) (cap : Nat) : Chunk := rowIL B l.length cap (l.flatMap itL)
abbrev rowDd (B : Option Addr) (l : List (Dt × (EvV × Dt))) (cap : Nat) : Chunk := rowIM B l.length cap (l.flatMap itM)
def entC (x : SE) : Chunk := exC fun p : (Option Addr × Nat) × (Option Addr × Nat) =>
  allC [obj x.η [.slice p.1.1 x.l.length p.1.2, .slice p.2.1 x.dd.length p.2.2], rowLv p.1.1 x.l p.1.2, rowDd p.2.1 x.dd p.2.2]
structure SpV where
  mu : Option Nat
  ks : List SE
  v : Nat → Int
  t : Int
def kvS (ks : List SE) : List (List UInt8 × Value) := ks.map fun x => (x.key, ptr x.η)
def mapS (mu : Option Nat) (ks : List SE) : Chunk := match mu with | none => emp | some μ => mapCT μ (kvS ks)
abbrev spH (σ : Nat) (mu : Option Nat) (ks : List SE) (v : Nat → Int) (t : Int) : List Chunk := [obj σ (spCells (.map mu) v t), mapS mu ks, allC (ks.map entC)]
def spC (σ : Nat) (S : SpV) : Chunk := allC (spH σ S.mu S.ks S.v S.t)
structure SpWf (S : SpV) : Prop where
  none : S.mu = Option.none → S.ks = []
  nd : (S.ks.map (·.key)).Nodup
def sp0 : SpV := ⟨none, [], fun _ => 0, 0⟩
theorem sp0_wf : SpWf sp0 := ⟨fun _ => rfl, List.nodup_nil⟩
theorem sp_out {ks : List SE} {k : List UInt8} (h : k ∉ ks.map (·.key)) (z : Value) : mapAtT z (kvS ks) k = z := by
  unfold mapAtT
  have : (kvS ks).find? (fun p => decide (p.1 = k)) = none := by
    rw [List.find?_eq_none]
    intro p hp
    obtain ⟨x, hx, rfl⟩ := List.mem_map.1 hp
    simp only [decide_eq_true_eq]
    exact fun e => h (e ▸ List.mem_map.2 ⟨x, hx, rfl⟩)
  rw [this]
theorem sp_in {ks : List SE} (hn : (ks.map (·.key)).Nodup) {j : Nat} {x : SE} (hj : ks[j]? = some x) (z : Value) : mapAtT z (kvS ks) x.key = ptr x.η := by
  unfold mapAtT
  obtain ⟨hl, hx⟩ := List.getElem?_eq_some_iff.1 hj
  have : (kvS ks).find? (fun p => decide (p.1 = x.key)) = some (x.key, ptr x.η) := by
    rw [List.find?_eq_some_iff_getElem]
    refine ⟨by simp, j, by simpa [kvS] using hl, by simp [kvS, hx], fun i hi => ?_⟩
    simp only [kvS, List.getElem_map, Bool.not_eq_true', decide_eq_false_iff_not]
    intro e
    have h2 := List.pairwise_iff_getElem.1 hn i j (by simp; omega) (by simpa using hl) hi
    simp only [List.getElem_map] at h2
    rw [hx] at h2
    exact h2 e
  rw [this]
theorem put_out {ks : List SE} {k : List UInt8} (h : k ∉ ks.map (·.key)) (v : Value) : putVT (kvS ks) k v = kvS ks ++ [(k, v)] := by
  unfold putVT
  have : (kvS ks).findIdx? (fun p => decide (p.1 = k)) = none := by
    rw [List.findIdx?_eq_none_iff]
    intro p hp
    obtain ⟨x, hx, rfl⟩ := List.mem_map.1 hp
    simp only [decide_eq_false_iff_not]
    exact fun e => h (e ▸ List.mem_map.2 ⟨x, hx, rfl⟩)
  rw [this]
theorem ent_new (η : Nat) (k : List UInt8) : Ent (obj η [.slice none 0 0, .slice none 0 0]) (entC ⟨k, η, [], []⟩) :=
  Ent.addEmp.trans ((Ent.sep (Ent.refl _) (Ent.trans Ent.nilRow (Ent.addEmp.trans (Ent.sep (Ent.refl _) Ent.nilRow)))).trans (Ent.ex ((none, 0), (none, 0)) (Ent.sep (Ent.refl _) (Ent.sep (Ent.refl _) Ent.addEmp))))
theorem new_fn : SpcC Tryz.prog 4 [] emp (fun _ : Nat => True) (fun σ => .ex (ptr σ)) (fun σ => spC σ sp0) := by
  refine SpcC.intro Tryz.func4 rfl (Nat.le_of_ble_eq_true rfl) fun w0 F => ?_
  have hI := kept_below F w0
  have hA := Own.kept F w0
  refine J.seq (J.region mixed hI (by kernel_rfl) ?_)
  repeat (refine Plan.assign rfl rfl rfl rfl ?_)
  refine J.seq (J.region mixed hI (by kernel_rfl) ?_)
  refine Plan.build rfl rfl rfl Parts.nil (cells := (spCells (.map none) (fun _ => 0) 0).toArray) (by kernel_rfl) ?_
  refine Plan.boxC (key := 1000) rfl rfl rfl (by intro _ e; cases e; decide) rfl rfl hA fun σ => ?_
  repeat (refine Plan.assign rfl rfl rfl rfl ?_)
  refine J.ret (Nrm.retC1 (key := 1000) σ rfl rfl rfl trivial (Sub.refl _) ?_)
  exact Ent.right.trans (Ent.one.trans (Ent.addEmp.trans (Ent.sep (Ent.refl _) (Ent.addEmp.trans (Ent.sep (Ent.refl _) Ent.addEmp)))))
def atK (ks : List SE) (key : List UInt8) (η : Nat) : List SE := if key ∈ ks.map (·.key) then ks else ks ++ [⟨key, η, [], []⟩]
theorem at_fn (σ : Nat) (S : SpV) (hw : SpWf S) (key : List UInt8) : SpcC Tryz.prog 26 [.ex (ptr σ), .ex (str key)] (spC σ S) (fun _ : Nat × Nat => True) (fun x => .ex (mapAtT (.pointer none) (kvS (atK S.ks key x.2)) key))
    (fun x => spC σ ⟨some (S.mu.getD x.1), atK S.ks key x.2, S.v, S.t⟩) := by
  refine SpcC.intro Tryz.func26 rfl (Nat.le_of_ble_eq_true rfl) fun w0 F => ?_
  have hI := kept_below F w0
  have hA := Own.kept F w0
  refine J.open1 (key := 1000) rfl ?_
  refine J.seq (J.region mixed hI (by kernel_rfl) ?_)
  repeat (refine Plan.assign rfl rfl rfl rfl ?_)
  refine J.seqMid (σ := Nat) (fun μ => [(0, .ex (ptr σ)), (1, .ex (str key)), (1000, heap (fun b => F b ∨ w0.heap.size ≤ b) (spH σ (some (S.mu.getD μ)) S.ks S.v S.t))]) (fun _ => True) ?_ ?_
  · refine J.seq (J.region mixed hI (by kernel_rfl) ?_)
    repeat (first | refine Plan.move rfl rfl rfl rfl ?_ | refine Plan.nilOk rfl rfl rfl rfl ?_ | refine Plan.fieldC rfl rfl rfl rfl (by first | exact Tryz.underlying58 | exact Tryz.underlying55) rfl (by kernel_rfl) (by exact (rfl : _ = 0)) ?_ | refine Plan.loadC (key := 1000) (q := 0) rfl rfl rfl rfl rfl rfl (obj_reads1 rfl) (by first | exact Tryz.underlying3 | exact Tryz.underlying53) (by rfl) (by decide) ?_)
    refine Plan.eqlMap rfl rfl rfl rfl Tryz.underlying53 ?_
    cases hmu : S.mu with
    | none =>
      refine J.condT rfl ?_
      refine J.region mixed hI (by kernel_rfl) ?_
      repeat (refine Plan.move rfl rfl rfl rfl ?_)
      refine Plan.makeMapT (key := 1000) rfl rfl rfl (by intro _ e; cases e; decide) rfl hA fun μ => ?_
      repeat (first | refine Plan.nilOk rfl rfl rfl rfl ?_ | refine Plan.fieldC rfl rfl rfl rfl (by first | exact Tryz.underlying58 | exact Tryz.underlying55) rfl (by kernel_rfl) (by exact (rfl : _ = 0)) ?_)
      refine Plan.storeC (key := 1000) (q := 0) (off := 0) rfl rfl rfl rfl rfl rfl (by simp [Value.cells, Value.oneCell']) (by rfl) rfl hA rfl (obj_pat (show 0 + 1 ≤ 18 by decide)) ?_
      repeat (fail)
      have hks := hw.none hmu
      refine Nrm.mid μ trivial (by
        rw [hks]
        exact (by repeat (first | exact Weak.nil | refine Weak.cons rfl (Sub.refl _) ?_ | refine Weak.cons rfl (Sub.heap (Ent.pickC [0, 3, 2] rfl rfl)) ?_)))
    | some μ =>
      refine J.condF rfl ?_
      refine J.skip ?_
      exact Nrm.mid μ trivial (by repeat (first | exact Weak.nil | refine Weak.cons rfl (Sub.refl _) ?_))
  intro μ _
  obtain ⟨μ', hμ'⟩ : ∃ μ', μ' = S.mu.getD μ := ⟨_, rfl⟩
  rw [← hμ']
  by_cases hk : key ∈ S.ks.map (·.key)
  · obtain ⟨x, hx, hxk⟩ := List.mem_map.1 hk
    obtain ⟨j, hj, hjx⟩ := List.getElem_of_mem hx
    have hj? : S.ks[j]? = some x := by rw [List.getElem?_eq_getElem hj, hjx]
    have hm := sp_in hw.nd hj? (.pointer none)
    rw [hxk] at hm
    have hat : ∀ η, atK S.ks key η = S.ks := fun η => if_pos hk
    refine J.seq (J.seq (J.region mixed hI (by kernel_rfl) ?_))
    repeat (first | refine Plan.move rfl rfl rfl rfl ?_ | refine Plan.nilOk rfl rfl rfl rfl ?_ | refine Plan.fieldC rfl rfl rfl rfl (by first | exact Tryz.underlying58 | exact Tryz.underlying55) rfl (by kernel_rfl) (by exact (rfl : _ = 0)) ?_ | refine Plan.loadC (key := 1000) (q := 0) rfl rfl rfl rfl rfl rfl (obj_reads1 rfl) (by first | exact Tryz.underlying3 | exact Tryz.underlying53) (by rfl) (by decide) ?_)
    refine Plan.lookupT (key := 1000) (q := 1) (z := .pointer none) (μ := μ') (kvs := kvS S.ks) rfl rfl rfl rfl rfl Tryz.underlying53 Tryz.underlying9 (by kernel_rfl) rfl rfl (by decide) ?_
    rw [hm]
    refine Plan.eqlPtr rfl rfl rfl rfl (by kernel_rfl) ?_
    refine J.condF rfl ?_
    refine J.skip ?_
    refine J.seq (J.region mixed hI (by kernel_rfl) ?_)
    repeat (first | refine Plan.move rfl rfl rfl rfl ?_ | refine Plan.nilOk rfl rfl rfl rfl ?_ | refine Plan.fieldC rfl rfl rfl rfl (by first | exact Tryz.underlying58 | exact Tryz.underlying55) rfl (by kernel_rfl) (by exact (rfl : _ = 0)) ?_ | refine Plan.loadC (key := 1000) (q := 0) rfl rfl rfl rfl rfl rfl (obj_reads1 rfl) (by first | exact Tryz.underlying3 | exact Tryz.underlying53) (by rfl) (by decide) ?_)
    refine Plan.lookupT (key := 1000) (q := 1) (z := .pointer none) (μ := μ') (kvs := kvS S.ks) rfl rfl rfl rfl rfl Tryz.underlying53 Tryz.underlying9 (by kernel_rfl) rfl rfl (by decide) ?_
    repeat (refine Plan.assign rfl rfl rfl rfl ?_)
    refine J.ret (Nrm.retC1 (key := 1000) (μ, 0) rfl rfl rfl trivial ?_ ?_)
    · dsimp only; rw [hat]; exact Sub.refl _
    · dsimp only; rw [hat, ← hμ']; exact Ent.refl _
  · have hm := sp_out hk (.pointer none)
    have hat : ∀ η, atK S.ks key η = S.ks ++ [(⟨key, η, [], []⟩ : SE)] := fun η => if_neg hk
    refine J.seq (J.seq (J.region mixed hI (by kernel_rfl) ?_))
    repeat (first | refine Plan.move rfl rfl rfl rfl ?_ | refine Plan.nilOk rfl rfl rfl rfl ?_ | refine Plan.fieldC rfl rfl rfl rfl (by first | exact Tryz.underlying58 | exact Tryz.underlying55) rfl (by kernel_rfl) (by exact (rfl : _ = 0)) ?_ | refine Plan.loadC (key := 1000) (q := 0) rfl rfl rfl rfl rfl rfl (obj_reads1 rfl) (by first | exact Tryz.underlying3 | exact Tryz.underlying53) (by rfl) (by decide) ?_)
    refine Plan.lookupT (key := 1000) (q := 1) (z := .pointer none) (μ := μ') (kvs := kvS S.ks) rfl rfl rfl rfl rfl Tryz.underlying53 Tryz.underlying9 (by kernel_rfl) rfl rfl (by decide) ?_
    rw [hm]
    refine Plan.eqlPtr rfl rfl rfl rfl (by kernel_rfl) ?_
    refine J.condT rfl ?_
    refine J.region mixed hI (by kernel_rfl) ?_
    repeat (first | refine Plan.move rfl rfl rfl rfl ?_ | refine Plan.nilOk rfl rfl rfl rfl ?_ | refine Plan.fieldC rfl rfl rfl rfl (by first | exact Tryz.underlying58 | exact Tryz.underlying55) rfl (by kernel_rfl) (by exact (rfl : _ = 0)) ?_ | refine Plan.loadC (key := 1000) (q := 0) rfl rfl rfl rfl rfl rfl (obj_reads1 rfl) (by first | exact Tryz.underlying3 | exact Tryz.underlying53) (by rfl) (by decide) ?_)
    refine Plan.build rfl rfl rfl Parts.nil (cells := #[nilS, nilS]) (by kernel_rfl) ?_
    refine Plan.boxC (key := 1000) rfl rfl rfl (by intro _ e; cases e; decide) rfl rfl hA fun η => ?_
    refine Plan.mapUpdateT (key := 1000) (q := 1) (μ := μ') (kvs := kvS S.ks) (v := ptr η) rfl rfl rfl rfl rfl rfl rfl Tryz.underlying53 Tryz.underlying9 rfl hA rfl ?_
    have hpv : putVT (kvS S.ks) key (ptr η) = kvS (S.ks ++ [(⟨key, η, [], []⟩ : SE)]) := by rw [put_out hk]; simp [kvS]
    rw [hpv]
    repeat (fail)
    refine J.seq (J.region mixed hI (by kernel_rfl) ?_)
    repeat (first | refine Plan.move rfl rfl rfl rfl ?_ | refine Plan.nilOk rfl rfl rfl rfl ?_ | refine Plan.fieldC rfl rfl rfl rfl (by first | exact Tryz.underlying58 | exact Tryz.underlying55) rfl (by kernel_rfl) (by exact (rfl : _ = 0)) ?_ | refine Plan.loadC (key := 1000) (q := 0) rfl rfl rfl rfl rfl rfl (obj_reads1 rfl) (by first | exact Tryz.underlying3 | exact Tryz.underlying53) (by rfl) (by decide) ?_)
    refine Plan.lookupT (key := 1000) (q := 1) (z := .pointer none) (μ := μ') (kvs := kvS (S.ks ++ [(⟨key, η, [], []⟩ : SE)])) rfl rfl rfl rfl rfl Tryz.underlying53 Tryz.underlying9 (by kernel_rfl) rfl rfl (by decide) ?_
    repeat (refine Plan.assign rfl rfl rfl rfl ?_)
    refine J.ret (Nrm.retC1 (key := 1000) (μ, η) rfl rfl rfl trivial ?_ ?_)
    · dsimp only; rw [hat]; exact Sub.refl _
    · dsimp only
      rw [hat, ← hμ']
      have h1 : Ent (allC [allC (S.ks.map entC), obj η [nilS, nilS]]) (allC [allC ((S.ks ++ [(⟨key, η, [], []⟩ : SE)]).map entC)]) := by
        rw [List.map_append]
        exact (Ent.sep (Ent.refl _) (Ent.sep (ent_new η key) (Ent.refl _))).trans Ent.lastAdd
      exact Ent.sep (Ent.refl _) (Ent.sep (Ent.refl _) h1)
end Go.Proofs.YtmljgobenlpnfaaGreat
end
