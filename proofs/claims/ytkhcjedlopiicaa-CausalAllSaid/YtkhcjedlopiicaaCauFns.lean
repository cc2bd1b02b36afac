/-
  Events that come too early: joins of vectors, and what may be seen.
-/
import Derived.Test.YtkhcjedlopiicaaBagAllE
import Derived.Test.YtkhcjedlopiicaaBagPlain2
import Derived.Test.YtkhcjedlopiicaaFlatEq
import Derived.Test.YtkhcjedlopiicaaEvRightFn
import Derived.Test.YtkhcjedlopiicaaFreeFrame2
set_option linter.unusedSimpArgs false
set_option linter.unusedVariables false
set_option maxRecDepth 20000
namespace Go.Free
open Go.RowKit
section
variable {P : Program} {ops : Array Oper} {Q : Exit → Act → World → Prop} {n : Nat} {I : World → Prop} {E : Env} {A : Nat → Prop} {H : List Chunk} {key : Nat}
/-- A result that lies in a variable. -/
theorem Nrm.retCell {fn : Func} {R : Nat → Fa} {w0 : World} {t q β : Nat} {ty : TypeId} {td : TypeDesc} {c : Chunk} {cs : List Value} (hr : fn.results = #[.cell t ty]) (hI : ∀ w, I w → Below w0.heap.size w0 w)
    (hl : look E t = some (.ex (ptr β))) (hk : look E key = some (heap A H)) (hq : H[q]? = some c) (hrd : c.reads β 0 cs) (hu : P.underlying ty = some td) (hna : aggB td = true) (hi : (P.info? ty).map (·.size) = some cs.length)
    (hs : ∀ B, B ≤ w0.heap.size → R B = .ex (.agg cs.toArray)) : Nrm n I (FnPost P fn R w0 .ret) E := fun a w h1 h2 h3 => by
  obtain ⟨φ, hL, _⟩ := h3 key _ hk
  have hrun := cell_load (P := P) (hL.holds q _ hq) hrd hu hna hi
  have hv := h3 t _ hl
  simp only [Fa.den] at hv
  have hv' : a.tmps.getD t undef = ptr β := hv
  have hasz : (asAddr (a.tmps[t]?.getD undef)).run P w = .ok ⟨β, 0, none⟩ w := by rw [← Array.getD_eq_getD_getElem?, hv']; rfl
  refine ⟨h2.defers, .agg cs.toArray, ?_, hI w h1, fun B hB => ?_⟩
  · simp [results, hr, hasz, hrun]
  · rw [hs B hB]; simp only [Fa.den]
/-- A function that turns chunks, and whose first result lies in a variable. -/
theorem Nrm.retCc2 {fn : Func} {X : Type} {ok : X → Prop} {R : X → Fa} {c' : X → Chunk} {w0 : World} {F : Nat → Prop} {t u q β : Nat} {ty : TypeId} {td : TypeDesc} {c : Chunk} {cs : List Value} {v : Value} (x : X) (hr : fn.results = #[.cell t ty, .tmp u])
    (hl : look E t = some (.ex (ptr β))) (hlu : look E u = some (.ex v)) (hk : look E key = some (heap (fun b => F b ∨ w0.heap.size ≤ b) H)) (hq : H[q]? = some c) (hrd : c.reads β 0 cs) (hu : P.underlying ty = some td) (hna : aggB td = true) (hi : (P.info? ty).map (·.size) = some cs.length)
    (hok : ok x) (hs : R x = .tup [.ex (.agg cs.toArray), .ex v]) (he : Ent (allC H) (c' x)) : Nrm n (fun w => Kept F w0 w) (FnPostC P fn ok R c' w0 F .ret) E := fun a w h1 h2 h3 => by
  obtain ⟨φ, hL, hA⟩ := h3 key _ hk
  obtain ⟨G, g1, g2⟩ := he w _ hL.all
  have hrun := cell_load (P := P) (hL.holds q _ hq) hrd hu hna hi
  have hv := h3 t _ hl
  have hvu := h3 u _ hlu
  simp only [Fa.den] at hv hvu
  have hv' : a.tmps.getD t undef = ptr β := hv
  have hasz : (asAddr (a.tmps[t]?.getD undef)).run P w = .ok ⟨β, 0, none⟩ w := by rw [← Array.getD_eq_getD_getElem?, hv']; rfl
  refine ⟨h2.defers, .tuple #[.agg cs.toArray, a.slot u], x, ?_, hok, h1, ?_, G, g1, fun b hb => by obtain ⟨q, hq⟩ := g2 b hb; exact hA q b hq⟩
  · simp [results, hr, hasz, hrun, Act.slot]
  · rw [hs]
    simp only [Fa.den]
    exact ⟨[_, _], rfl, ⟨_, _, rfl, rfl, ⟨_, _, rfl, hvu, rfl⟩⟩⟩
end
end Go.Free
namespace Go.Proofs.Ytkhcjedlopiicaa
open Go.Free Go.RowKit Go.Proofs
set_option maxHeartbeats 8000000

def okV (v : Nat → Int) : Prop := ∀ i, i < 16 → in64 (v i)
def maxV (v w : Nat → Int) : Nat → Int := fun i => max (v i) (w i)
theorem okV_max {v w : Nat → Int} (hv : okV v) (hw : okV w) : okV (maxV v w) := fun i hi => by
  have h1 := hv i hi
  have h2 := hw i hi
  unfold maxV in64 at *; omega
theorem set_vL (f : Nat → Int) (x : Int) : ∀ {i : Nat}, i < 16 → (vList f).set i (vi x) = vList fun j => if j = i then x else f j
  | 0, _ => rfl | 1, _ => rfl | 2, _ => rfl | 3, _ => rfl | 4, _ => rfl | 5, _ => rfl | 6, _ => rfl | 7, _ => rfl | 8, _ => rfl | 9, _ => rfl | 10, _ => rfl | 11, _ => rfl | 12, _ => rfl | 13, _ => rfl | 14, _ => rfl | 15, _ => rfl
  | _ + 16, h => absurd h (by omega)
def upTo (v w : Nat → Int) (i : Nat) : Nat → Int := fun j => if j < i then maxV v w j else v j
theorem upTo_set (v w : Nat → Int) {i : Nat} (h : i < 16) : (vList (upTo v w i)).set i (vi (maxV v w i)) = vList (upTo v w (i + 1)) := by
  rw [set_vL _ _ h]
  congr 1
  funext j
  unfold upTo
  by_cases h1 : j = i
  · subst h1; rw [if_pos rfl, if_pos (by omega)]
  · rw [if_neg h1]
    by_cases h2 : j < i
    · rw [if_pos h2, if_pos (by omega)]
    · rw [if_neg h2, if_neg (by omega)]
def joE (w0 : World) (v w : Nat → Int) (a b c : Nat) (i : Nat) : Env :=
  [(2, .ex (ptr a)), (4, .ex (ptr c)), (7, .ex (aggV w)), (8, .ex (vi i)), (1000, heap (newB w0) [obj a (vList (upTo v w i)), obj b (vList w), obj c (vList fun _ => 0)])]
theorem join_fn (v w : Nat → Int) : Spc Try.prog 106 [.ex (aggV v), .ex (aggV w)] fun _ => .ex (aggV (maxV v w)) := by
  refine Spc.intro Try.func106 rfl (Nat.le_of_ble_eq_true rfl) fun w0 => ?_
  have hI := hIb w0
  have hA := Own.below w0
  refine J.heap0 1000 (newB w0) ?_
  repeat (refine J.seq (J.region mixed hI (by kernel_rfl) ?_))
  refine Plan.boxC (key := 1000) rfl rfl rfl (by intro _ e; cases e; decide) rfl rfl hA fun a => ?_
  refine Plan.boxC (key := 1000) rfl rfl rfl (by intro _ e; cases e; decide) rfl rfl hA fun b => ?_
  refine Plan.allocC (key := 1000) (z := .agg (vList fun _ => 0).toArray) rfl rfl rfl (by intro _ e; cases e; decide) (by kernel_rfl) rfl hA fun c => ?_
  repeat (refine J.seq (J.seq (J.region mixed hI (by kernel_rfl) ?_)))
  refine Plan.loadAggC (key := 1000) (q := 1) (vs := vList w) rfl rfl rfl rfl rfl rfl obj_whole Try.underlying42 rfl (by kernel_rfl) (by decide) ?_
  repeat (refine Plan.move rfl rfl rfl rfl ?_)
  refine J.block (J.loop (joE w0 v w a b c) (fun i => i ≤ 16) (fun i => 16 - i) 0 (Nat.zero_le _) ?_ ?_)
  · repeat (first | exact Weak.nil | refine Weak.cons rfl (Sub.refl _) ?_)
  intro i hi
  repeat (first | (refine Plan.ints rfl rfl rfl rfl rfl rfl ?_; (skip)) | refine J.seq (J.region mixed hI (by kernel_rfl) ?_))
  refine J.seq (J.condD rfl (fun hc => ?_) (fun hc => ?_))
  · have hlt : i < 16 := by omega
    have hup : (vList (upTo v w i))[i]? = some (vi (v i)) := by rw [vList_get _ hlt]; unfold upTo; rw [if_neg (by omega)]
    repeat (refine J.skip ?_)
    refine J.seq (J.block ?_)
    repeat (first | refine Plan.move rfl rfl rfl rfl ?_ | refine J.seq (J.region mixed hI (by kernel_rfl) ?_))
    refine Plan.indexAgg (len := 16) (vs := vList w) rfl rfl rfl rfl rfl Try.underlying42 (by kernel_rfl) Try.underlying3 rfl (by omega) (by omega) (by rw [Int.toNat_natCast]; exact vList_get w hlt) ?_
    repeat (first | refine Plan.move rfl rfl rfl rfl ?_ | refine Plan.assign rfl rfl rfl rfl ?_ | refine J.region mixed hI (by kernel_rfl) ?_)
    refine Plan.indexArr (off := i) (len := 16) (sz := 1) rfl rfl rfl rfl rfl Try.underlying42 (by kernel_rfl) (by omega) (by omega) (by simp) ?_
    refine Plan.loadC (key := 1000) (q := 0) rfl rfl rfl rfl rfl rfl (obj_reads1 hup) Try.underlying3 rfl (by decide) ?_
    repeat (refine Plan.move rfl rfl rfl rfl ?_)
    refine Plan.max2 rfl rfl rfl rfl rfl ?_
    refine Plan.int (y := maxV v w i) (by unfold maxV; split <;> omega) ?_
    refine Plan.indexArr (off := i) (len := 16) (sz := 1) rfl rfl rfl rfl rfl Try.underlying42 (by kernel_rfl) (by omega) (by omega) (by simp) ?_
    refine Plan.storeC (key := 1000) (q := 0) rfl rfl rfl rfl rfl rfl (by simp [Value.cells, Value.oneCell']) (by kernel_rfl) rfl hA rfl (obj_pat1 (show i < 16 from hlt)) ?_
    rw [upTo_set v w hlt]
    repeat (first | refine Plan.move rfl rfl rfl rfl ?_ | (refine Plan.ints rfl rfl rfl rfl rfl rfl ?_; (refine Plan.int (i64r (by omega)) ?_)) | refine J.region mixed hI (by kernel_rfl) ?_)
    refine Plan.int (y := ((i + 1 : Nat) : Int)) (by omega) ?_
    repeat (fail)
    exact Nrm.next (i + 1) (by omega) (by omega) (by repeat (first | exact Weak.nil | refine Weak.cons rfl (Sub.refl _) ?_))
  have hie : i = 16 := by omega
  subst hie
  refine J.exit ?_
  refine J.regroup (key := 1000) [obj a (vList (maxV v w)), obj c (vList fun _ => 0)] rfl (Ent.pickC [0, 2] rfl rfl) ?_
  repeat (refine J.seq (J.region mixed hI (by kernel_rfl) ?_))
  refine Plan.loadAggC (key := 1000) (q := 0) (vs := vList (maxV v w)) rfl rfl rfl rfl rfl rfl obj_whole Try.underlying42 rfl (by kernel_rfl) (by decide) ?_
  refine Plan.storeC (key := 1000) (q := 1) (off := 0) rfl rfl rfl rfl rfl rfl (by simp [Value.cells, Value.oneCell', vList]) (by show _ = some (vList (maxV v w)).toArray.size; kernel_rfl) rfl hA rfl (obj_pat (Nat.le_of_ble_eq_true rfl)) ?_
  refine J.regroup (key := 1000) [obj c (vList (maxV v w))] rfl (Ent.pickC [1] rfl rfl) ?_
  exact J.ret (Nrm.retCell (key := 1000) (q := 0) rfl (fun _ h => h) rfl rfl rfl obj_whole Try.underlying42 rfl (by kernel_rfl) fun B _ => rfl)
/-! ### What may be seen -/
def incW (n : Int) : Int := IntKind.i64.wrap (n + 1)
def mostB (d v : Nat → Int) : Bool := (List.range 16).all fun i => decide (d i ≤ v i)
theorem mostB_iff {d v : Nat → Int} : mostB d v = true ↔ ∀ i, i < 16 → d i ≤ v i := by
  unfold mostB
  rw [List.all_eq_true]
  exact ⟨fun h i hi => of_decide_eq_true (h i (List.mem_range.2 hi)), fun h i hi => decide_eq_true (h i (List.mem_range.1 hi))⟩
def mayB (e : EvV) (v : Nat → Int) : Bool := (e.n == incW (v e.r.toNat)) && mostB e.d v
theorem formedVV (zs : Array Value) (h : zs.size = 16) : (Value.agg zs).formed Try.prog 42 = true := by
  have hc : Try.prog.cellsOf 42 = 16 := by kernel_rfl
  unfold Value.formed
  rw [Try.underlying42]
  simp only [hc, h]
  rfl
theorem vv_cells {v : Nat → Int} (h : okV v) : CellsOk (List.replicate 16 (.int .i64)) (vList v) :=
  ⟨_, _, rfl, intF (h 0 (by decide)), _, _, rfl, intF (h 1 (by decide)), _, _, rfl, intF (h 2 (by decide)), _, _, rfl, intF (h 3 (by decide)), _, _, rfl, intF (h 4 (by decide)), _, _, rfl, intF (h 5 (by decide)), _, _, rfl, intF (h 6 (by decide)), _, _, rfl, intF (h 7 (by decide)),
   _, _, rfl, intF (h 8 (by decide)), _, _, rfl, intF (h 9 (by decide)), _, _, rfl, intF (h 10 (by decide)), _, _, rfl, intF (h 11 (by decide)), _, _, rfl, intF (h 12 (by decide)), _, _, rfl, intF (h 13 (by decide)), _, _, rfl, intF (h 14 (by decide)), _, _, rfl, intF (h 15 (by decide)), rfl⟩
theorem vList_inj {v w : Nat → Int} : vList v = vList w ↔ ∀ i, i < 16 → v i = w i := by
  constructor
  · intro h i hi
    have h1 := vList_get v hi
    rw [h, vList_get w hi] at h1
    simpa using h1.symm
  · intro h
    simp [vList, h]
theorem max_eq (d v : Nat → Int) : mostB d v = true ↔ vList (maxV d v) = vList v := by
  rw [mostB_iff, vList_inj]
  unfold maxV
  exact ⟨fun h i hi => Int.max_eq_right (h i hi), fun h i hi => by have := h i hi; omega⟩
theorem may_fn (e : EvV) (v : Nat → Int) (he : e.okV) (hv : okV v) (hr : 0 ≤ e.r ∧ e.r < 16) : Spc Try.prog 88 [.ex (aggE e), .ex (aggV v)] fun _ => .ex (.bool (mayB e v)) := by
  have hn : e.r.toNat < 16 := by omega
  have hok := okV_max (v := e.d) (w := v) (fun i hi => he.2.2.2.1 i hi) hv
  refine Spc.intro Try.func88 rfl (Nat.le_of_ble_eq_true rfl) fun w0 => ?_
  have hI := hIb w0
  have hA := Own.below w0
  refine J.heap0 1000 (newB w0) ?_
  repeat (refine J.seq (J.region mixed hI (by kernel_rfl) ?_))
  refine Plan.boxC (key := 1000) rfl rfl rfl (by intro _ e; cases e; decide) rfl rfl hA fun a => ?_
  refine Plan.boxC (key := 1000) rfl rfl rfl (by intro _ e; cases e; decide) rfl rfl hA fun b => ?_
  repeat (first | refine Plan.assign rfl rfl rfl rfl ?_ | refine Plan.fieldC rfl rfl rfl rfl (by first | exact Try.underlying86 | exact Try.underlying28) rfl (by kernel_rfl) (by first | exact (rfl : _ = 0) | exact (rfl : _ = 1)) ?_ | refine Plan.loadC (key := 1000) (q := 0) rfl rfl rfl rfl rfl rfl (obj_reads1 rfl) (by exact Try.underlying3) (by rfl) (by decide) ?_ | refine J.seq (J.region mixed hI (by kernel_rfl) ?_))
  refine Plan.indexArr (off := e.r.toNat) (len := 16) (sz := 1) rfl rfl rfl rfl rfl Try.underlying42 (by kernel_rfl) (by omega) (by omega) (by simp) ?_
  refine Plan.loadC (key := 1000) (q := 1) (off := e.r.toNat) rfl rfl rfl rfl rfl rfl (obj_reads1 (vList_get v hn)) Try.underlying3 rfl (by decide) ?_
  refine Plan.ints (v := .int .i64 (incW (v e.r.toNat))) rfl rfl rfl rfl rfl rfl ?_
  refine Plan.ints (v := .bool (e.n == incW (v e.r.toNat))) rfl rfl rfl rfl rfl rfl ?_
  repeat (refine Plan.move rfl rfl rfl rfl ?_)
  unfold mayB
  cases hq : (e.n == incW (v e.r.toNat)) with
  | false =>
    repeat (first | refine Plan.assign rfl rfl rfl rfl ?_ | refine Plan.skip rfl rfl ?_ | refine Plan.pick rfl rfl rfl rfl rfl ?_)
    exact J.ret (Nrm.ret1 rfl (fun _ h => h) rfl fun B _ => Sub.refl _)
  | true =>
    repeat (refine Plan.fieldC rfl rfl rfl rfl (by exact Try.underlying86) rfl (by kernel_rfl) (by exact (rfl : _ = 3)) ?_)
    refine Plan.loadAggC (key := 1000) (q := 0) (off := 3) (vs := vList e.d) rfl rfl rfl rfl rfl rfl (obj_reads rfl) Try.underlying42 rfl (by kernel_rfl) (by decide) ?_
    refine Plan.loadAggC (key := 1000) (q := 1) (vs := vList v) rfl rfl rfl rfl rfl rfl (obj_reads rfl) Try.underlying42 rfl (by kernel_rfl) (by decide) ?_
    refine Plan.call (B := w0.heap.size) rfl rfl rfl (join_fn e.d v) Try.func106 rfl rfl (hBb w0) (by repeat (first | exact Opnds.nil | refine Opnds.cons rfl (by exact Sub.refl _) ?_)) ?_
    refine Plan.loadAggC (key := 1000) (q := 1) (vs := vList v) rfl rfl rfl rfl rfl rfl (obj_reads rfl) Try.underlying42 rfl (by kernel_rfl) (by decide) ?_
    refine Plan.eqAgg (m := 9) (l := List.replicate 16 (.int .i64)) (xs := vList (maxV e.d v)) (ys := vList v) (r := mostB e.d v) rfl rfl rfl rfl rfl (by decide) (by kernel_rfl) (by kernel_rfl) (by kernel_rfl) (vv_cells hok) (vv_cells hv) formedVV (max_eq e.d v) (.inl ⟨rfl, rfl⟩) ?_
    repeat (first | refine Plan.assign rfl rfl rfl rfl ?_ | refine Plan.pick rfl rfl rfl rfl rfl ?_)
    exact J.ret (Nrm.ret1 rfl (fun _ h => h) rfl fun B _ => Sub.refl _)
end Go.Proofs.Ytkhcjedlopiicaa
