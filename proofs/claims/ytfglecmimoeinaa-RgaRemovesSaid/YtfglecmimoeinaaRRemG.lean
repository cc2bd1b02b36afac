/-
  Laid together: RgaCmp, RgaEnds, RgaDel, RgaDelF, RgaKidsP, RgaKids, RgaWalk, RgaTree, RgaOrderF, RgaItems, RgaDots.
-/
import Derived.Test.YtfglecmimoeinaaRRemF

section
set_option linter.unusedSimpArgs false
set_option linter.unusedVariables false
set_option maxRecDepth 20000
namespace Go.Proofs.Ytfglecmimoeinaa
open Go.Free Go.RowKit Go.Proofs Go.Free.Sorts
set_option maxHeartbeats 8000000

theorem formedDtR (zs : Array Value) (h : zs.size = 2) : (Value.agg zs).formed Try.prog 26 = true := by
  have hc : Try.prog.cellsOf 26 = 2 := by kernel_rfl
  unfold Value.formed
  rw [Try.underlying26]
  simp only [hc, h]
  rfl
def okD (d : Dt) : Prop := in64 d.1 ∧ in64 d.2
theorem Plan.eqlDt {ops : Array Oper} {Q : Exit → Act → World → Prop} {n : Nat} {I : World → Prop} {k i : Nat} {E : Env} {o : Oper} {d : Bool} {x y : Operand} {yt : TypeId} (a b : Dt) (ho : ops[i]? = some o) (hop : o.op = .binOp .eql 26 x y yt) (hg : wantB ops E o = some true)
    (hx : opF E x = some (.ex (aggD a.1 a.2))) (hy : opF E y = some (.ex (aggD b.1 b.2))) (ha : okD a) (hb : okD b)
    (h : Plan Try.prog ops Q n I d k (i + 1) (setE o.dst (.ex (.bool (decide (a = b)))) E)) : Plan Try.prog ops Q n I d (k + 1) i E :=
  Plan.eqAgg (m := 9) (l := [.int .i64, .int .i64]) (xs := [vi a.1, vi a.2]) (ys := [vi b.1, vi b.2]) (r := decide (a = b)) ho hop hg hx hy (by decide) (by kernel_rfl) (by kernel_rfl) (by kernel_rfl)
    ⟨_, _, rfl, intF ha.1, _, _, rfl, intF ha.2, rfl⟩ ⟨_, _, rfl, intF hb.1, _, _, rfl, intF hb.2, rfl⟩ formedDtR (by obtain ⟨a1, a2⟩ := a; obtain ⟨b1, b2⟩ := b; simp) (.inl ⟨rfl, rfl⟩) h
theorem Plan.neqDt {ops : Array Oper} {Q : Exit → Act → World → Prop} {n : Nat} {I : World → Prop} {k i : Nat} {E : Env} {o : Oper} {d : Bool} {x y : Operand} {yt : TypeId} (a b : Dt) (ho : ops[i]? = some o) (hop : o.op = .binOp .neq 26 x y yt) (hg : wantB ops E o = some true)
    (hx : opF E x = some (.ex (aggD a.1 a.2))) (hy : opF E y = some (.ex (aggD b.1 b.2))) (ha : okD a) (hb : okD b)
    (h : Plan Try.prog ops Q n I d k (i + 1) (setE o.dst (.ex (.bool (!decide (a = b)))) E)) : Plan Try.prog ops Q n I d (k + 1) i E :=
  Plan.eqAgg (m := 9) (l := [.int .i64, .int .i64]) (xs := [vi a.1, vi a.2]) (ys := [vi b.1, vi b.2]) (r := decide (a = b)) ho hop hg hx hy (by decide) (by kernel_rfl) (by kernel_rfl) (by kernel_rfl)
    ⟨_, _, rfl, intF ha.1, _, _, rfl, intF ha.2, rfl⟩ ⟨_, _, rfl, intF hb.1, _, _, rfl, intF hb.2, rfl⟩ formedDtR (by obtain ⟨a1, a2⟩ := a; obtain ⟨b1, b2⟩ := b; simp) (.inr ⟨rfl, rfl⟩) h
theorem hang_fn (ε : Nat) (e x : EvV) (he : e.okV) (hx : x.okV) : SpcR Try.prog 32 [.ex (aggE x), .ex (ptr ε)] (obj ε e.enc) fun _ => .ex (.bool (hangs e x)) := by
  refine SpcR.introOld Try.func32 rfl (Nat.le_of_ble_eq_true rfl) fun w0 => ?_
  have hI := hIb w0
  have hA := Own.below w0
  refine J.heap0 1001 (newB w0) ?_
  refine J.seq (J.region mixed hI (by kernel_rfl) ?_)
  refine Plan.boxC (key := 1001) rfl rfl rfl (by intro _ e; cases e; decide) rfl rfl hA fun α => ?_
  repeat (refine Plan.assign rfl rfl rfl rfl ?_)
  refine J.heapAgain 1000 (fun _ h => h) rfl ?_
  refine J.seq (J.region mixed hI (by kernel_rfl) ?_)
  repeat (refine Plan.fieldC rfl rfl rfl rfl (by exact Try.underlying41) rfl (by kernel_rfl) (by exact (rfl : _ = 0)) ?_)
  refine Plan.loadAggC (key := 1001) (q := 0) (vs := [vi x.r, vi x.n]) rfl rfl rfl rfl rfl rfl (obj_reads rfl) Try.underlying26 rfl (by kernel_rfl) (by decide) ?_
  repeat (refine Plan.fieldC rfl rfl rfl rfl (by first | exact Try.underlying41 | exact Try.underlying39) rfl (by kernel_rfl) (by first | exact (rfl : _ = 19) | exact (rfl : _ = 24)) ?_)
  refine Plan.loadAggC (key := 1000) (q := 0) (vs := [vi e.rr, vi e.rn]) rfl rfl rfl rfl rfl rfl (obj_reads rfl) Try.underlying26 rfl (by kernel_rfl) (by decide) ?_
  refine Plan.eqlDt (x.r, x.n) (e.rr, e.rn) rfl rfl rfl rfl rfl ⟨hx.1, hx.2.1⟩ ⟨he.2.2.2.2.2.2.2.2.2.1, he.2.2.2.2.2.2.2.2.2.2⟩ ?_
  by_cases hd : x.r = e.rr ∧ x.n = e.rn
  · refine Plan.boolv (y := true) (by simp [hd]) ?_
    repeat (refine Plan.move rfl rfl rfl rfl ?_)
    refine Plan.loadAggC (key := 1000) (q := 0) (vs := e.enc) rfl rfl rfl rfl rfl rfl obj_whole Try.underlying41 rfl (by rw [encE]; kernel_rfl) (by decide) ?_
    refine Plan.loadAggC (key := 1001) (q := 0) (vs := x.enc) rfl rfl rfl rfl rfl rfl obj_whole Try.underlying41 rfl (by rw [encE]; kernel_rfl) (by decide) ?_
    refine Plan.call (B := w0.heap.size) rfl rfl rfl (later_fn e x) Try.func33 rfl rfl (hBb w0) (by repeat (first | exact Opnds.nil | refine Opnds.cons rfl (by exact Sub.refl _) ?_)) ?_
    repeat (first | refine Plan.assign rfl rfl rfl rfl ?_ | refine Plan.pick rfl rfl rfl rfl rfl ?_)
    have h1 : hangs e x = later e x := by unfold hangs; rw [decide_eq_true hd]; rfl
    rw [h1]
    exact J.ret (Nrm.ret1 rfl (fun _ h => h) rfl fun B _ => Sub.refl _)
  · refine Plan.boolv (y := false) (by simp; intro h; exact fun h2 => hd ⟨h, h2⟩) ?_
    repeat (first | refine Plan.move rfl rfl rfl rfl ?_ | refine Plan.assign rfl rfl rfl rfl ?_ | refine Plan.skip rfl rfl ?_ | refine Plan.pick rfl rfl rfl rfl rfl ?_)
    have h1 : hangs e x = false := by unfold hangs; rw [decide_eq_false hd]; rfl
    rw [h1]
    exact J.ret (Nrm.ret1 rfl (fun _ h => h) rfl fun B _ => Sub.refl _)
def idxM (n : List EvV) (e : EvV) : Int := match n.findIdx? (hangs e) with | some j => (j : Int) | none => -1
theorem ixh_found {n : List EvV} {e : EvV} {j : Nat} (hj : j < n.length) (hp : hangs e n[j] = true) (h : ∀ i (hi : i < n.length), i < j → hangs e n[i] = false) : idxM n e = j := by
  have : n.findIdx? (hangs e) = some j := List.findIdx?_eq_some_iff_getElem.2 ⟨hj, hp, fun i hi => by rw [h i (by omega) hi]; simp⟩
  unfold idxM; rw [this]
theorem ixh_none {n : List EvV} {e : EvV} (h : ∀ i (hi : i < n.length), hangs e n[i] = false) : idxM n e = -1 := by
  have : n.findIdx? (hangs e) = none := List.findIdx?_eq_none_iff.2 fun x hx => by
    obtain ⟨i, hi, rfl⟩ := List.getElem_of_mem hx
    exact h i hi
  unfold idxM; rw [this]
def ixE (ε g cap : Nat) (n : List EvV) (e : EvV) (i : Nat) : Env :=
  [(0, .ex (.slice (some ⟨g, 0, none⟩) n.length cap)), (1, .ex (fnV 32 [ptr ε])), (7, .ex (vi n.length)), (8, .ex (vi i)), (1000, heap (fun _ => True) [rowEv (some ⟨g, 0, none⟩) n.length cap (evsC n), obj ε e.enc])]
theorem index_fn (ε g cap : Nat) (n : List EvV) (e : EvV) (hn : n.length ≤ 1000000) (hok : ∀ x ∈ n, x.okV) (he : e.okV) :
    SpcR Try.prog 31 [.ex (.slice (some ⟨g, 0, none⟩) n.length cap), .ex (fnV 32 [ptr ε])] (allC [rowEv (some ⟨g, 0, none⟩) n.length cap (evsC n), obj ε e.enc]) fun _ => .ex (vi (idxM n e)) := by
  refine SpcR.intro Try.func31 rfl (Nat.le_of_ble_eq_true rfl) fun w0 => ?_
  have hI := hIb w0
  refine J.open1 (key := 1000) rfl ?_
  refine J.seq (J.region mixed hI (by kernel_rfl) ?_)
  repeat (refine Plan.assign rfl rfl rfl rfl ?_)
  refine J.seq (J.seq (J.region mixed hI (by kernel_rfl) ?_))
  repeat (first | refine Plan.move rfl rfl rfl rfl ?_ | refine Plan.lenE rfl rfl rfl rfl (by exact Try.underlying22) ?_)
  refine J.block (J.loop (ixE ε g cap n e) (fun i => i ≤ n.length ∧ ∀ j (hj : j < n.length), j < i → hangs e n[j] = false) (fun i => n.length - i) 0 ⟨Nat.zero_le _, fun j _ h => by omega⟩ ?_ ?_)
  · repeat (first | exact Weak.nil | refine Weak.cons rfl (Sub.refl _) ?_)
  rintro i ⟨hi, hno⟩
  refine J.seq (J.region mixed hI (by kernel_rfl) ?_)
  repeat ((refine Plan.ints rfl rfl rfl rfl rfl rfl ?_; (skip)))
  refine J.seq (J.condD rfl (fun hc => ?_) (fun hc => ?_))
  · have hlt : i < n.length := by omega
    refine J.skip ?_
    refine J.seq (J.block ?_)
    refine J.seq (J.region mixed hI (by kernel_rfl) ?_)
    repeat (first | refine Plan.move rfl rfl rfl rfl ?_ | refine Plan.assign rfl rfl rfl rfl ?_)
    refine J.seq (J.region mixed hI (by kernel_rfl) ?_)
    repeat (refine Plan.move rfl rfl rfl rfl ?_)
    refine Plan.indexC (off := i * 26) rfl rfl rfl rfl rfl eltE hlt (by omega) ?_
    refine Plan.loadAggC (key := 1000) (q := 0) (off := i * 26) (vs := n[i].enc) rfl rfl rfl rfl rfl rfl (row_reads (evs_at n hlt)) Try.underlying41 rfl (by rw [encE]; kernel_rfl) (by decide) ?_
    refine Plan.callFR (key := 1000) (B := 0) (fs := [.ex (aggE n[i])]) (caps := [ptr ε]) rfl rfl rfl rfl (hang_fn ε e n[i] he (hok _ (List.getElem_mem hlt))) Try.func32 rfl rfl (fun _ _ => Nat.zero_le _) (Opnds.cons rfl (Sub.refl _) Opnds.nil) rfl (Ent.right.trans Ent.left) (by decide) ?_
    repeat (fail)
    cases hh : hangs e n[i] with
    | true =>
      refine J.condT rfl ?_
      refine J.seq (J.region mixed hI (by kernel_rfl) ?_)
      repeat (first | refine Plan.move rfl rfl rfl rfl ?_ | refine Plan.assign rfl rfl rfl rfl ?_)
      rw [ixh_found hlt hh hno]
      exact J.ret (Nrm.ret1 rfl (fun _ h => h) rfl fun B _ => Sub.refl _)
    | false =>
      refine J.condF rfl ?_
      refine J.skip ?_
      refine J.region mixed hI (by kernel_rfl) ?_
      repeat (first | refine Plan.move rfl rfl rfl rfl ?_ | (refine Plan.ints rfl rfl rfl rfl rfl rfl ?_; (refine Plan.int (i64r (by omega)) ?_)))
      refine Plan.int (y := ((i + 1 : Nat) : Int)) (by omega) ?_
      repeat (fail)
      refine Nrm.next (i + 1) ⟨hlt, fun j hj hji => ?_⟩ (by omega) (by repeat (first | exact Weak.nil | refine Weak.cons rfl (Sub.refl _) ?_))
      by_cases hje : j = i
      · subst hje; exact hh
      · exact hno j hj (by omega)
  · have hie : i = n.length := by omega
    refine J.exit ?_
    refine J.seq (J.region mixed hI (by kernel_rfl) ?_)
    repeat (refine Plan.assign rfl rfl rfl rfl ?_)
    rw [ixh_none fun j hj => hno j hj (by omega)]
    exact J.ret (Nrm.ret1 rfl (fun _ h => h) rfl fun B _ => Sub.refl _)
def cmpV (n : List EvV) (x y : Nat) : Int := if later (n.getD x ev0) (n.getD y ev0) = true then -1 else if later (n.getD y ev0) (n.getD x ev0) = true then 1 else 0
abbrev cellS (β g m cap : Nat) : Chunk := obj β [.slice (some ⟨g, 0, none⟩) m cap]
abbrev nC (β g cap : Nat) (n : List EvV) : Chunk := allC [cellS β g n.length cap, rowEv (some ⟨g, 0, none⟩) n.length cap (evsC n)]
theorem cmp_fn (β g cap : Nat) (n : List EvV) (x y : Nat) (hx : x < n.length) (hy : y < n.length) :
    SpcR Try.prog 35 [.ex (vi x), .ex (vi y), .ex (ptr β)] (nC β g cap n) fun _ => .ex (vi (cmpV n x y)) := by
  refine SpcR.intro Try.func35 rfl (Nat.le_of_ble_eq_true rfl) fun w0 => ?_
  have hI := hIb w0
  refine J.open1 (key := 1000) rfl ?_
  refine J.seq (J.region mixed hI (by kernel_rfl) ?_)
  repeat (refine Plan.assign rfl rfl rfl rfl ?_)
  refine J.seq (J.block ?_)
  refine J.seq (J.region mixed hI (by kernel_rfl) ?_)
  repeat (first | refine Plan.move rfl rfl rfl rfl ?_ | refine Plan.loadC (key := 1000) (q := 0) rfl rfl rfl rfl rfl rfl (obj_reads1 rfl) (by first | exact Try.underlying3 | exact Try.underlying22) (by rfl) (by decide) ?_)
  refine Plan.indexC (off := x * 26) rfl rfl rfl rfl rfl eltE hx (by omega) ?_
  refine Plan.loadAggC (key := 1000) (q := 1) (off := x * 26) (vs := (n.getD x ev0).enc) rfl rfl rfl rfl rfl rfl (row_reads (evs_atD n hx)) Try.underlying41 rfl (by rw [encE]; kernel_rfl) (by decide) ?_
  repeat (first | refine Plan.move rfl rfl rfl rfl ?_ | refine Plan.loadC (key := 1000) (q := 0) rfl rfl rfl rfl rfl rfl (obj_reads1 rfl) (by first | exact Try.underlying3 | exact Try.underlying22) (by rfl) (by decide) ?_)
  refine Plan.indexC (off := y * 26) rfl rfl rfl rfl rfl eltE hy (by omega) ?_
  refine Plan.loadAggC (key := 1000) (q := 1) (off := y * 26) (vs := (n.getD y ev0).enc) rfl rfl rfl rfl rfl rfl (row_reads (evs_atD n hy)) Try.underlying41 rfl (by rw [encE]; kernel_rfl) (by decide) ?_
  refine Plan.call (B := w0.heap.size) rfl rfl rfl (later_fn (n.getD x ev0) (n.getD y ev0)) Try.func33 rfl rfl (hBb w0) (by repeat (first | exact Opnds.nil | refine Opnds.cons rfl (by exact Sub.refl _) ?_)) ?_
  repeat (refine Plan.assign rfl rfl rfl rfl ?_)
  cases h1 : later (n.getD x ev0) (n.getD y ev0) with
  | true =>
    refine J.condT rfl ?_
    refine J.seq (J.region mixed hI (by kernel_rfl) ?_)
    repeat (refine Plan.assign rfl rfl rfl rfl ?_)
    have e : cmpV n x y = -1 := by unfold cmpV; rw [if_pos h1]
    rw [e]
    exact J.ret (Nrm.ret1 rfl (fun _ h => h) rfl fun B _ => Sub.refl _)
  | false =>
    refine J.condF rfl ?_
    refine J.seq (J.region mixed hI (by kernel_rfl) ?_)
    repeat (first | refine Plan.move rfl rfl rfl rfl ?_ | refine Plan.loadC (key := 1000) (q := 0) rfl rfl rfl rfl rfl rfl (obj_reads1 rfl) (by first | exact Try.underlying3 | exact Try.underlying22) (by rfl) (by decide) ?_)
    refine Plan.indexC (off := y * 26) rfl rfl rfl rfl rfl eltE hy (by omega) ?_
    refine Plan.loadAggC (key := 1000) (q := 1) (off := y * 26) (vs := (n.getD y ev0).enc) rfl rfl rfl rfl rfl rfl (row_reads (evs_atD n hy)) Try.underlying41 rfl (by rw [encE]; kernel_rfl) (by decide) ?_
    repeat (first | refine Plan.move rfl rfl rfl rfl ?_ | refine Plan.loadC (key := 1000) (q := 0) rfl rfl rfl rfl rfl rfl (obj_reads1 rfl) (by first | exact Try.underlying3 | exact Try.underlying22) (by rfl) (by decide) ?_)
    refine Plan.indexC (off := x * 26) rfl rfl rfl rfl rfl eltE hx (by omega) ?_
    refine Plan.loadAggC (key := 1000) (q := 1) (off := x * 26) (vs := (n.getD x ev0).enc) rfl rfl rfl rfl rfl rfl (row_reads (evs_atD n hx)) Try.underlying41 rfl (by rw [encE]; kernel_rfl) (by decide) ?_
    refine Plan.call (B := w0.heap.size) rfl rfl rfl (later_fn (n.getD y ev0) (n.getD x ev0)) Try.func33 rfl rfl (hBb w0) (by repeat (first | exact Opnds.nil | refine Opnds.cons rfl (by exact Sub.refl _) ?_)) ?_
    repeat (refine Plan.assign rfl rfl rfl rfl ?_)
    cases h2 : later (n.getD y ev0) (n.getD x ev0) with
    | true =>
      refine J.condT rfl ?_
      refine J.seq (J.region mixed hI (by kernel_rfl) ?_)
      repeat (refine Plan.assign rfl rfl rfl rfl ?_)
      have e : cmpV n x y = 1 := by unfold cmpV; rw [if_neg (by rw [h1]; simp), if_pos h2]
      rw [e]
      exact J.ret (Nrm.ret1 rfl (fun _ h => h) rfl fun B _ => Sub.refl _)
    | false =>
      refine J.condF rfl ?_
      refine J.skip ?_
      refine J.seq (J.region mixed hI (by kernel_rfl) ?_)
      repeat (refine Plan.assign rfl rfl rfl rfl ?_)
      have e : cmpV n x y = 0 := by unfold cmpV; rw [if_neg (by rw [h1]; simp), if_neg (by rw [h2]; simp)]
      rw [e]
      exact J.ret (Nrm.ret1 rfl (fun _ h => h) rfl fun B _ => Sub.refl _)
theorem cmpK (β g cap : Nat) (n : List EvV) : CmpK 35 [ptr β] (nC β g cap n) n.length (ahead n) := by
  refine ⟨⟨_, Try.func35, rfl, rfl⟩, fun x y hx hy => ⟨cmpV n x y, cmp_fn β g cap n x y hx hy, fun hyx => ?_⟩⟩
  unfold cmpV ahead
  by_cases h1 : later (n.getD x ev0) (n.getD y ev0) = true
  · rw [if_pos h1]
    exact ⟨fun _ => .inl (later_iff.1 h1), fun _ => by decide⟩
  · rw [if_neg h1]
    constructor
    · intro h; split at h <;> omega
    · rintro (h2 | ⟨_, h2⟩)
      · exact absurd (later_iff.2 h2) h1
      · omega
end Go.Proofs.Ytfglecmimoeinaa
end

section
set_option linter.unusedSimpArgs false
set_option linter.unusedVariables false
set_option maxRecDepth 20000
namespace Go.Proofs.Ytfglecmimoeinaa
open Go.Free Go.RowKit Go.Proofs
set_option maxHeartbeats 8000000

/-- Does b end a node a? -/
def endsP (b a : EvV) : Prop := b.key = a.key ∧ hasP b.d a.r a.n ∧ (b.kind = 11 ∨ (b.kind = 10 ∧ b.rr = a.r ∧ b.rn = a.n))
instance (b a : EvV) : Decidable (endsP b a) := by unfold endsP; infer_instance
theorem dt_eq {a b c d : Int} : ((a, b) : Int × Int) = (c, d) ↔ a = c ∧ b = d := by simp
theorem ends_fn (b a : EvV) (hb : b.okV) (ha : a.okV) (h9 : a.kind = 9) : Spc Try.prog 29 [.ex (aggE b), .ex (aggE a)] fun _ => .ex (.bool (decide (endsP b a))) := by
  refine Spc.intro Try.func29 rfl (Nat.le_of_ble_eq_true rfl) fun w0 => ?_
  have hI := hIb w0
  have hA := Own.below w0
  have h1 := hb.2.2.2.2.2.2.2.2.2
  have h2 : okD (a.r, a.n) := ⟨ha.1, ha.2.1⟩
  have h3 : okD (b.rr, b.rn) := h1
  have h4 : addP a.kind := .inr (.inr (.inr (.inr (.inr h9))))
  refine J.heap0 1000 (newB w0) ?_
  repeat' (first | refine Plan.move rfl rfl rfl rfl ?_ | refine Plan.assign rfl rfl rfl rfl ?_ | refine Plan.skip rfl rfl ?_ | refine Plan.pick rfl rfl rfl rfl rfl ?_ | (refine Plan.ints rfl rfl rfl rfl rfl rfl ?_; (skip)) | refine Plan.un rfl rfl rfl rfl rfl ?_ | refine Plan.fieldC rfl rfl rfl rfl (by first | exact Try.underlying41 | exact Try.underlying39) rfl (by kernel_rfl) (by first | exact (rfl : _ = 0) | exact (rfl : _ = 19) | exact (rfl : _ = 20) | exact (rfl : _ = 24)) ?_ | refine Plan.loadC (key := 1000) (q := 0) rfl rfl rfl rfl rfl rfl (obj_reads1 rfl) (by first | exact Try.underlying3 | exact Try.underlying9) (by rfl) (by decide) ?_ | refine Plan.loadC (key := 1000) (q := 1) rfl rfl rfl rfl rfl rfl (obj_reads1 rfl) (by first | exact Try.underlying3 | exact Try.underlying9) (by rfl) (by decide) ?_ | refine J.seq (J.region mixed hI (by kernel_rfl) ?_) | refine J.region mixed hI (by kernel_rfl) ?_ | refine J.seq (J.seq (J.region mixed hI (by kernel_rfl) ?_)) | refine J.condF rfl ?_ | refine J.condT rfl ?_ | refine J.skip ?_ | refine Plan.call (B := w0.heap.size) rfl rfl rfl (covers_fn b a) Try.func37 rfl rfl (hBb w0) (by repeat (first | exact Opnds.nil | refine Opnds.cons rfl (by exact Sub.refl _) ?_)) ?_ | refine Plan.call (B := w0.heap.size) rfl rfl rfl (adds_fn a.kind) Try.func38 rfl rfl (hBb w0) (by repeat (first | exact Opnds.nil | refine Opnds.cons rfl (by exact Sub.refl _) ?_)) ?_ | refine Plan.loadAggC (key := 1000) (q := 0) (vs := b.enc) rfl rfl rfl rfl rfl rfl (obj_reads rfl) Try.underlying41 rfl (by rw [encE]; kernel_rfl) (by decide) ?_ | refine Plan.loadAggC (key := 1000) (q := 1) (vs := a.enc) rfl rfl rfl rfl rfl rfl (obj_reads rfl) Try.underlying41 rfl (by rw [encE]; kernel_rfl) (by decide) ?_ | refine Plan.loadAggC (key := 1000) (q := 0) (vs := [vi b.rr, vi b.rn]) rfl rfl rfl rfl rfl rfl (obj_reads rfl) Try.underlying26 rfl (by kernel_rfl) (by decide) ?_ | refine Plan.loadAggC (key := 1000) (q := 1) (vs := [vi a.r, vi a.n]) rfl rfl rfl rfl rfl rfl (obj_reads rfl) Try.underlying26 rfl (by kernel_rfl) (by decide) ?_ | refine Plan.eqlDt (b.rr, b.rn) (a.r, a.n) rfl rfl rfl rfl rfl h3 h2 ?_ | refine J.block ?_ | refine Plan.boolv (y := false) (decide_eq_false (by omega)) ?_ | refine Plan.boolv (y := true) (decide_eq_true (by omega)) ?_ | refine Plan.strs rfl rfl rfl rfl rfl rfl ?_ | refine Plan.boxC (key := 1000) rfl rfl rfl (by intro _ e; cases e; decide) rfl rfl hA fun _ => ?_ | refine J.condD rfl (fun _ => ?_) (fun _ => ?_) | refine J.condND rfl (fun _ => ?_) (fun _ => ?_) | refine Plan.splitD (fun _ => ?_) (fun _ => ?_) | refine Plan.splitN (fun _ => ?_) (fun _ => ?_))
  all_goals exact J.ret (Nrm.ret1 rfl (fun _ h => h) rfl fun B _ => Sub.of_eq (congrArg (fun b => Fa.ex (.bool b)) (by
    first
    | refine (decide_eq_true ?_).symm
    | refine (decide_eq_false ?_).symm
    | refine decide_eq_decide.2 ?_
    | refine beq_decide ?_
    | refine bne_decide ?_
    all_goals ((try simp only [endsP, dt_eq] at *); first | omega | grind))))
end Go.Proofs.Ytfglecmimoeinaa
end

section
set_option linter.unusedSimpArgs false
set_option linter.unusedVariables false
set_option maxRecDepth 20000
namespace Go.Free
open Go.RowKit
/-- What takes a row may be handed a slice of which the chunk tells that it is that row. -/
theorem SpcR.seen {P : Program} {f : FuncId} {As : List Fa} {c c0 : Chunk} {R : Nat → Fa} {sz : Nat} {xs : List Value} {v : Value} (h : SpcR P f (row sz xs :: As) c R) (hr : ∀ w F, c0.holds w F → rowH sz xs w v) (he : Ent c0 c) : SpcR P f (.ex v :: As) c0 R := fun w args F hd hc => by
  obtain ⟨G, h1, _⟩ := he w F hc
  refine h w args G ?_ h1
  simp only [Fa.dens] at hd ⊢
  obtain ⟨u, r, rfl, hu, hr'⟩ := hd
  simp only [Fa.den] at hu
  subst hu
  exact ⟨u, r, rfl, hr w F hc, hr'⟩
end Go.Free
namespace Go.Proofs.Ytfglecmimoeinaa
open Go.Free Go.RowKit Go.Proofs Go.Free.Sorts
set_option maxHeartbeats 8000000

def idxP (p : EvV → Bool) (n : List EvV) : Int := match n.findIdx? p with | some j => (j : Int) | none => -1
theorem ixp_found {p : EvV → Bool} {n : List EvV} {j : Nat} (hj : j < n.length) (hp : p n[j] = true) (h : ∀ i (hi : i < n.length), i < j → p n[i] = false) : idxP p n = j := by
  have : n.findIdx? p = some j := List.findIdx?_eq_some_iff_getElem.2 ⟨hj, hp, fun i hi => by rw [h i (by omega) hi]; simp⟩
  unfold idxP; rw [this]
theorem ixp_none {p : EvV → Bool} {n : List EvV} (h : ∀ i (hi : i < n.length), p n[i] = false) : idxP p n = -1 := by
  have : n.findIdx? p = none := List.findIdx?_eq_none_iff.2 fun x hx => by
    obtain ⟨i, hi, rfl⟩ := List.getElem_of_mem hx
    exact h i hi
  unfold idxP; rw [this]
theorem ixp_some {p : EvV → Bool} {n : List EvV} (h : ¬ idxP p n = -1) : ∃ k, ∃ hk : k < n.length, idxP p n = k ∧ p n[k] = true ∧ ∀ j (hj : j < n.length), j < k → p n[j] = false := by
  unfold idxP at h ⊢
  cases hf : n.findIdx? p with
  | none => rw [hf] at h; exact absurd rfl h
  | some k =>
    rw [List.findIdx?_eq_some_iff_getElem] at hf
    obtain ⟨h1, h2, h3⟩ := hf
    exact ⟨k, h1, rfl, h2, fun j hj hjk => by simpa using h3 j hjk⟩
theorem ixp_no {p : EvV → Bool} {n : List EvV} (h : idxP p n = -1) : ∀ x ∈ n, p x = false := by
  unfold idxP at h
  cases hf : n.findIdx? p with
  | none => exact List.findIdx?_eq_none_iff.1 hf
  | some k => rw [hf] at h; simp only at h; omega
theorem ixp_any (p : EvV → Bool) (n : List EvV) : decide (idxP p n ≥ 0) = n.any p := by
  by_cases h : idxP p n = -1
  · have h2 := ixp_no h
    rw [h]
    have : n.any p = false := List.any_eq_false.2 fun x hx => by rw [h2 x hx]; decide
    rw [this]; rfl
  · obtain ⟨k, hk, h1, h2, _⟩ := ixp_some h
    have : n.any p = true := List.any_eq_true.2 ⟨n[k], List.getElem_mem hk, h2⟩
    rw [this, h1]; exact decide_eq_true (by omega)
def ipE (w0 : World) (f : FuncId) (caps : List Value) (n : List EvV) (c : Chunk) (i : Nat) : Env :=
  [(0, old w0 (row 26 (evsC n))), (1, .ex (fnV f caps)), (7, .ex (vi n.length)), (8, .ex (vi i)), (1000, heap (fun _ => True) [c])]
theorem indexG_fn (n : List EvV) (hn : n.length ≤ 1000000) (f : FuncId) (fn : Func) (caps : List Value) (p : EvV → Bool) (c : Chunk) (hfn : Try.prog.funcs[f]? = some fn) (hb : fn.body.isNone = false) (hnm : (fn.name == "runtime.NumGoroutine") = false)
    (hf : ∀ x ∈ n, SpcR Try.prog f (.ex (aggE x) :: caps.map .ex) c fun _ => .ex (.bool (p x))) :
    SpcR Try.prog 31 [row 26 (evsC n), .ex (fnV f caps)] c fun _ => .ex (vi (idxP p n)) := by
  refine SpcR.intro Try.func31 rfl (Nat.le_of_ble_eq_true rfl) fun w0 => ?_
  have hI := hIb w0
  refine J.seq (J.region mixed hI (by kernel_rfl) ?_)
  repeat (refine Plan.assign rfl rfl rfl rfl ?_)
  refine J.seq (J.seq (J.region mixed hI (by kernel_rfl) ?_))
  repeat (refine Plan.move rfl rfl rfl rfl ?_)
  refine Plan.lenRow (m := n.length) rfl rfl rfl rfl (Sub.old fun _ h => h) Try.underlying22 (by rw [evs_len]) (by decide) ?_
  repeat (refine Plan.move rfl rfl rfl rfl ?_)
  refine J.block (J.loop (ipE w0 f caps n c) (fun i => i ≤ n.length ∧ ∀ j (hj : j < n.length), j < i → p n[j] = false) (fun i => n.length - i) 0 ⟨Nat.zero_le _, fun j _ h => by omega⟩ ?_ ?_)
  · repeat (first | exact Weak.nil | refine Weak.cons rfl (Sub.refl _) ?_)
  rintro i ⟨hi, hno⟩
  refine J.seq (J.region mixed hI (by kernel_rfl) ?_)
  repeat ((refine Plan.ints rfl rfl rfl rfl rfl rfl ?_; (skip)))
  refine J.seq (J.condD rfl (fun hc => ?_) (fun hc => ?_))
  · have hlt : i < n.length := by omega
    refine J.skip ?_
    refine J.seq (J.block ?_)
    refine J.seq (J.region mixed hI (by kernel_rfl) ?_)
    repeat (first | refine Plan.move rfl rfl rfl rfl ?_ | refine Plan.assign rfl rfl rfl rfl ?_)
    refine J.seq (J.region mixed hI (by kernel_rfl) ?_)
    repeat (refine Plan.move rfl rfl rfl rfl ?_)
    refine Plan.indexAddr EvV.enc 26 n ev0 rfl rfl rfl rfl (Sub.old fun _ h => h) rfl eltE encE (by omega) (by omega) ?_
    rw [Int.toNat_natCast, getD_at hlt]
    refine Plan.loadAggP rfl rfl rfl rfl (Sub.refl _) Try.underlying41 rfl (by rw [encE]; kernel_rfl) ?_
    refine Plan.callFR (key := 1000) (B := 0) (fs := [.ex (aggE n[i])]) (caps := caps) rfl rfl rfl rfl (hf n[i] (List.getElem_mem hlt)) hfn hb hnm (fun _ _ => Nat.zero_le _) (Opnds.cons rfl (Sub.refl _) Opnds.nil) rfl Ent.one (by decide) ?_
    repeat (fail)
    cases hh : p n[i] with
    | true =>
      refine J.condT rfl ?_
      refine J.seq (J.region mixed hI (by kernel_rfl) ?_)
      repeat (first | refine Plan.move rfl rfl rfl rfl ?_ | refine Plan.assign rfl rfl rfl rfl ?_)
      rw [ixp_found hlt hh hno]
      exact J.ret (Nrm.ret1 rfl (fun _ h => h) rfl fun B _ => Sub.refl _)
    | false =>
      refine J.condF rfl ?_
      refine J.skip ?_
      refine J.region mixed hI (by kernel_rfl) ?_
      repeat (first | refine Plan.move rfl rfl rfl rfl ?_ | (refine Plan.ints rfl rfl rfl rfl rfl rfl ?_; (refine Plan.int (i64r (by omega)) ?_)))
      refine Plan.int (y := ((i + 1 : Nat) : Int)) (by omega) ?_
      repeat (fail)
      refine Nrm.next (i + 1) ⟨hlt, fun j hj hji => ?_⟩ (by omega) (by repeat (first | exact Weak.nil | refine Weak.cons rfl (Sub.refl _) ?_))
      by_cases hj2 : j < i
      · exact hno j hj hj2
      · have : j = i := by omega
        subst this; exact hh
  · have hie : i = n.length := by omega
    subst hie
    refine J.exit ?_
    refine J.seq (J.region mixed hI (by kernel_rfl) ?_)
    repeat (refine Plan.assign rfl rfl rfl rfl ?_)
    rw [ixp_none fun j hj => hno j hj hj]
    exact J.ret (Nrm.ret1 rfl (fun _ h => h) rfl fun B _ => Sub.refl _)
theorem containsG_fn (n : List EvV) (hn : n.length ≤ 1000000) (f : FuncId) (fn : Func) (caps : List Value) (p : EvV → Bool) (c : Chunk) (hfn : Try.prog.funcs[f]? = some fn) (hb : fn.body.isNone = false) (hnm : (fn.name == "runtime.NumGoroutine") = false)
    (hf : ∀ x ∈ n, SpcR Try.prog f (.ex (aggE x) :: caps.map .ex) c fun _ => .ex (.bool (p x))) :
    SpcR Try.prog 27 [row 26 (evsC n), .ex (fnV f caps)] c fun _ => .ex (.bool (n.any p)) := by
  refine SpcR.intro Try.func27 rfl (Nat.le_of_ble_eq_true rfl) fun w0 => ?_
  have hI := hIb w0
  refine J.seq (J.region mixed hI (by kernel_rfl) ?_)
  repeat (refine Plan.assign rfl rfl rfl rfl ?_)
  refine J.seq (J.region mixed hI (by kernel_rfl) ?_)
  repeat (refine Plan.move rfl rfl rfl rfl ?_)
  refine Plan.callRG (key := 1000) (B := 0) rfl rfl rfl (indexG_fn n hn f fn caps p c hfn hb hnm hf) Try.func31 rfl rfl (fun _ _ => Nat.zero_le _) (by repeat (first | exact Opnds.nil | refine Opnds.cons rfl (by first | exact Sub.refl _ | exact Sub.old (fun _ h => h)) ?_)) rfl Ent.one (by decide) ?_
  repeat (first | refine Plan.assign rfl rfl rfl rfl ?_ | (refine Plan.ints rfl rfl rfl rfl rfl rfl ?_; (skip)))
  refine Plan.boolv (y := n.any p) (ixp_any p n) ?_
  repeat (fail)
  exact J.ret (Nrm.ret1 rfl (fun _ h => h) rfl fun B _ => Sub.refl _)
end Go.Proofs.Ytfglecmimoeinaa
end

section
set_option linter.unusedSimpArgs false
set_option linter.unusedVariables false
set_option maxRecDepth 20000
namespace Go.Proofs.Ytfglecmimoeinaa
open Go.Free Go.RowKit Go.Proofs Go.Free.Sorts
set_option maxHeartbeats 8000000

theorem flatE_len (l : List EvV) : (l.flatMap EvV.enc).length = l.length * 26 := evs_len l
def keepE (p : EvV → Bool) (l : List EvV) : List EvV := l.filter fun x => !p x
def dlF (w0 : World) (F : Nat → Prop) (l : List EvV) (g cap : Nat) (f : FuncId) (caps : List Value) (c : Chunk) (p : EvV → Bool) (rest : List Value) (j i : Nat) (junk : List Value) : Env :=
  [(0, .ex (.slice (some ⟨g, 0, none⟩) l.length cap)), (1, .ex (fnV f caps)), (5, .ex (vi i)), (6, .ex (vi j)),
   (1000, heap (fun b => F b ∨ w0.heap.size ≤ b) [blk g 41 ((keepE p (l.take j)).flatMap EvV.enc ++ (junk ++ ((l.drop j).flatMap EvV.enc ++ rest))), c])]
def dlE (w0 : World) (F : Nat → Prop) (l : List EvV) (g cap : Nat) (f : FuncId) (caps : List Value) (c : Chunk) (p : EvV → Bool) (rest : List Value) (s : Nat × Nat × List Value) : Env := dlF w0 F l g cap f caps c p rest s.1 s.2.1 s.2.2
theorem delG_fn (B : Option Addr) (cap : Nat) (l : List EvV) (hl : l.length ≤ 1000000) (f : FuncId) (fn : Func) (caps : List Value) (p : EvV → Bool) (c : Chunk) (hfn : Try.prog.funcs[f]? = some fn) (hb : fn.body.isNone = false) (hnm : (fn.name == "runtime.NumGoroutine") = false)
    (hf : ∀ x ∈ l, SpcR Try.prog f (.ex (aggE x) :: caps.map .ex) c fun _ => .ex (.bool (p x))) :
    SpcC Try.prog 25 [.ex (.slice B l.length cap), .ex (fnV f caps)] (allC [rowEv B l.length cap (evsC l), c])
      (fun _ : Unit => True) (fun _ => .ex (.slice B (keepE p l).length cap)) (fun _ => allC [rowEv B (keepE p l).length cap (evsC (keepE p l)), c]) := by
  refine SpcC.intro Try.func25 rfl (Nat.le_of_ble_eq_true rfl) fun w0 F => ?_
  have hI := kept_below F w0
  have hA := Own.kept F w0
  refine J.open1 (key := 1000) rfl ?_
  refine J.factC (key := 1000) (q := 0) rfl rfl (fun w F h => row_room h) fun hrm => ?_
  repeat (first | refine Plan.move rfl rfl rfl rfl ?_ | refine Plan.assign rfl rfl rfl rfl ?_ | refine J.seq (J.region mixed hI (by kernel_rfl) ?_))
  refine Plan.callRG (key := 1000) (B := 0) rfl rfl rfl ((indexG_fn l hl f fn caps p c hfn hb hnm hf).seen (c0 := allC [rowEv B l.length cap (evsC l), c]) (v := .slice B l.length cap) (fun w F ⟨G1, _, _, _, h1, _⟩ => row_rowH h1) (Ent.right.trans Ent.one)) Try.func31 rfl rfl (fun _ _ => Nat.zero_le _) (by repeat (first | exact Opnds.nil | refine Opnds.cons rfl (by exact Sub.refl _) ?_)) rfl (Ent.refl _) (by decide) ?_
  repeat (first | refine Plan.move rfl rfl rfl rfl ?_ | refine Plan.assign rfl rfl rfl rfl ?_ | (refine Plan.ints rfl rfl rfl rfl rfl rfl ?_; (skip)) | refine J.seq (J.seq (J.region mixed hI (by kernel_rfl) ?_)))
  refine J.condE rfl (fun hc => ?_) (fun hc => ?_)
  · have hk : keepE p l = l := by
      unfold keepE
      exact List.filter_eq_self.2 fun x hx => by rw [ixp_no hc x hx]; rfl
    rw [hk]
    repeat (first | refine Plan.move rfl rfl rfl rfl ?_ | refine Plan.assign rfl rfl rfl rfl ?_ | refine J.seq (J.region mixed hI (by kernel_rfl) ?_))
    exact J.ret (Nrm.retC1 (key := 1000) () rfl rfl rfl trivial (Sub.refl _) (Ent.refl _))
  obtain ⟨k, hkl, hki, hkg, hkn⟩ := ixp_some hc
  rw [hki]
  obtain ⟨g, rfl⟩ : ∃ g, B = some ⟨g, 0, none⟩ := by
    cases B with
    | none => have := (hrm.2.2.2.1 rfl).1; omega
    | some ad => exact ⟨ad.block, by rw [← hrm.2.2.2.2 ad rfl]⟩
  refine J.convC (key := 1000) (q := 0) rfl rfl row_blk ?_
  refine J.exC (key := 1000) (q := 0) rfl rfl fun rest => ?_
  refine J.purC (key := 1000) (q := 0) rfl rfl fun hrest => ?_
  obtain ⟨hr1, hr2, hr3, hr4⟩ := hrest
  have hkt : keepE p (l.take (k + 1)) = l.take k := by
    unfold keepE
    rw [List.take_succ_eq_append_getElem hkl, List.filter_append, List.filter_cons_of_neg (by rw [hkg]; decide), List.filter_nil, List.append_nil]
    refine List.filter_eq_self.2 fun x hx => ?_
    obtain ⟨j, hj, rfl⟩ := List.getElem_of_mem hx
    rw [List.length_take] at hj
    rw [List.getElem_take, hkn j (by omega) (by omega)]; rfl
  repeat (first | refine Plan.move rfl rfl rfl rfl ?_ | refine Plan.assign rfl rfl rfl rfl ?_ | (refine Plan.ints rfl rfl rfl rfl rfl rfl ?_; (refine Plan.int (i64r (by omega)) ?_)) | refine J.seq (J.seq (J.region mixed hI (by kernel_rfl) ?_)) | refine J.skip ?_)
  refine Plan.int (y := ((k + 1 : Nat) : Int)) (by omega) ?_
  repeat (fail)
  refine J.block (J.loop (dlE w0 F l g cap f caps c p rest) (fun s => s.1 ≤ l.length ∧ s.2.1 < s.1 ∧ s.2.1 = (keepE p (l.take s.1)).length ∧ s.2.2.length = (s.1 - s.2.1) * 26) (fun s => l.length - s.1) (k + 1, k, EvV.enc l[k]) ⟨hkl, Nat.lt_succ_self k, by rw [hkt, List.length_take]; simp only; omega, by show _ = (k + 1 - k) * _; rw [show k + 1 - k = 1 by omega, Nat.one_mul]; rfl⟩ ?_ ?_)
  · have hcs : l.flatMap EvV.enc ++ rest = (keepE p (l.take (k + 1))).flatMap EvV.enc ++ (EvV.enc l[k] ++ ((l.drop (k + 1)).flatMap EvV.enc ++ rest)) := by
      rw [hkt, ← List.append_assoc, ← List.append_assoc]
      congr 1
      have : l.flatMap EvV.enc = (l.take k ++ l[k] :: l.drop (k + 1)).flatMap EvV.enc := by rw [List.getElem_cons_drop, List.take_append_drop]
      rw [this, List.flatMap_append, List.flatMap_cons, ← List.append_assoc]
    rw [hcs]
    repeat (first | exact Weak.nil | refine Weak.cons rfl (Sub.refl _) ?_)
  rintro ⟨j, i, junk⟩ ⟨hj, hij, hi, hjl⟩
  simp only at hj hij hi hjl
  change J _ _ _ _ _ (dlF w0 F l g cap f caps c p rest j i junk)
  have hKl := flatE_len (keepE p (l.take j))
  rw [← hi] at hKl
  have hDl := flatE_len (l.drop j)
  rw [List.length_drop] at hDl
  repeat (first | refine Plan.move rfl rfl rfl rfl ?_ | refine Plan.lenE rfl rfl rfl rfl (by exact Try.underlying22) ?_ | (refine Plan.ints rfl rfl rfl rfl rfl rfl ?_; (skip)) | refine J.seq (J.seq (J.region mixed hI (by kernel_rfl) ?_)))
  refine J.condD rfl (fun hc => ?_) (fun hc => ?_)
  · have hlt : j < l.length := by omega
    have hd : l.drop j = l[j] :: l.drop (j + 1) := (List.getElem_cons_drop (h := hlt)).symm
    repeat (refine J.skip ?_)
    refine J.seq (J.block ?_)
    repeat (first | refine Plan.move rfl rfl rfl rfl ?_ | refine J.seq (J.region mixed hI (by kernel_rfl) ?_))
    refine Plan.indexC (off := j * 26) rfl rfl rfl rfl rfl eltE hlt (by omega) ?_
    refine Plan.loadAggC (key := 1000) (q := 0) (vs := EvV.enc l[j]) rfl rfl rfl rfl rfl rfl (blk_reads ?_) Try.underlying41 rfl (by rw [encE]; kernel_rfl) (by decide) ?_
    · rw [← List.append_assoc, List.drop_left' (by rw [List.length_append, hKl, hjl, ← Nat.add_mul]; congr 1; omega), hd, List.flatMap_cons, List.append_assoc, List.take_left]
    refine Plan.allocC (key := 1000) (z := .agg (EvV.enc ev0).toArray) rfl rfl rfl (by intro _ e; cases e; decide) (by kernel_rfl) rfl hA fun γ => ?_
    refine Plan.storeC (key := 1000) (q := 2) (off := 0) rfl rfl rfl rfl rfl rfl (fun u hu => encE_one _ u hu) (by kernel_rfl) rfl hA rfl (obj_pat (show 0 + (EvV.enc l[j]).length ≤ (EvV.enc ev0).length by rw [encE, encE]; omega)) ?_
    have hobj : (EvV.enc ev0).take 0 ++ EvV.enc l[j] ++ (EvV.enc ev0).drop (0 + (EvV.enc l[j]).length) = EvV.enc l[j] := by
      rw [List.take_zero, List.nil_append, List.drop_of_length_le (by rw [encE, encE]; omega), List.append_nil]
    obtain ⟨K, hK⟩ : ∃ K, K = (keepE p (l.take j)).flatMap EvV.enc := ⟨_, rfl⟩
    obtain ⟨T, hT⟩ : ∃ T, T = (l.drop (j + 1)).flatMap EvV.enc ++ rest := ⟨_, rfl⟩
    have hcs : (keepE p (l.take j)).flatMap EvV.enc ++ (junk ++ ((l.drop j).flatMap EvV.enc ++ rest)) = K ++ (junk ++ (EvV.enc l[j] ++ T)) := by rw [hd, List.flatMap_cons, List.append_assoc, ← hK, ← hT]
    rw [← hK] at hKl
    have hks : keepE p (l.take (j + 1)) = keepE p (l.take j) ++ if p l[j] then [] else [l[j]] := by
      unfold keepE
      rw [List.take_succ_eq_append_getElem hlt, List.filter_append]
      congr 1
      cases hgg : p l[j] <;> simp [List.filter_cons, hgg]
    refine J.regroup (key := 1000) [blk g 41 (K ++ (junk ++ (EvV.enc l[j] ++ T))), c, obj γ (EvV.enc l[j])] rfl (Ent.sep (Ent.blkEq hcs) (Ent.sep (Ent.refl _) (Ent.sep (Ent.of_eq (congrArg (obj γ) hobj)) (Ent.refl _)))) ?_
    repeat (first | refine Plan.move rfl rfl rfl rfl ?_ | refine J.seq (J.region mixed hI (by kernel_rfl) ?_))
    refine Plan.loadAggC (key := 1000) (q := 2) (vs := EvV.enc l[j]) rfl rfl rfl rfl rfl rfl obj_whole Try.underlying41 rfl (by rw [encE]; kernel_rfl) (by decide) ?_
    refine Plan.callFR (key := 1000) (B := 0) (fs := [.ex (.agg (EvV.enc l[j]).toArray)]) (caps := caps) rfl rfl rfl rfl (hf l[j] (List.getElem_mem hlt)) hfn hb hnm (fun _ _ => Nat.zero_le _) (Opnds.cons rfl (Sub.refl _) Opnds.nil) rfl (Ent.right.trans Ent.left) (by decide) ?_
    repeat (refine Plan.un rfl rfl rfl rfl rfl ?_)
    refine J.cond rfl (fun hg => ?_) (fun hg => ?_)
    · have hg' : p l[j] = false := by simpa using hg
      rw [hg', if_neg (by decide)] at hks
      have hlen : (keepE p (l.take (j + 1))).length = i + 1 := by rw [hks, List.length_append, ← hi]; rfl
      have hKl2 : K.length = i * 26 := hKl
      have hjs : 26 ≤ junk.length := by rw [hjl]; omega
      have hcs2 : (K ++ (junk ++ (EvV.enc l[j] ++ T))).take (i * 26) ++ EvV.enc l[j] ++ (K ++ (junk ++ (EvV.enc l[j] ++ T))).drop (i * 26 + (EvV.enc l[j]).length) = (keepE p (l.take (j + 1))).flatMap EvV.enc ++ ((junk.drop 26 ++ EvV.enc l[j]) ++ T) := by
        rw [List.take_left' hKl2, ← List.drop_drop, List.drop_left' hKl2, encE, List.drop_append_of_le_length hjs, hks, List.flatMap_append, ← hK]
        simp only [List.flatMap_cons, List.flatMap_nil, List.append_nil, List.append_assoc]
      repeat (first | refine Plan.move rfl rfl rfl rfl ?_ | refine J.seq (J.region mixed hI (by kernel_rfl) ?_))
      refine Plan.loadAggC (key := 1000) (q := 2) (vs := EvV.enc l[j]) rfl rfl rfl rfl rfl rfl obj_whole Try.underlying41 rfl (by rw [encE]; kernel_rfl) (by decide) ?_
      refine Plan.indexC (off := i * 26) rfl rfl rfl rfl rfl eltE (by omega) (by omega) ?_
      refine Plan.storeC (key := 1000) (q := 0) (off := i * 26) rfl rfl rfl rfl rfl rfl (fun u hu => encE_one _ u hu) (by kernel_rfl) rfl hA rfl (blk_pat (show i * 26 + (EvV.enc l[j]).length ≤ _ by rw [List.length_append, List.length_append, List.length_append, encE, hKl2]; omega)) ?_
      repeat (first | refine Plan.move rfl rfl rfl rfl ?_ | refine Plan.assign rfl rfl rfl rfl ?_ | (refine Plan.ints rfl rfl rfl rfl rfl rfl ?_; (refine Plan.int (i64r (by omega)) ?_)) | refine J.region mixed hI (by kernel_rfl) ?_)
      refine Plan.int (y := ((j + 1 : Nat) : Int)) (by omega) ?_
      repeat (fail)
      refine Nrm.next (j + 1, i + 1, junk.drop 26 ++ EvV.enc l[j]) ⟨by simp only; omega, by simp only; omega, hlen.symm, by simp only; rw [List.length_append, List.length_drop, encE, hjl]; omega⟩ (by simp only; omega) ?_
      refine Weak.cons rfl (Sub.refl _) (Weak.cons rfl (Sub.refl _) (Weak.cons rfl (Sub.refl _) (Weak.cons rfl (Sub.refl _) (Weak.cons rfl (Sub.heap (Ent.sep (Ent.blkEq ?_) (Ent.sep (Ent.refl _) Ent.emp))) Weak.nil))))
      rw [← hT]; exact hcs2
    · have hg' : p l[j] = true := by simpa using hg
      rw [hg', if_pos rfl, List.append_nil] at hks
      repeat (first | refine Plan.move rfl rfl rfl rfl ?_ | refine Plan.assign rfl rfl rfl rfl ?_ | (refine Plan.ints rfl rfl rfl rfl rfl rfl ?_; (refine Plan.int (i64r (by omega)) ?_)) | refine J.region mixed hI (by kernel_rfl) ?_ | refine J.skip ?_)
      refine Plan.int (y := ((j + 1 : Nat) : Int)) (by omega) ?_
      repeat (fail)
      refine Nrm.next (j + 1, i, junk ++ EvV.enc l[j]) ⟨by simp only; omega, by simp only; omega, by simp only; rw [hks]; exact hi, by simp only; rw [List.length_append, encE, hjl]; omega⟩ (by simp only; omega) ?_
      refine Weak.cons rfl (Sub.refl _) (Weak.cons rfl (Sub.refl _) (Weak.cons rfl (Sub.refl _) (Weak.cons rfl (Sub.refl _) (Weak.cons rfl (Sub.heap (Ent.sep (Ent.blkEq ?_) (Ent.sep (Ent.refl _) Ent.emp))) Weak.nil))))
      simp only
      rw [hks, ← hK, ← hT, List.append_assoc]
  have hje : j = l.length := by omega
  subst hje
  rw [List.take_length] at hKl hi
  rw [List.drop_length] at hDl
  have hcs : (keepE p (l.take l.length)).flatMap EvV.enc ++ (junk ++ ((l.drop l.length).flatMap EvV.enc ++ rest)) = (keepE p l).flatMap EvV.enc ++ (junk ++ rest) := by rw [List.take_length, List.drop_length]; rfl
  have hrl : rest.length = (cap - l.length) * 26 := by rw [List.length_append, hr2] at hr1; omega
  rw [← hi]
  refine J.exit ?_
  refine J.regroup (key := 1000) [blk g 41 ((keepE p l).flatMap EvV.enc ++ (junk ++ rest)), c] rfl (Ent.sep (Ent.blkEq hcs) (Ent.refl _)) ?_
  repeat (first | refine Plan.move rfl rfl rfl rfl ?_ | refine J.seq (J.region mixed hI (by kernel_rfl) ?_))
  refine Plan.sliceLo (a0 := i) rfl rfl rfl rfl eltE rfl (by omega) (by omega) (by omega) ?_
  refine Plan.clearC (key := 1000) (q := 0) rfl rfl rfl rfl rfl eltE rfl hA rfl (fun u hu => encE_one ev0 u hu) (by rw [List.length_append, List.length_append, hKl, hjl]; omega) fun zs hzs => ?_
  have hfin : ((keepE p l).flatMap EvV.enc ++ (junk ++ rest)).take (0 + i * 26) ++ zs ++ ((keepE p l).flatMap EvV.enc ++ (junk ++ rest)).drop (0 + i * 26 + (l.length - i) * 26) = (keepE p l).flatMap EvV.enc ++ (zs ++ rest) := by
    rw [Nat.zero_add, List.take_left' hKl, ← List.drop_drop, List.drop_left' hKl, List.drop_left' hjl, List.append_assoc]
  rw [hfin]
  repeat (first | refine Plan.move rfl rfl rfl rfl ?_ | refine J.seq (J.region mixed hI (by kernel_rfl) ?_))
  refine Plan.sliceHi (b0 := i) rfl rfl rfl rfl eltE rfl (by omega) ?_
  repeat (refine Plan.assign rfl rfl rfl rfl ?_)
  refine J.ret (Nrm.retC1 (key := 1000) () rfl rfl rfl trivial (Sub.refl _) (Ent.sep ?_ (Ent.refl _)))
  exact blk_row (by rw [List.length_append, List.length_append, hKl, hzs, hrl]; show _ = cap * 26; omega) hKl (show i ≤ cap by omega) (show cap ≤ _ by omega)
end Go.Proofs.Ytfglecmimoeinaa
end

section
set_option linter.unusedSimpArgs false
set_option linter.unusedVariables false
set_option maxRecDepth 20000
namespace Go.Free
open Go.RowKit
theorem Ent.lastOut {L : List Chunk} {j : Nat} {c : Chunk} (h : L[j]? = some c) : Ent (allC [allC L]) (allC [c, allC (L.eraseIdx j)]) := Ent.one.trans ((Ent.takeOut h).trans (Ent.sep (Ent.refl _) Ent.addEmp))
theorem Ent.lastIn {L : List Chunk} {j : Nat} {c : Chunk} (h : j < L.length) : Ent (allC [c, allC (L.eraseIdx j)]) (allC [allC (L.set j c)]) := (Ent.sep (Ent.refl _) Ent.one).trans ((Ent.layBack h).trans Ent.addEmp)
theorem Ent.lastAdd {L : List Chunk} {c : Chunk} : Ent (allC [allC L, c]) (allC [allC (L ++ [c])]) := (Ent.joinC (H1 := L) (H2 := [c])).trans Ent.addEmp
theorem Ent.group2 {a b : Chunk} {R : List Chunk} : Ent (allC (a :: b :: R)) (allC (allC [a, b] :: R)) := Ent.assocL.trans (Ent.sep (Ent.sep (Ent.refl _) Ent.addEmp) (Ent.refl _))
theorem Ent.ungroup2 {a b : Chunk} {R : List Chunk} : Ent (allC (allC [a, b] :: R)) (allC (a :: b :: R)) := (Ent.sep (Ent.sep (Ent.refl _) Ent.one) (Ent.refl _)).trans Ent.assocR
end Go.Free
namespace Go.Proofs.Ytfglecmimoeinaa
open Go.Free Go.RowKit Go.Proofs Go.Free.Sorts
set_option maxHeartbeats 4000000
structure KE where
  k : Int
  B : Option Addr
  cap : Nat
  xs : List Nat
abbrev intsL (xs : List Nat) : List Value := xs.map fun x : Nat => (Value.int .i64 (x : Int))
def KE.val (e : KE) : Value := .slice e.B e.xs.length e.cap
def KE.row (e : KE) : Chunk := rowC 3 1 e.B e.xs.length e.cap (intsL e.xs)
def kvsM (es : List KE) : List (Int × Value) := es.map fun e => (e.k, e.val)
def pk (n : List EvV) (j : Nat) : Int := match parM n (n.getD j ev0) with | none => -1 | some p => (p : Int)
def grp (n : List EvV) (i : Nat) (k : Int) : List Nat := (List.range i).filter fun j => decide (pk n j = k)
theorem grp_succ (n : List EvV) (i : Nat) (k : Int) : grp n (i + 1) k = if pk n i = k then grp n i k ++ [i] else grp n i k := by
  unfold grp
  rw [List.range_succ, List.filter_append]
  by_cases h : pk n i = k
  · rw [if_pos h]; simp [h]
  · rw [if_neg h]; simp [h]
structure GrpOk (n : List EvV) (i : Nat) (es : List KE) : Prop where
  nd : (es.map (·.k)).Nodup
  xs : ∀ e ∈ es, e.xs = grp n i e.k
  all : ∀ j, j < i → pk n j ∈ es.map (·.k)
  some : ∀ e ∈ es, e.xs ≠ []
theorem grp_none (n : List EvV) : GrpOk n 0 [] := ⟨List.nodup_nil, by simp, fun j h => by omega, by simp⟩
theorem nodup_at {es : List KE} (h : (es.map (·.k)).Nodup) {i j : Nat} {a b : KE} (hi : es[i]? = some a) (hj : es[j]? = some b) (hk : a.k = b.k) : i = j := by
  obtain ⟨h1, rfl⟩ := List.getElem?_eq_some_iff.1 hi
  obtain ⟨h2, rfl⟩ := List.getElem?_eq_some_iff.1 hj
  have h3 := List.pairwise_iff_getElem.1 h
  rcases Nat.lt_trichotomy i j with hl | hl | hl
  · exact absurd (by rw [List.getElem_map, List.getElem_map]; exact hk) (h3 i j (by simpa using h1) (by simpa using h2) hl)
  · exact hl
  · exact absurd (by rw [List.getElem_map, List.getElem_map]; exact hk.symm) (h3 j i (by simpa using h2) (by simpa using h1) hl)
theorem find_in {es : List KE} (h : (es.map (·.k)).Nodup) {j : Nat} {e : KE} (hj : es[j]? = some e) : (kvsM es).findIdx? (fun p => decide (p.1 = e.k)) = some j := by
  obtain ⟨h1, he⟩ := List.getElem?_eq_some_iff.1 hj
  rw [List.findIdx?_eq_some_iff_getElem]
  refine ⟨by simpa [kvsM] using h1, by simp [kvsM, he], fun i hi => ?_⟩
  simp only [kvsM, List.getElem_map, decide_eq_true_eq]
  intro hk
  have := nodup_at h (List.getElem?_eq_getElem (show i < es.length by omega)) hj hk
  omega
theorem find_out {es : List KE} {k : Int} (h : k ∉ es.map (·.k)) : (kvsM es).findIdx? (fun p => decide (p.1 = k)) = none := by
  rw [List.findIdx?_eq_none_iff]
  intro p hp
  obtain ⟨e, he, rfl⟩ := List.mem_map.1 hp
  simp only [decide_eq_false_iff_not]
  intro hk
  exact h (List.mem_map.2 ⟨e, he, hk⟩)
theorem kvs_len (es : List KE) : (kvsM es).length = es.length := by simp [kvsM]
theorem mapAt_in {es : List KE} (h : (es.map (·.k)).Nodup) {j : Nat} {e : KE} (hj : es[j]? = some e) (z : Value) : mapAt z (kvsM es) e.k = e.val := by
  have hf := find_in h hj
  rw [List.findIdx?_eq_some_iff_getElem] at hf
  obtain ⟨h1, h2, h3⟩ := hf
  have : (kvsM es).find? (fun p => decide (p.1 = e.k)) = some (kvsM es)[j] := by
    rw [List.find?_eq_some_iff_getElem]
    exact ⟨h2, j, h1, rfl, fun l hl => by simpa using h3 l hl⟩
  unfold mapAt
  rw [this]
  obtain ⟨h4, he⟩ := List.getElem?_eq_some_iff.1 hj
  simp [kvsM, he]
theorem mapAt_out {es : List KE} {k : Int} (h : k ∉ es.map (·.k)) (z : Value) : mapAt z (kvsM es) k = z := by
  have hf := find_out h
  rw [List.findIdx?_eq_none_iff] at hf
  unfold mapAt
  rw [List.find?_eq_none.2 fun x hx => by simpa using hf x hx]
theorem putV_in {es : List KE} (h : (es.map (·.k)).Nodup) {j : Nat} {e e' : KE} (hj : es[j]? = some e) (hk : e'.k = e.k) : putV (kvsM es) e.k e'.val = kvsM (es.set j e') := by
  unfold putV
  rw [find_in h hj]
  simp [kvsM, List.map_set, hk]
theorem putV_out {es : List KE} {e : KE} (h : e.k ∉ es.map (·.k)) : putV (kvsM es) e.k e.val = kvsM (es ++ [e]) := by
  unfold putV
  rw [find_out h]
  simp [kvsM]
theorem GrpOk.more {n : List EvV} {i : Nat} {es : List KE} (h : GrpOk n i es) {j : Nat} {e e' : KE} (hj : es[j]? = Option.some e) (hk : e.k = pk n i) (hk' : e'.k = e.k) (hx : e'.xs = e.xs ++ [i]) : GrpOk n (i + 1) (es.set j e') := by
  obtain ⟨hjl, hje⟩ := List.getElem?_eq_some_iff.1 hj
  have hkeys : (es.set j e').map (·.k) = es.map (·.k) := by
    rw [List.map_set, hk']
    apply List.ext_getElem?
    intro m
    rw [List.getElem?_set]
    by_cases hm : j = m
    · subst hm; simp [hjl, hje]
    · rw [if_neg hm]
  refine ⟨by rw [hkeys]; exact h.nd, fun x hx2 => ?_, fun l hl => ?_, fun x hx2 => ?_⟩
  · rw [grp_succ]
    obtain ⟨m, hm, rfl⟩ := List.getElem_of_mem hx2
    rw [List.getElem_set]
    by_cases hjm : j = m
    · rw [if_pos hjm, hk', if_pos hk.symm, hx, h.xs e (List.mem_of_getElem? hj)]
    · rw [if_neg hjm]
      have hml : m < es.length := by simpa using hm
      have hne : ¬ pk n i = es[m].k := fun hc => hjm (nodup_at h.nd hj (List.getElem?_eq_getElem hml) (hk.trans hc))
      rw [if_neg hne]
      exact h.xs _ (List.getElem_mem hml)
  · rw [hkeys]
    by_cases hli : l = i
    · subst hli; rw [← hk]; exact List.mem_map.2 ⟨e, List.mem_of_getElem? hj, rfl⟩
    · exact h.all l (by omega)
  · rcases List.mem_or_eq_of_mem_set hx2 with hm | rfl
    · exact h.some x hm
    · rw [hx]; simp
theorem GrpOk.new {n : List EvV} {i : Nat} {es : List KE} (h : GrpOk n i es) {e : KE} (hk : e.k = pk n i) (ho : e.k ∉ es.map (·.k)) (hx : e.xs = [i]) : GrpOk n (i + 1) (es ++ [e]) := by
  have hg : grp n i e.k = [] := by
    unfold grp
    rw [List.filter_eq_nil_iff]
    intro j hj
    simp only [decide_eq_true_eq]
    intro hc
    exact ho (hc ▸ h.all j (List.mem_range.1 hj))
  refine ⟨?_, fun x hx2 => ?_, fun l hl => ?_, fun x hx2 => ?_⟩
  · rw [List.map_append, List.nodup_append]
    refine ⟨h.nd, by simp, fun a ha b hb => ?_⟩
    simp only [List.map_cons, List.map_nil, List.mem_singleton] at hb
    rw [hb]; intro hab; exact ho (hab ▸ ha)
  · rw [grp_succ]
    rcases List.mem_append.1 hx2 with hx2 | hx2
    · have hne : ¬ pk n i = x.k := fun hc => ho (by rw [hk, hc]; exact List.mem_map.2 ⟨x, hx2, rfl⟩)
      rw [if_neg hne]; exact h.xs x hx2
    · rw [List.mem_singleton] at hx2
      subst hx2
      rw [if_pos hk.symm, hg, hx]; rfl
  · rw [List.map_append]
    by_cases hli : l = i
    · subst hli; rw [← hk]; simp
    · exact List.mem_append.2 (.inl (h.all l (by omega)))
  · rcases List.mem_append.1 hx2 with hx2 | hx2
    · exact h.some x hx2
    · rw [List.mem_singleton] at hx2
      subst hx2; rw [hx]; simp
/-- The entries, those of seen put in order. -/
def doneE (n : List EvV) (es : List KE) (seen : List Nat) : List KE := es.mapIdx fun j e => if j ∈ seen then { e with xs := sortK n e.xs } else e
theorem sortK_len (n : List EvV) (xs : List Nat) : (sortK n xs).length = xs.length := (List.mergeSort_perm xs _).length_eq
theorem done_none (n : List EvV) (es : List KE) : doneE n es [] = es := by
  unfold doneE
  apply List.ext_getElem?
  intro j; rw [List.getElem?_mapIdx]; cases es[j]? <;> simp
theorem done_len (n : List EvV) (es : List KE) (seen : List Nat) : (doneE n es seen).length = es.length := by simp [doneE]
theorem done_kvs (n : List EvV) (es : List KE) (seen : List Nat) : kvsM (doneE n es seen) = kvsM es := by
  unfold doneE kvsM
  apply List.ext_getElem?
  intro j
  rw [List.getElem?_map, List.getElem?_map, List.getElem?_mapIdx]
  cases es[j]? with
  | none => rfl
  | some e =>
    simp only [Option.map_some]
    split <;> simp [KE.val, sortK_len]
theorem done_at {n : List EvV} {es : List KE} {seen : List Nat} {j : Nat} {e : KE} (hj : es[j]? = some e) (hs : j ∉ seen) : (doneE n es seen)[j]? = some e := by
  unfold doneE
  rw [List.getElem?_mapIdx, hj]
  simp [hs]
theorem done_more {n : List EvV} {es : List KE} {seen : List Nat} {j : Nat} {e : KE} (hj : es[j]? = some e) (hs : j ∉ seen) : (doneE n es seen).set j { e with xs := sortK n e.xs } = doneE n es (seen ++ [j]) := by
  obtain ⟨hjl, hje⟩ := List.getElem?_eq_some_iff.1 hj
  unfold doneE
  apply List.ext_getElem?
  intro m
  rw [List.getElem?_set, List.getElem?_mapIdx, List.getElem?_mapIdx]
  by_cases hm : j = m
  · subst hm
    rw [if_pos rfl, if_pos (by simpa using hjl), hj]
    simp
  · rw [if_neg hm]
    have : m ∈ seen ++ [j] ↔ m ∈ seen := by simp; intro h; exact absurd h.symm hm
    simp only [this]
/-- What kids leaves. -/
structure KidsOk (n : List EvV) (es : List KE) : Prop where
  nd : (es.map (·.k)).Nodup
  xs : ∀ e ∈ es, e.xs = sortK n (grp n n.length e.k)
  all : ∀ j, j < n.length → pk n j ∈ es.map (·.k)
theorem GrpOk.kids {n : List EvV} {es : List KE} (h : GrpOk n n.length es) {seen : List Nat} (hs : ∀ j, j < es.length → j ∈ seen) : KidsOk n (doneE n es seen) := by
  have hkeys : (doneE n es seen).map (·.k) = es.map (·.k) := by
    have := congrArg (List.map Prod.fst) (done_kvs n es seen)
    rw [kvsM, kvsM, List.map_map, List.map_map] at this
    exact this
  refine ⟨by rw [hkeys]; exact h.nd, fun x hx => ?_, by rw [hkeys]; exact h.all⟩
  obtain ⟨j, hj, rfl⟩ := List.getElem_of_mem hx
  have hjl : j < es.length := by rw [done_len] at hj; exact hj
  have h3 : (doneE n es seen)[j]? = Option.some { es[j] with xs := sortK n es[j].xs } := by
    unfold doneE
    rw [List.getElem?_mapIdx, List.getElem?_eq_getElem hjl]
    simp [hs j hjl]
  obtain ⟨_, this⟩ := List.getElem?_eq_some_iff.1 h3
  rw [this]
  show sortK n es[j].xs = _
  rw [h.xs _ (List.getElem_mem hjl)]
def leftN (N : Nat) (seen : List Nat) : Nat := ((List.range N).filter fun j => decide (j ∉ seen)).length
theorem left_less {N j : Nat} {seen : List Nat} (hj : j < N) (hs : j ∉ seen) : leftN N (seen ++ [j]) < leftN N seen :=
  filter_less (x := j) (fun y _ hy => by simp only [decide_eq_true_eq, List.mem_append, not_or] at hy ⊢; exact hy.1) (List.mem_range.2 hj) (by simp) (by simp [hs])
theorem grp_inc (n : List EvV) (i : Nat) (k : Int) : (grp n i k).Pairwise (· < ·) := List.Pairwise.filter _ List.pairwise_lt_range
theorem grp_lt {n : List EvV} {i : Nat} {k : Int} {x : Nat} (h : x ∈ grp n i k) : x < i := by
  unfold grp at h; rw [List.mem_filter, List.mem_range] at h; exact h.1
theorem intsL_F (xs : List Nat) : intsL xs = intsF (fun i => xs.getD i 0) xs.length := by
  unfold intsF
  apply List.ext_getElem?
  intro j
  by_cases hj : j < xs.length
  · simp [hj]
  · simp [hj]
theorem intsF_L (f : Nat → Nat) (n : Nat) : intsF f n = intsL ((List.range n).map f) := by simp [intsF, intsL]
theorem sort_done {n : List EvV} {xs : List Nat} {h : Nat → Nat} (hnd : xs.Nodup) (hm : Mix 0 xs.length (fun i => xs.getD i 0) h) (hs : SortedF (ahead n) 0 xs.length h) : (List.range xs.length).map h = sortK n xs := by
  refine sortK_one hnd ?_ fun v => ?_
  · rw [List.pairwise_map]
    have hr : (List.range xs.length).Pairwise (fun i j => i < j ∧ i < xs.length ∧ j < xs.length) := by
      rw [List.pairwise_iff_getElem]
      intro i j hi hj hij
      simp only [List.getElem_range]
      exact ⟨hij, by simpa using hi, by simpa using hj⟩
    exact hr.imp fun {i j} ⟨h1, h2, h3⟩ => hs i j (Nat.zero_le _) h1 h3
  · rw [List.mem_map]
    constructor
    · rintro ⟨i, hi, rfl⟩
      obtain ⟨k, _, k2, e⟩ := hm.fro i (Nat.zero_le _) (List.mem_range.1 hi)
      rw [e]
      simp [k2]
    · intro hv
      obtain ⟨i, hi, rfl⟩ := List.getElem_of_mem hv
      obtain ⟨k, _, k2, e⟩ := hm.to i (Nat.zero_le _) hi
      refine ⟨k, List.mem_range.2 k2, ?_⟩
      rw [← e]; simp [hi]
end Go.Proofs.Ytfglecmimoeinaa
end

section
set_option linter.unusedSimpArgs false
set_option linter.unusedVariables false
set_option maxRecDepth 20000
namespace Go.Proofs.Ytfglecmimoeinaa
open Go.Free Go.RowKit Go.Proofs Go.Free.Sorts
set_option maxHeartbeats 8000000

abbrev nilS : Value := .slice none 0 0
abbrev cellB (β : Nat) (B : Option Addr) (m cap : Nat) : Chunk := obj β [.slice B m cap]
def kaE (F : Nat → Prop) (w0 : World) (β μ : Nat) (B : Option Addr) (cap : Nat) (n : List EvV) (s : Nat × List KE) : Env :=
  [(1, .ex (ptr β)), (3, .ex (mapV μ)), (10, .ex (.slice B n.length cap)), (11, .ex (vi n.length)), (12, .ex (vi s.1)),
   (1000, heap (fun b => F b ∨ w0.heap.size ≤ b) [rowEv B n.length cap (evsC n), cellB β B n.length cap, mapC μ (kvsM s.2), allC (s.2.map KE.row)])]
def kbE (F : Nat → Prop) (w0 : World) (β μ : Nat) (B : Option Addr) (cap : Nat) (n : List EvV) (i : Nat) (es : List KE) (p : Int) : Env :=
  [(1, .ex (ptr β)), (3, .ex (mapV μ)), (4, .ex (vi i)), (6, .ex (vi p)), (10, .ex (.slice B n.length cap)), (11, .ex (vi n.length)), (12, .ex (vi i)),
   (1000, heap (fun b => F b ∨ w0.heap.size ≤ b) [rowEv B n.length cap (evsC n), cellB β B n.length cap, mapC μ (kvsM es), allC (es.map KE.row)])]
def kcE (F : Nat → Prop) (w0 : World) (β μ r : Nat) (B : Option Addr) (cap : Nat) (n : List EvV) (es : List KE) (seen : List Nat) : Env :=
  [(1, .ex (ptr β)), (3, .ex (mapV μ)), (35, .ex (ptr r)),
   (1000, heap (fun b => F b ∨ w0.heap.size ≤ b) [rowEv B n.length cap (evsC n), cellB β B n.length cap, mapC μ (kvsM es), iterC r μ (kvsM es).length seen, allC ((doneE n es seen).map KE.row)])]
theorem kids_fn (B : Option Addr) (cap : Nat) (n : List EvV) (hn : n.length ≤ 1000000) (hok : ∀ x ∈ n, x.okV) :
    SpcC Try.prog 21 [.ex (.slice B n.length cap)] (rowEv B n.length cap (evsC n)) (fun x : Nat × List KE => KidsOk n x.2) (fun x => .ex (mapV x.1))
      (fun x => allC [rowEv B n.length cap (evsC n), mapC x.1 (kvsM x.2), allC (x.2.map KE.row)]) := by
  refine SpcC.intro Try.func21 rfl (Nat.le_of_ble_eq_true rfl) fun w0 F => ?_
  have hI := kept_below F w0
  have hA := Own.kept F w0
  refine J.seq (J.region mixed hI (by kernel_rfl) ?_)
  refine Plan.boxC (key := 1000) rfl rfl rfl (by intro _ e; cases e; decide) rfl rfl hA fun β => ?_
  repeat (refine Plan.assign rfl rfl rfl rfl ?_)
  refine J.seq (J.region mixed hI (by kernel_rfl) ?_)
  refine Plan.makeMapC (key := 1000) rfl rfl rfl (by intro _ e; cases e; decide) rfl hA fun μ => ?_
  repeat (refine Plan.assign rfl rfl rfl rfl ?_)
  refine J.seq (J.seq (J.region mixed hI (by kernel_rfl) ?_))
  repeat (first | refine Plan.move rfl rfl rfl rfl ?_ | refine Plan.lenE rfl rfl rfl rfl (by exact Try.underlying22) ?_ | refine Plan.loadC (key := 1000) (q := 1) rfl rfl rfl rfl rfl rfl (obj_reads1 rfl) (by first | exact Try.underlying3 | exact Try.underlying22) (by rfl) (by decide) ?_)
  refine J.block (J.loop (kaE F w0 β μ B cap n) (fun s => s.1 ≤ n.length ∧ GrpOk n s.1 s.2) (fun s => n.length - s.1) (0, []) ⟨Nat.zero_le _, grp_none n⟩ ?_ ?_)
  · exact (by repeat (first | exact Weak.nil | refine Weak.cons rfl (Sub.refl _) ?_ | refine Weak.cons rfl (Sub.heap (Ent.sep (Ent.refl _) (Ent.sep (Ent.refl _) (Ent.sep (Ent.refl _) Ent.addEmp)))) ?_))
  rintro ⟨i, es⟩ ⟨hi, hg⟩
  simp only at hi hg
  change J _ _ _ _ _ (kaE F w0 β μ B cap n (i, es))
  refine J.seq (J.region mixed hI (by kernel_rfl) ?_)
  repeat ((refine Plan.ints rfl rfl rfl rfl rfl rfl ?_; (skip)))
  refine J.seq (J.condD rfl (fun hc => ?_) (fun hc => ?_))
  · have hlt : i < n.length := by
      first | omega | (dsimp only at hc; omega)
    obtain ⟨e, he⟩ : ∃ e, e = n[i] := ⟨_, rfl⟩
    have heo : e.okV := by rw [he]; exact hok _ (List.getElem_mem hlt)
    have hpk : pk n i = if e.rr = 0 ∧ e.rn = 0 then -1 else idxM n e := by
      unfold pk parM
      rw [getD_at hlt, ← he]
      by_cases h0 : e.rr = 0 ∧ e.rn = 0
      · rw [if_pos h0, if_pos h0]
      · rw [if_neg h0, if_neg h0]; unfold idxM; cases n.findIdx? (hangs e) <;> rfl
    refine J.skip ?_
    refine J.tellC (key := 1000) (q := 0) rfl rfl (row_at (by rw [evs_len]; omega)) ?_
    rintro ⟨g, rfl⟩
    refine J.seq (J.block ?_)
    refine J.seq (J.region mixed hI (by kernel_rfl) ?_)
    repeat (refine Plan.move rfl rfl rfl rfl ?_)
    refine Plan.indexC (off := i * 26) rfl rfl rfl rfl rfl eltE hlt (by omega) ?_
    refine Plan.loadAggC (key := 1000) (q := 0) (off := i * 26) (vs := e.enc) rfl rfl rfl rfl rfl rfl (row_reads (by rw [he]; exact evs_at n hlt)) Try.underlying41 rfl (by rw [encE]; kernel_rfl) (by decide) ?_
    refine Plan.allocC (key := 1000) (z := .agg ev0.enc.toArray) rfl rfl rfl (by intro _ e; cases e; decide) (by kernel_rfl) rfl hA fun ξ => ?_
    repeat (refine Plan.assign rfl rfl rfl rfl ?_)
    refine Plan.storeC (key := 1000) (q := 4) (off := 0) rfl rfl rfl rfl rfl rfl (by simp [Value.cells, Value.oneCell', EvV.enc, str]) (by show _ = some e.enc.toArray.size; kernel_rfl) rfl hA rfl (obj_pat (Nat.le_of_ble_eq_true rfl)) ?_
    repeat (fail)
    refine J.seq (J.region mixed hI (by kernel_rfl) ?_)
    repeat (refine Plan.assign rfl rfl rfl rfl ?_)
    refine J.seqMid (σ := Unit) (fun _ => kbE F w0 β μ (some ⟨g, 0, none⟩) cap n i es (pk n i)) (fun _ => True) ?_ ?_
    · refine J.seq (J.region mixed hI (by kernel_rfl) ?_)
      repeat (refine Plan.fieldC rfl rfl rfl rfl (by first | exact Try.underlying41 | exact Try.underlying39) rfl (by kernel_rfl) (by first | exact (rfl : _ = 19) | exact (rfl : _ = 24)) ?_)
      refine Plan.loadAggC (key := 1000) (q := 4) (vs := [vi e.rr, vi e.rn]) rfl rfl rfl rfl rfl rfl (obj_reads rfl) Try.underlying26 rfl (by kernel_rfl) (by decide) ?_
      refine Plan.build (cells := #[vi 0, vi 0]) rfl rfl (ps := []) rfl Parts.nil (by kernel_rfl) ?_
      refine Plan.neqDt (e.rr, e.rn) (0, 0) rfl rfl rfl rfl rfl ⟨heo.2.2.2.2.2.2.2.2.2.1, heo.2.2.2.2.2.2.2.2.2.2⟩ ⟨⟨by decide, by decide⟩, ⟨by decide, by decide⟩⟩ ?_
      refine J.condND rfl (fun hd => ?_) (fun hd => ?_)
      · have h0 : ¬ (e.rr = 0 ∧ e.rn = 0) := fun h => hd (by rw [h.1, h.2])
        rw [hpk, if_neg h0]
        refine J.region mixed hI (by kernel_rfl) ?_
        repeat (refine Plan.loadC (key := 1000) (q := 1) rfl rfl rfl rfl rfl rfl (obj_reads1 rfl) (by first | exact Try.underlying3 | exact Try.underlying22) (by rfl) (by decide) ?_)
        refine Plan.makeFn (cs := [.tmp 5]) (caps := [ptr ξ]) rfl rfl rfl (vals1 rfl) ?_
        refine Plan.callRG (key := 1000) (B := 0) (c := allC [rowEv (some ⟨g, 0, none⟩) n.length cap (evsC n), obj ξ e.enc]) rfl rfl rfl (index_fn ξ g cap n e hn hok heo) Try.func31 rfl rfl (fun _ _ => Nat.zero_le _) (by repeat (first | exact Opnds.nil | refine Opnds.cons rfl (by exact Sub.refl _) ?_)) rfl (Ent.pickC [0, 4] rfl rfl) (by decide) ?_
        repeat (refine Plan.assign rfl rfl rfl rfl ?_)
        exact Nrm.mid () trivial (by repeat (first | exact Weak.nil | refine Weak.cons rfl (Sub.refl _) ?_ | refine Weak.cons rfl (Sub.heap (Ent.pickC [0, 1, 2, 3] rfl rfl)) ?_))
      · have h0 : e.rr = 0 ∧ e.rn = 0 := by simpa using hd
        rw [hpk, if_pos h0]
        refine J.skip ?_
        exact Nrm.mid () trivial (by repeat (first | exact Weak.nil | refine Weak.cons rfl (Sub.refl _) ?_ | refine Weak.cons rfl (Sub.heap (Ent.pickC [0, 1, 2, 3] rfl rfl)) ?_))
    intro _ _
    by_cases hp : pk n i ∈ es.map (·.k)
    · obtain ⟨eo, heo1, hek⟩ := List.mem_map.1 hp
      obtain ⟨j, hj, hje⟩ := List.getElem_of_mem heo1
      have hj? : es[j]? = some eo := by rw [List.getElem?_eq_getElem hj, hje]
      have hrow : (es.map KE.row)[j]? = some eo.row := by rw [List.getElem?_map, hj?]; rfl
      have hxl : eo.xs.length ≤ i := by
        rw [hg.xs eo heo1]
        have := List.length_filter_le (fun j => decide (pk n j = eo.k)) (List.range i)
        rw [List.length_range] at this
        exact this
      refine J.regroup (key := 1000) [rowEv (some ⟨g, 0, none⟩) n.length cap (evsC n), cellB β (some ⟨g, 0, none⟩) n.length cap, mapC μ (kvsM es), eo.row, allC ((es.map KE.row).eraseIdx j)] rfl (Ent.sep (Ent.refl _) (Ent.sep (Ent.refl _) (Ent.sep (Ent.refl _) (Ent.lastOut hrow)))) ?_
      refine J.region mixed hI (by kernel_rfl) ?_
      repeat (refine Plan.move rfl rfl rfl rfl ?_)
      refine Plan.lookupC (key := 1000) (q := 2) (z := nilS) rfl rfl rfl rfl rfl Try.underlying46 Try.underlying3 (by kernel_rfl) rfl rfl (by decide) ?_
      have hm := mapAt_in hg.nd hj? nilS
      rw [hek] at hm
      rw [hm]
      repeat (refine Plan.move rfl rfl rfl rfl ?_)
      refine Plan.lit (B := 0) rfl rfl rfl eltI rfl (fun _ _ => Nat.zero_le _) rfl (fun v hv => by rw [List.mem_singleton.1 hv]; rfl) (by decide) ?_
      refine Plan.appendC (key := 1000) (q := 3) (B := eo.B) (m := eo.xs.length) (cap := eo.cap) (xs := intsL eo.xs) (news := intsL [i]) rfl rfl rfl rfl rfl Sub.own eltI (by intro _ e; cases e; decide) rfl hA rfl (fun u hu => by rw [List.mem_singleton.1 hu]; rfl) (by simp; omega) fun B' m' cap' hm' => ?_
      obtain ⟨e', he'⟩ : ∃ e' : KE, e' = ⟨pk n i, B', cap', eo.xs ++ [i]⟩ := ⟨_, rfl⟩
      obtain rfl : m' = (eo.xs ++ [i]).length := by simpa using hm'
      refine Plan.mapUpdateC (key := 1000) (q := 2) (v := e'.val) rfl rfl rfl rfl rfl rfl (by rw [he']; rfl) Try.underlying46 Try.underlying3 rfl hA rfl ?_
      have hpv := putV_in (e' := e') hg.nd hj? (by rw [he']; exact hek.symm)
      rw [hek] at hpv
      rw [hpv]
      have hEnt : Ent (allC [rowC 3 1 B' (eo.xs ++ [i]).length cap' (intsL eo.xs ++ intsL [i]), allC ((es.map KE.row).eraseIdx j)]) (allC [allC ((es.set j e').map KE.row)]) := by
        have h1 : rowC 3 1 B' (eo.xs ++ [i]).length cap' (intsL eo.xs ++ intsL [i]) = e'.row := by rw [he']; simp [KE.row, intsL]
        rw [h1, List.map_set]; exact Ent.lastIn (by simpa using hj)
      repeat (fail)
      refine J.region mixed hI (by kernel_rfl) ?_
      repeat (first | refine Plan.move rfl rfl rfl rfl ?_ | (refine Plan.ints rfl rfl rfl rfl rfl rfl ?_; (refine Plan.int (i64r (by omega)) ?_)))
      refine Plan.int (y := ((i + 1 : Nat) : Int)) (by omega) ?_
      repeat (fail)
      exact Nrm.next (i + 1, es.set j e') ⟨hlt, hg.more hj? hek (by rw [he']; exact hek.symm) (by rw [he'])⟩ (by dsimp only; omega) (by repeat (first | exact Weak.nil | refine Weak.cons rfl (Sub.refl _) ?_ | refine Weak.cons rfl (Sub.heap (Ent.sep (Ent.refl _) (Ent.sep (Ent.refl _) (Ent.sep (Ent.refl _) hEnt)))) ?_))
    · refine J.nilRow (key := 1000) 3 1 rfl ?_
      refine J.region mixed hI (by kernel_rfl) ?_
      repeat (refine Plan.move rfl rfl rfl rfl ?_)
      refine Plan.lookupC (key := 1000) (q := 2) (z := nilS) rfl rfl rfl rfl rfl Try.underlying46 Try.underlying3 (by kernel_rfl) rfl rfl (by decide) ?_
      rw [mapAt_out hp]
      repeat (refine Plan.move rfl rfl rfl rfl ?_)
      refine Plan.lit (B := 0) rfl rfl rfl eltI rfl (fun _ _ => Nat.zero_le _) rfl (fun v hv => by rw [List.mem_singleton.1 hv]; rfl) (by decide) ?_
      refine Plan.appendC (key := 1000) (q := 4) (B := none) (m := 0) (cap := 0) (xs := []) (news := intsL [i]) rfl rfl rfl rfl rfl Sub.own eltI (by intro _ e; cases e; decide) rfl hA rfl (fun u hu => by rw [List.mem_singleton.1 hu]; rfl) (by simp) fun B' m' cap' hm' => ?_
      obtain ⟨e', he'⟩ : ∃ e' : KE, e' = ⟨pk n i, B', cap', [i]⟩ := ⟨_, rfl⟩
      obtain rfl : m' = 1 := by simpa using hm'
      refine Plan.mapUpdateC (key := 1000) (q := 2) (v := e'.val) rfl rfl rfl rfl rfl rfl (by rw [he']; rfl) Try.underlying46 Try.underlying3 rfl hA rfl ?_
      have hpo : e'.k ∉ es.map (·.k) := by rw [he']; exact hp
      have hpv := putV_out hpo
      rw [show e'.k = pk n i by rw [he']] at hpv
      rw [hpv]
      have hEnt : Ent (allC [allC (es.map KE.row), rowC 3 1 B' 1 cap' ([] ++ intsL [i])]) (allC [allC ((es ++ [e']).map KE.row)]) := by
        have h1 : rowC 3 1 B' 1 cap' ([] ++ intsL [i]) = e'.row := by rw [he']; rfl
        rw [h1, List.map_append]; exact Ent.lastAdd
      repeat (fail)
      refine J.region mixed hI (by kernel_rfl) ?_
      repeat (first | refine Plan.move rfl rfl rfl rfl ?_ | (refine Plan.ints rfl rfl rfl rfl rfl rfl ?_; (refine Plan.int (i64r (by omega)) ?_)))
      refine Plan.int (y := ((i + 1 : Nat) : Int)) (by omega) ?_
      repeat (fail)
      exact Nrm.next (i + 1, es ++ [e']) ⟨hlt, hg.new (by rw [he']) hpo (by rw [he'])⟩ (by dsimp only; omega) (by repeat (first | exact Weak.nil | refine Weak.cons rfl (Sub.refl _) ?_ | refine Weak.cons rfl (Sub.heap (Ent.sep (Ent.refl _) (Ent.sep (Ent.refl _) (Ent.sep (Ent.refl _) hEnt)))) ?_))
  · have hie : i = n.length := by
      first | omega | (dsimp only at hc; omega)
    subst hie
    refine J.exit ?_
    refine J.seq (J.seq (J.region mixed hI (by kernel_rfl) ?_))
    repeat (refine Plan.move rfl rfl rfl rfl ?_)
    refine Plan.rangeC (key := 1000) (q := 2) rfl rfl rfl (by intro _ e; cases e; decide) rfl Try.underlying46 rfl hA rfl fun r => ?_
    repeat (fail)
    refine J.block (J.loop (kcE F w0 β μ r B cap n es) (fun _ => True) (fun seen => leftN es.length seen) [] trivial ?_ ?_)
    · unfold kcE
      rw [done_none]
      exact (by repeat (first | exact Weak.nil | refine Weak.cons rfl (Sub.refl _) ?_ | refine Weak.cons rfl (Sub.heap (Ent.pickC [0, 1, 2, 4, 3] rfl rfl)) ?_))
    intro seen _
    refine J.seq (J.region mixed hI (by kernel_rfl) ?_)
    refine Plan.nextC (key := 1000) (q := 2) (q2 := 3) rfl rfl rfl (by intro _ e; cases e; decide) rfl rfl hA rfl rfl (fun hall => ?_) (fun j p hj hs => ?_)
    · refine Plan.extractEx rfl rfl rfl rfl rfl ?_
      refine J.seq (J.condF rfl ?_)
      refine J.exit ?_
      refine J.seq (J.region mixed hI (by kernel_rfl) ?_)
      repeat (first | refine Plan.move rfl rfl rfl rfl ?_ | refine Plan.assign rfl rfl rfl rfl ?_)
      have hko : KidsOk n (doneE n es seen) := hg.kids fun j hj => hall j (by rw [kvs_len]; exact hj)
      rw [← done_kvs n es seen]
      exact J.ret (Nrm.retC1 (key := 1000) (μ, doneE n es seen) rfl rfl rfl hko (Sub.refl _) (Ent.pickC [0, 2, 4] rfl rfl))
    · obtain ⟨eo, hj?, rfl⟩ : ∃ eo, es[j]? = some eo ∧ (eo.k, eo.val) = p := by
        unfold kvsM at hj
        rw [List.getElem?_map] at hj
        cases hx : es[j]? with
        | none => rw [hx] at hj; cases hj
        | some eo => rw [hx] at hj; cases hj; exact ⟨eo, rfl, rfl⟩
      have hjl : j < es.length := (List.getElem?_eq_some_iff.1 hj?).1
      have heo := hg.xs eo (List.mem_of_getElem? hj?)
      have hes := hg.some eo (List.mem_of_getElem? hj?)
      refine Plan.extractEx rfl rfl rfl rfl rfl ?_
      refine J.seq (J.condT rfl ?_)
      refine J.skip ?_
      refine J.block ?_
      refine J.seq (J.region mixed hI (by kernel_rfl) ?_)
      refine Plan.entryC (key := 1000) (q := 2) (q2 := 3) (j := j) (p := (eo.k, eo.val)) rfl rfl rfl rfl rfl rfl rfl hj (by decide) ?_
      refine Plan.extractEx (v := eo.val) rfl rfl rfl rfl rfl ?_
      repeat (refine Plan.assign rfl rfl rfl rfl ?_)
      have hnd : eo.xs.Nodup := by rw [heo]; exact (grp_inc n n.length eo.k).imp fun h => Nat.ne_of_lt h
      have hxlt : ∀ i, i < eo.xs.length → eo.xs.getD i 0 < n.length := fun i hi => by
        have h1 : eo.xs.getD i 0 = eo.xs[i] := by rw [List.getD_eq_getElem?_getD, List.getElem?_eq_getElem hi]; rfl
        rw [h1]
        have h4 : ∀ x ∈ eo.xs, x < n.length := by rw [heo]; intro x hx; exact grp_lt hx
        exact h4 _ (List.getElem_mem hi)
      have hpos : 0 < eo.xs.length := List.length_pos_iff.2 hes
      have hnpos : 0 < n.length := by have := hxlt 0 hpos; omega
      have hxn : eo.xs.length ≤ n.length := by
        rw [heo]
        have := List.length_filter_le (fun j => decide (pk n j = eo.k)) (List.range n.length)
        rw [List.length_range] at this
        exact this
      have hinc : ∀ i l, i < l → l < eo.xs.length → eo.xs.getD i 0 < eo.xs.getD l 0 := fun i l h1 h2 => by
        have e1 : eo.xs.getD i 0 = eo.xs[i] := by rw [List.getD_eq_getElem?_getD, List.getElem?_eq_getElem (by omega)]; rfl
        have e2 : eo.xs.getD l 0 = eo.xs[l] := by rw [List.getD_eq_getElem?_getD, List.getElem?_eq_getElem h2]; rfl
        rw [e1, e2]
        have h3 : eo.xs.Pairwise (· < ·) := by rw [heo]; exact grp_inc n n.length eo.k
        exact List.pairwise_iff_getElem.1 h3 i l (by omega) h2 h1
      have hda : (doneE n es seen)[j]? = some eo := done_at hj? hs
      have hrow : ((doneE n es seen).map KE.row)[j]? = some eo.row := by rw [List.getElem?_map, hda]; rfl
      refine J.tellC (key := 1000) (q := 0) rfl rfl (row_at (by rw [evs_len]; omega)) ?_
      rintro ⟨g, rfl⟩
      refine J.regroup (key := 1000) [rowEv (some ⟨g, 0, none⟩) n.length cap (evsC n), cellB β (some ⟨g, 0, none⟩) n.length cap, mapC μ (kvsM es), iterC r μ (kvsM es).length (seen ++ [j]), eo.row, allC (((doneE n es seen).map KE.row).eraseIdx j)] rfl (Ent.sep (Ent.refl _) (Ent.sep (Ent.refl _) (Ent.sep (Ent.refl _) (Ent.sep (Ent.refl _) (Ent.lastOut hrow))))) ?_
      refine J.tellC (key := 1000) (q := 4) rfl rfl (row_at (B := eo.B) (m := eo.xs.length) (cap := eo.cap) (xs := intsL eo.xs) (by simpa using hpos)) ?_
      rintro ⟨g2, hg2⟩
      have hval : eo.val = slI g2 eo.xs.length eo.cap := by unfold KE.val; rw [hg2]
      have hrw : eo.row = rowI g2 eo.xs.length eo.cap (fun i => eo.xs.getD i 0) := by unfold KE.row; rw [hg2, intsL_F]
      rw [hval]
      refine J.regroup (key := 1000) [rowI g2 eo.xs.length eo.cap (fun i => eo.xs.getD i 0), nC β g cap n, mapC μ (kvsM es), iterC r μ (kvsM es).length (seen ++ [j]), allC (((doneE n es seen).map KE.row).eraseIdx j)] rfl (by
        rw [← hrw]
        exact (Ent.pickC (H' := [eo.row, cellB β (some ⟨g, 0, none⟩) n.length cap, rowEv (some ⟨g, 0, none⟩) n.length cap (evsC n), mapC μ (kvsM es), iterC r μ (kvsM es).length (seen ++ [j]), allC (((doneE n es seen).map KE.row).eraseIdx j)]) [4, 1, 0, 2, 3, 5] rfl rfl).trans (Ent.sep (Ent.refl _) Ent.group2)) ?_
      refine J.region mixed hI (by kernel_rfl) ?_
      repeat (refine Plan.move rfl rfl rfl rfl ?_)
      refine Plan.makeFn (cs := [.tmp 1]) (caps := [ptr β]) rfl rfl rfl (vals1 rfl) ?_
      refine Plan.callL (key := 1000) [0, 1] [2, 3, 4] rfl rfl rfl ((sortStable_fn (ahead_ord n) (cmpK β g cap n) g2 eo.xs.length eo.cap (fun i => eo.xs.getD i 0) (by omega) hxlt hinc)) Try.func34 rfl rfl (by intro _ e; cases e; decide) (by repeat (first | exact Opnds.nil | refine Opnds.cons rfl (by exact Sub.refl _) ?_)) rfl hA rfl rfl rfl ?_
      rintro h ⟨hm, hso⟩
      have hsd := sort_done hnd hm hso
      have hEnt : Ent (allC [rowI g2 eo.xs.length eo.cap h, allC (((doneE n es seen).map KE.row).eraseIdx j)]) (allC [allC ((doneE n es (seen ++ [j])).map KE.row)]) := by
        have h1 : rowI g2 eo.xs.length eo.cap h = ({ eo with xs := sortK n eo.xs } : KE).row := by
          unfold KE.row rowI
          dsimp only
          rw [hg2, intsF_L, hsd, sortK_len]
        rw [h1, ← done_more hj? hs, List.map_set]
        exact Ent.lastIn (by rw [List.length_map, done_len]; exact hjl)
      have hE : Ent (allC [rowI g2 eo.xs.length eo.cap h, nC β g cap n, mapC μ (kvsM es), iterC r μ (kvsM es).length (seen ++ [j]), allC (((doneE n es seen).map KE.row).eraseIdx j)])
          (allC [rowEv (some ⟨g, 0, none⟩) n.length cap (evsC n), cellB β (some ⟨g, 0, none⟩) n.length cap, mapC μ (kvsM es), iterC r μ (kvsM es).length (seen ++ [j]), allC ((doneE n es (seen ++ [j])).map KE.row)]) :=
        (Ent.sep (Ent.refl (rowI g2 eo.xs.length eo.cap h)) Ent.ungroup2).trans ((Ent.pickC (H := [rowI g2 eo.xs.length eo.cap h, cellB β (some ⟨g, 0, none⟩) n.length cap, rowEv (some ⟨g, 0, none⟩) n.length cap (evsC n), mapC μ (kvsM es), iterC r μ (kvsM es).length (seen ++ [j]), allC (((doneE n es seen).map KE.row).eraseIdx j)]) (H' := [rowEv (some ⟨g, 0, none⟩) n.length cap (evsC n), cellB β (some ⟨g, 0, none⟩) n.length cap, mapC μ (kvsM es), iterC r μ (kvsM es).length (seen ++ [j]), rowI g2 eo.xs.length eo.cap h, allC (((doneE n es seen).map KE.row).eraseIdx j)]) [2, 1, 3, 4, 0, 5] rfl rfl).trans
          (Ent.sep (Ent.refl _) (Ent.sep (Ent.refl _) (Ent.sep (Ent.refl _) (Ent.sep (Ent.refl _) hEnt)))))
      exact Nrm.next (seen ++ [j]) trivial (left_less hjl hs) (by repeat (first | exact Weak.nil | refine Weak.cons rfl (Sub.refl _) ?_ | refine Weak.cons rfl (Sub.heap (hE)) ?_))
end Go.Proofs.Ytfglecmimoeinaa
end

section
set_option linter.unusedSimpArgs false
set_option linter.unusedVariables false
set_option maxRecDepth 20000
namespace Go.Proofs.Ytfglecmimoeinaa
open Go.Free Go.RowKit Go.Proofs Go.Free.Sorts
set_option maxHeartbeats 8000000

def pkey (p : Option Nat) : Int := match p with | none => -1 | some i => (i : Int)
theorem pk_key (n : List EvV) (j : Nat) : pk n j = pkey (parM n (n.getD j ev0)) := by unfold pk pkey; cases parM n (n.getD j ev0) <;> rfl
theorem pkey_inj {p q : Option Nat} (h : pkey p = pkey q) : p = q := by
  unfold pkey at h
  cases p <;> cases q <;> simp only at h
  · rfl
  · omega
  · omega
  · congr 1; omega
theorem grp_kids (n : List EvV) (p : Option Nat) : grp n n.length (pkey p) = kidsM n p := by
  unfold grp kidsM
  refine List.filter_congr fun j _ => ?_
  rw [pk_key]
  exact decide_eq_decide.2 ⟨pkey_inj, fun h => by rw [h]⟩
theorem kids_look {n : List EvV} {es : List KE} (h : KidsOk n es) (p : Option Nat) :
    (∃ (j : Nat) (e : KE), es[j]? = some e ∧ e.k = pkey p ∧ mapAt nilS (kvsM es) (pkey p) = e.val ∧ e.xs = sortK n (kidsM n p)) ∨ (mapAt nilS (kvsM es) (pkey p) = nilS ∧ kidsM n p = []) := by
  by_cases hp : pkey p ∈ es.map (·.k)
  · obtain ⟨e, he, hek⟩ := List.mem_map.1 hp
    obtain ⟨j, hj, hje⟩ := List.getElem_of_mem he
    have hj? : es[j]? = some e := by rw [List.getElem?_eq_getElem hj, hje]
    have hm := mapAt_in h.nd hj? nilS
    rw [hek] at hm
    have hx := h.xs e he
    rw [hek, grp_kids] at hx
    exact .inl ⟨j, e, hj?, hek, hm, hx⟩
  · refine .inr ⟨mapAt_out hp _, ?_⟩
    rw [← grp_kids]
    unfold grp
    rw [List.filter_eq_nil_iff]
    intro j hj
    simp only [decide_eq_true_eq]
    intro hc
    exact hp (hc ▸ h.all j (List.mem_range.1 hj))
abbrev evsOf (n : List EvV) (l : List Nat) : List EvV := l.map fun i => n.getD i ev0
abbrev fnW (a6 a7 a5 a8 : Nat) : Value := .func (.func 22) #[] [ptr a6, ptr a7, ptr a5, ptr a8].toArray
abbrev wH (a6 a7 a5 a8 μ : Nat) (B : Option Addr) (cap : Nat) (n : List EvV) (es : List KE) (out : List EvV) (O : Option Addr) (oc : Nat) : List Chunk :=
  [obj a6 [mapV μ], cellB a7 O out.length oc, cellB a5 B n.length cap, obj a8 [fnW a6 a7 a5 a8], mapC μ (kvsM es), rowEv B n.length cap (evsC n), rowEv O out.length oc (evsC out), allC (es.map KE.row)]
def wkE (F : Nat → Prop) (w0 : World) (a6 a7 a5 a8 μ : Nat) (B : Option Addr) (cap : Nat) (n : List EvV) (es : List KE) (v : Value) (m : Nat) (part : Nat → List EvV) (s : Nat × Option Addr × Nat) : Env :=
  [(1, .ex (ptr a6)), (2, .ex (ptr a7)), (3, .ex (ptr a5)), (4, .ex (ptr a8)), (10, .ex v), (11, .ex (vi m)), (12, .ex (vi s.1)), (1000, heap (fun b => F b ∨ w0.heap.size ≤ b) (wH a6 a7 a5 a8 μ B cap n es (part s.1) s.2.1 s.2.2))]
theorem und_step (n : List EvV) (k : Nat) (p : Option Nat) (out : List EvV) {j : Nat} (hj : j < (sortK n (kidsM n p)).length) :
    (out ++ evsOf n (((sortK n (kidsM n p)).take j).flatMap fun i => i :: undM n k (some i)) ++ [n.getD (sortK n (kidsM n p))[j] ev0]) ++ evsOf n (undM n k (some (sortK n (kidsM n p))[j])) = out ++ evsOf n (((sortK n (kidsM n p)).take (j + 1)).flatMap fun i => i :: undM n k (some i)) := by
  rw [List.take_succ_eq_append_getElem hj, List.flatMap_append]
  unfold evsOf
  simp only [List.map_append, List.flatMap_cons, List.flatMap_nil, List.append_nil, List.map_cons, List.append_assoc, List.cons_append, List.nil_append]
theorem und_part_len (n : List EvV) (k : Nat) (p : Option Nat) (j : Nat) : (((sortK n (kidsM n p)).take j).flatMap fun i => i :: undM n k (some i)).length ≤ (undM n (k + 1) p).length := by
  have h : undM n (k + 1) p = ((sortK n (kidsM n p)).take j).flatMap (fun i => i :: undM n k (some i)) ++ ((sortK n (kidsM n p)).drop j).flatMap (fun i => i :: undM n k (some i)) := by
    rw [← List.flatMap_append, List.take_append_drop]; rfl
  rw [h, List.length_append]; omega
theorem walk_fn (a6 a7 a5 a8 μ : Nat) (B : Option Addr) (cap : Nat) (n : List EvV) (hn : n.length ≤ 1000000) (es : List KE) (hk : KidsOk n es) : ∀ (k : Nat) (p : Option Nat) (out : List EvV) (O : Option Addr) (oc : Nat), mu n p < k → out.length + (undM n k p).length ≤ 1000000 →
    SpcC Try.prog 22 [.ex (vi (pkey p)), .ex (ptr a6), .ex (ptr a7), .ex (ptr a5), .ex (ptr a8)] (allC (wH a6 a7 a5 a8 μ B cap n es out O oc)) (fun _ : Option Addr × Nat => True) (fun _ => Fa.any)
      (fun x => allC (wH a6 a7 a5 a8 μ B cap n es (out ++ evsOf n (undM n k p)) x.1 x.2))
  | 0, _, _, _, _, h, _ => absurd h (Nat.not_lt_zero _)
  | k + 1, p, out, O, oc, hmu, hlen => by
    refine SpcC.intro Try.func22 rfl (Nat.le_of_ble_eq_true rfl) fun w0 F => ?_
    have hI := kept_below F w0
    have hA := Own.kept F w0
    refine J.open1 (key := 1000) rfl ?_
    obtain ⟨xs, hxs⟩ : ∃ xs, xs = sortK n (kidsM n p) := ⟨_, rfl⟩
    have hxm : ∀ i ∈ xs, i < n.length ∧ mu n (some i) < k := fun i hi => by
      rw [hxs, sortK_mem] at hi
      have := mu_kid hi
      exact ⟨(kids_mem.1 hi).1, by omega⟩
    obtain ⟨Bx, cx, hv, hrow⟩ : ∃ (Bx : Option Addr) (cx : Nat), mapAt nilS (kvsM es) (pkey p) = .slice Bx xs.length cx ∧ (0 < xs.length → ∃ (j : Nat) (e : KE), es[j]? = some e ∧ e.B = Bx ∧ e.cap = cx ∧ e.xs = xs) := by
      rcases kids_look hk p with ⟨j, e, h1, h2, h3, h4⟩ | ⟨h1, h2⟩
      · exact ⟨e.B, e.cap, by rw [h3, hxs, ← h4]; rfl, fun _ => ⟨j, e, h1, rfl, rfl, by rw [hxs, ← h4]⟩⟩
      · have h3 : xs = [] := by
          apply List.eq_nil_iff_forall_not_mem.2
          intro v hv
          rw [hxs, sortK_mem, h2] at hv
          cases hv
        subst h3
        exact ⟨none, 0, h1, fun h => by simp at h⟩
    have hxn : xs.length ≤ n.length := by
      rw [hxs, sortK_len]
      have := List.length_filter_le (fun i => decide (parM n (n.getD i ev0) = p)) (List.range n.length)
      rw [List.length_range] at this
      exact this
    obtain ⟨part, hpart⟩ : ∃ part : Nat → List EvV, part = fun j => out ++ evsOf n ((xs.take j).flatMap fun i => i :: undM n k (some i)) := ⟨_, rfl⟩
    have hp0 : part 0 = out := by rw [hpart]; simp
    have hpe : part xs.length = out ++ evsOf n (undM n (k + 1) p) := by rw [hpart]; dsimp only; rw [List.take_length, hxs]; rfl
    have hpl : ∀ j, (part j).length ≤ 1000000 := fun j => by
      rw [hpart, hxs]
      have := und_part_len n k p j
      simp only [List.length_append, List.length_map]; omega
    refine J.seq (J.region mixed hI (by kernel_rfl) ?_)
    refine Plan.loadC (key := 1000) (q := 0) rfl rfl rfl rfl rfl rfl (obj_reads1 rfl) Try.underlying46 rfl (by decide) ?_
    repeat (refine Plan.move rfl rfl rfl rfl ?_)
    refine Plan.lookupC (key := 1000) (q := 4) (z := nilS) rfl rfl rfl rfl rfl Try.underlying46 Try.underlying3 (by kernel_rfl) rfl rfl (by decide) ?_
    rw [hv]
    repeat (first | refine Plan.move rfl rfl rfl rfl ?_ | refine Plan.lenE rfl rfl rfl rfl (by first | exact Try.underlying22 | exact Try.underlying49) ?_)
    refine J.block (J.loop (wkE F w0 a6 a7 a5 a8 μ B cap n es (.slice Bx xs.length cx) xs.length part) (fun s => s.1 ≤ xs.length) (fun s => xs.length - s.1) (0, O, oc) (Nat.zero_le _) ?_ ?_)
    · unfold wkE
      dsimp only
      rw [hp0]
      repeat (first | exact Weak.nil | refine Weak.cons rfl (Sub.refl _) ?_)
    rintro ⟨j, O1, oc1⟩ hj
    simp only at hj
    refine J.seq (J.region mixed hI (by kernel_rfl) ?_)
    repeat ((refine Plan.ints rfl rfl rfl rfl rfl rfl ?_; (skip)))
    refine J.seq (J.condD rfl (fun hc => ?_) (fun hc => ?_))
    · have hlt : j < xs.length := by
        first | omega | (dsimp only at hc; omega)
      obtain ⟨l, e, hl, he1, he2, he3⟩ := hrow (by omega)
      obtain ⟨i, hi⟩ : ∃ i, i = xs[j] := ⟨_, rfl⟩
      obtain ⟨hin, him⟩ := hxm i (hi ▸ List.getElem_mem hlt)
      have hpj : part (j + 1) = (part j ++ [n.getD i ev0]) ++ evsOf n (undM n k (some i)) := by
        rw [hpart, hi]
        subst hxs
        exact (und_step n k p out hlt).symm
      have hlen2 := hpl (j + 1)
      rw [hpj, List.length_append, List.length_map] at hlen2
      have hrw : (es.map KE.row)[l]? = some e.row := by rw [List.getElem?_map, hl]; rfl
      have hel : e.row = rowC 3 1 Bx xs.length cx (intsL xs) := by unfold KE.row; rw [he1, he2, he3]
      have hll : l < (es.map KE.row).length := by
        have := (List.getElem?_eq_some_iff.1 hl).1
        simpa using this
      have hset : (es.map KE.row).set l e.row = es.map KE.row := by
        obtain ⟨h1, h2⟩ := List.getElem?_eq_some_iff.1 hrw
        rw [← h2, List.set_getElem_self]
      refine J.tellC (key := 1000) (q := 5) rfl rfl (row_at (by rw [evs_len]; omega)) ?_
      rintro ⟨g, rfl⟩
      refine J.regroup (key := 1000) [obj a6 [mapV μ], cellB a7 O1 (part j).length oc1, cellB a5 (some ⟨g, 0, none⟩) n.length cap, obj a8 [fnW a6 a7 a5 a8], mapC μ (kvsM es), rowEv (some ⟨g, 0, none⟩) n.length cap (evsC n), rowEv O1 (part j).length oc1 (evsC (part j)), rowC 3 1 Bx xs.length cx (intsL xs), allC ((es.map KE.row).eraseIdx l)] rfl (by
        rw [← hel]
        exact Ent.sep (Ent.refl _) (Ent.sep (Ent.refl _) (Ent.sep (Ent.refl _) (Ent.sep (Ent.refl _) (Ent.sep (Ent.refl _) (Ent.sep (Ent.refl _) (Ent.sep (Ent.refl _) (Ent.lastOut hrw)))))))) ?_
      refine J.tellC (key := 1000) (q := 7) rfl rfl (row_at (by simpa using (by omega : 0 < xs.length))) ?_
      rintro ⟨g2, rfl⟩
      refine J.skip ?_
      refine J.seq (J.block ?_)
      refine J.seq (J.region mixed hI (by kernel_rfl) ?_)
      repeat (fail)
      refine Plan.indexCI j rfl rfl rfl rfl rfl rfl eltI hlt ?_
      refine Plan.loadC (key := 1000) (q := 7) (v := vi i) rfl rfl rfl rfl rfl rfl (row_reads1 (by simp [hi, hlt])) Try.underlying3 (by rfl) (by decide) ?_
      repeat (refine Plan.assign rfl rfl rfl rfl ?_)
      refine J.regroup (key := 1000) (wH a6 a7 a5 a8 μ (some ⟨g, 0, none⟩) cap n es (part j) O1 oc1) rfl (by
        have h1 := Ent.lastIn (c := e.row) hll
        rw [hset, hel] at h1
        exact Ent.sep (Ent.refl _) (Ent.sep (Ent.refl _) (Ent.sep (Ent.refl _) (Ent.sep (Ent.refl _) (Ent.sep (Ent.refl _) (Ent.sep (Ent.refl _) (Ent.sep (Ent.refl _) h1))))))) ?_
      refine J.seq (J.region mixed hI (by kernel_rfl) ?_)
      repeat (first | refine Plan.move rfl rfl rfl rfl ?_ | refine Plan.loadC (key := 1000) (q := 1) rfl rfl rfl rfl rfl rfl (obj_reads1 rfl) (by first | exact Try.underlying3 | exact Try.underlying22) (by rfl) (by decide) ?_ | refine Plan.loadC (key := 1000) (q := 2) rfl rfl rfl rfl rfl rfl (obj_reads1 rfl) (by first | exact Try.underlying3 | exact Try.underlying22) (by rfl) (by decide) ?_)
      refine Plan.indexC (off := i * 26) rfl rfl rfl rfl rfl eltE hin (by omega) ?_
      refine Plan.loadAggC (key := 1000) (q := 5) (off := i * 26) (vs := (n.getD i ev0).enc) rfl rfl rfl rfl rfl rfl (row_reads (evs_atD n hin)) Try.underlying41 rfl (by rw [encE]; kernel_rfl) (by decide) ?_
      refine Plan.lit (B := 0) rfl rfl rfl eltE rfl (fun _ _ => Nat.zero_le _) rfl (by simp [Value.cells, EvV.enc]) (by decide) ?_
      refine Plan.appendC (key := 1000) (q := 6) (B := O1) (m := (part j).length) (cap := oc1) (xs := evsC (part j)) (news := (n.getD i ev0).enc) rfl rfl rfl rfl rfl Sub.own eltE (by intro _ e; cases e; decide) rfl hA rfl (encE_one _) (by rw [evs_len, encE]; have := hpl j; omega) fun B' m' cap' hm' => ?_
      obtain ⟨out', hout⟩ : ∃ out', out' = part j ++ [n.getD i ev0] := ⟨_, rfl⟩
      have ho1 : evsC (part j) ++ (n.getD i ev0).enc = evsC out' := by rw [hout, evs_app]; simp [evsC]
      have ho2 : out'.length = (part j).length + 1 := by rw [hout]; simp
      obtain rfl : m' = out'.length := by rw [evs_len, encE] at hm'; omega
      rw [ho1]
      refine Plan.storeC (key := 1000) (q := 1) (off := 0) rfl rfl rfl rfl rfl rfl (by simp [Value.cells, Value.oneCell']) (by rfl) rfl hA rfl (obj_pat (Nat.le_of_ble_eq_true rfl)) ?_
      repeat (fail)
      have hmain := walk_fn a6 a7 a5 a8 μ (some ⟨g, 0, none⟩) cap n hn es hk k (some i) out' B' cap' him (by rw [← hout] at hlen2; exact hlen2)
      refine J.region mixed hI (by kernel_rfl) ?_
      repeat (fail)
      refine Plan.loadC (key := 1000) (q := 3) rfl rfl rfl rfl rfl rfl (obj_reads1 rfl) Try.underlying48 rfl (by decide) ?_
      repeat (refine Plan.move rfl rfl rfl rfl ?_)
      refine Plan.callFG (key := 1000) (allC []) (caps := [ptr a6, ptr a7, ptr a5, ptr a8]) (fs := [.ex (vi (pkey (some i)))]) (fun x => [allC (wH a6 a7 a5 a8 μ (some ⟨g, 0, none⟩) cap n es (out' ++ evsOf n (undM n k (some i))) x.1 x.2)]) rfl rfl rfl rfl hmain Try.func22 rfl rfl (by intro _ e; cases e; decide) (Opnds.cons rfl (Sub.refl _) Opnds.nil) rfl hA (Ent.addEmp) (fun x => Ent.refl _) ?_
      rintro ⟨O2, oc2⟩ _
      repeat (fail)
      refine J.region mixed hI (by kernel_rfl) ?_
      repeat (first | refine Plan.move rfl rfl rfl rfl ?_ | (refine Plan.ints rfl rfl rfl rfl rfl rfl ?_; (refine Plan.int (i64r (by omega)) ?_)))
      refine Plan.int (y := ((j + 1 : Nat) : Int)) (by omega) ?_
      repeat (fail)
      exact Nrm.next (j + 1, O2, oc2) hlt (by dsimp only; omega) (by
        unfold wkE
        dsimp only
        rw [hpj, ← hout]
        exact (by repeat (first | exact Weak.nil | refine Weak.cons rfl (Sub.refl _) ?_ | refine Weak.cons rfl (Sub.heap (Ent.one)) ?_)))
    · have hje : j = xs.length := by
        first | omega | (dsimp only at hc; omega)
      subst hje
      refine J.exit ?_
      rw [← hpe]
      exact Nrm.retC0 (key := 1000) (O1, oc1) rfl rfl rfl trivial (by exact Ent.refl _) (.inl rfl)
end Go.Proofs.Ytfglecmimoeinaa
end

section
set_option linter.unusedSimpArgs false
set_option linter.unusedVariables false
set_option maxRecDepth 20000
namespace Go.Proofs.Ytfglecmimoeinaa
open Go.Free Go.RowKit Go.Proofs Go.Free.Sorts
/-- A node that stands on the way from another one up. -/
inductive Anc (n : List EvV) (i : Nat) : Nat → Prop
  | here : Anc n i i
  | up {x y : Nat} : parM n (n.getD x ev0) = some y → Anc n i y → Anc n i x
theorem Anc.trans {n : List EvV} {i j x : Nat} (h1 : Anc n i j) (h2 : Anc n j x) : Anc n i x := by
  induction h2 with
  | here => exact h1
  | up h _ ih => exact .up h ih
theorem Anc.late {n : List EvV} {i x : Nat} (h : Anc n i x) : x = i ∨ ltE (n.getD i ev0) (n.getD x ev0) := by
  induction h with
  | here => exact .inl rfl
  | up h _ ih =>
    have h2 := (par_later h).2
    rcases ih with rfl | ih
    · exact .inr h2
    · exact .inr (ltE_trans ih h2)
theorem Anc.tot {n : List EvV} {i j x : Nat} (h1 : Anc n i x) (h2 : Anc n j x) : Anc n i j ∨ Anc n j i := by
  induction h1 with
  | here => exact .inr h2
  | up h h' ih =>
    cases h2 with
    | here => exact .inl (.up h h')
    | up h3 h4 =>
      rw [h] at h3
      cases h3
      exact ih h4
theorem kids_late {n : List EvV} {p : Option Nat} {i j : Nat} (hi : i ∈ kidsM n p) (hj : j ∈ kidsM n p) (h : Anc n i j) : i = j := by
  cases h with
  | here => rfl
  | up h1 h2 =>
    rename_i y
    have e1 := (kids_mem.1 hj).2
    have e2 := (kids_mem.1 hi).2
    rw [h1] at e1
    subst e1
    have h3 := (par_later e2).2
    rcases h2.late with e | h4
    · rw [e] at h3; exact absurd h3 (ltE_irr _)
    · exact absurd (ltE_trans h3 h4) (ltE_irr _)
theorem und_anc {n : List EvV} : ∀ (k : Nat) (p : Option Nat) {x : Nat}, x ∈ undM n k p → ∃ i, i ∈ kidsM n p ∧ Anc n i x
  | 0, _, _, h => by cases h
  | k + 1, p, x, h => by
    have h' : x ∈ (sortK n (kidsM n p)).flatMap fun i => i :: undM n k (some i) := h
    obtain ⟨i, hi, hx⟩ := List.mem_flatMap.1 h'
    rw [sortK_mem] at hi
    rcases List.mem_cons.1 hx with rfl | hx
    · exact ⟨_, hi, .here⟩
    · obtain ⟨j, hj, hjx⟩ := und_anc k (some i) hx
      exact ⟨i, hi, (Anc.up (kids_mem.1 hj).2 .here).trans hjx⟩
theorem und_sub_late {n : List EvV} {k i x : Nat} (h : x ∈ undM n k (some i)) : ltE (n.getD i ev0) (n.getD x ev0) := by
  obtain ⟨j, hj, hjx⟩ := und_anc k (some i) h
  have h1 := (par_later (kids_mem.1 hj).2).2
  rcases hjx.late with rfl | h2
  · exact h1
  · exact ltE_trans h1 h2
theorem und_lt {n : List EvV} : ∀ (k : Nat) (p : Option Nat) {x : Nat}, x ∈ undM n k p → x < n.length
  | 0, _, _, h => by cases h
  | k + 1, p, x, h => by
    have h' : x ∈ (sortK n (kidsM n p)).flatMap fun i => i :: undM n k (some i) := h
    obtain ⟨i, hi, hx⟩ := List.mem_flatMap.1 h'
    rw [sortK_mem] at hi
    rcases List.mem_cons.1 hx with rfl | hx
    · exact (kids_mem.1 hi).1
    · exact und_lt k _ hx
theorem kids_nodup' (n : List EvV) (p : Option Nat) : (sortK n (kidsM n p)).Nodup :=
  (List.mergeSort_perm _ _).symm.nodup (List.Pairwise.filter _ List.nodup_range)
theorem und_nodup {n : List EvV} : ∀ (k : Nat) (p : Option Nat), (undM n k p).Nodup
  | 0, _ => List.nodup_nil
  | k + 1, p => by
    show List.Pairwise _ (List.flatMap _ _)
    rw [List.pairwise_flatMap]
    refine ⟨fun i hi => ?_, ?_⟩
    · rw [List.pairwise_cons]
      refine ⟨fun x hx e => ?_, und_nodup k _⟩
      have h1 := und_sub_late hx
      rw [← e] at h1
      exact ltE_irr _ h1
    · have hnd := kids_nodup' n p
      have hm : (sortK n (kidsM n p)).Pairwise fun i j => i ∈ kidsM n p ∧ j ∈ kidsM n p := by
        rw [List.pairwise_iff_getElem]
        intro i j hi hj _
        exact ⟨(sortK_mem n _ _).1 (List.getElem_mem hi), (sortK_mem n _ _).1 (List.getElem_mem hj)⟩
      refine (hnd.and hm).imp fun {i j} ⟨hne, hi, hj⟩ => ?_
      have hin : ∀ {i x : Nat}, x ∈ i :: undM n k (some i) → Anc n i x := fun {i x} hx => by
        rcases List.mem_cons.1 hx with rfl | hx
        · exact .here
        · obtain ⟨j, hj, hjx⟩ := und_anc k _ hx
          exact (Anc.up (kids_mem.1 hj).2 .here).trans hjx
      intro x hx y hy e
      subst e
      rcases (hin hx).tot (hin hy) with h | h
      · exact hne (kids_late hi hj h)
      · exact hne (kids_late hj hi h).symm
theorem nodup_le : ∀ (m : Nat) (l : List Nat), l.Nodup → (∀ x ∈ l, x < m) → l.length ≤ m
  | 0, l, _, h => by
    cases l with
    | nil => exact Nat.le_refl _
    | cons x l => exact absurd (h x List.mem_cons_self) (Nat.not_lt_zero _)
  | m + 1, l, hn, h => by
    by_cases hm : m ∈ l
    · have h1 := nodup_le m (l.erase m) (hn.erase m) fun x hx => by
        rw [hn.mem_erase_iff] at hx
        have := h x hx.2
        have := hx.1
        omega
      rw [List.length_erase_of_mem hm] at h1
      omega
    · have h1 := nodup_le m l hn fun x hx => by
        have := h x hx
        have : x ≠ m := fun e => hm (e ▸ hx)
        omega
      omega
theorem und_len (n : List EvV) (k : Nat) (p : Option Nat) : (undM n k p).length ≤ n.length :=
  nodup_le _ _ (und_nodup k p) fun _ hx => und_lt k p hx
theorem und_root {n : List EvV} {x : Nat} (hx : x < n.length) : ∃ i, i ∈ kidsM n none ∧ Anc n i x := by
  obtain ⟨m, hm⟩ : ∃ m, n.length - mu n (some x) ≤ m := ⟨_, Nat.le_refl _⟩
  induction m generalizing x with
  | zero =>
    have h1 : mu n (some x) < n.length := by
      have := mu_kid (n := n) (p := parM n (n.getD x ev0)) (i := x) (kids_mem.2 ⟨hx, rfl⟩)
      have := mu_le n (parM n (n.getD x ev0))
      omega
    omega
  | succ m ih =>
    cases hp : parM n (n.getD x ev0) with
    | none => exact ⟨x, kids_mem.2 ⟨hx, hp⟩, .here⟩
    | some y =>
      have hk := mu_kid (kids_mem.2 ⟨hx, hp⟩)
      have hy := (par_later hp).1
      have hml := mu_le n (some y)
      obtain ⟨i, hi, h⟩ := ih hy (by omega)
      exact ⟨i, hi, .up hp h⟩
theorem und_in {n : List EvV} {i x : Nat} (h : Anc n i x) : ∀ (k : Nat) (p : Option Nat), mu n p < k → x < n.length → i ∈ kidsM n p → x ∈ undM n k p := by
  induction h with
  | here =>
    intro k p hk _ hi
    cases k with
    | zero => omega
    | succ k => exact List.mem_flatMap.2 ⟨i, (sortK_mem n _ _).2 hi, List.mem_cons_self⟩
  | up hp _ ih =>
    rename_i x y _
    intro k p hk hx hi
    have hy := ih k p hk (par_later hp).1 hi
    exact und_kid k p hk hx hp hy
where
  und_kid {x y : Nat} : ∀ (k : Nat) (p : Option Nat), mu n p < k → x < n.length → parM n (n.getD x ev0) = some y → y ∈ undM n k p → x ∈ undM n k p
  | 0, _, h, _, _, _ => by omega
  | k + 1, p, hk, hx, hp, hy => by
    have h' : y ∈ (sortK n (kidsM n p)).flatMap fun i => i :: undM n k (some i) := hy
    obtain ⟨i, hi, hyi⟩ := List.mem_flatMap.1 h'
    have hmi := mu_kid ((sortK_mem n _ _).1 hi)
    refine List.mem_flatMap.2 ⟨i, hi, List.mem_cons_of_mem _ ?_⟩
    rcases List.mem_cons.1 hyi with rfl | hyi
    · cases k with
      | zero => omega
      | succ k => exact List.mem_flatMap.2 ⟨x, (sortK_mem n _ _).2 (kids_mem.2 ⟨hx, hp⟩), List.mem_cons_self⟩
    · exact und_kid k (some i) (by omega) hx hp hyi
theorem und_mem (n : List EvV) (x : Nat) : x ∈ undM n (n.length + 1) none ↔ x < n.length := by
  refine ⟨und_lt _ _, fun hx => ?_⟩
  obtain ⟨i, hi, h⟩ := und_root hx
  exact und_in h _ _ (by have := mu_le n none; omega) hx hi
end Go.Proofs.Ytfglecmimoeinaa
end

section
set_option linter.unusedSimpArgs false
set_option linter.unusedVariables false
set_option maxRecDepth 20000
namespace Go.Free
open Go.RowKit
theorem vals4 {E : Env} {x y z s : Operand} {u v p q : Value} (h1 : opF E x = some (.ex u)) (h2 : opF E y = some (.ex v)) (h3 : opF E z = some (.ex p)) (h4 : opF E s = some (.ex q)) : ∀ (a : Act) (w : World), (∀ t, t ∈ [x, y, z, s] → ∀ g, opF E t = some g → g.den w (a.eval t)) → [x, y, z, s].map a.eval = [u, v, p, q] := fun a w h => by
  have e1 := h x (by simp) _ h1
  have e2 := h y (by simp) _ h2
  have e3 := h z (by simp) _ h3
  have e4 := h s (by simp) _ h4
  simp only [Fa.den] at e1 e2 e3 e4
  simp [e1, e2, e3, e4]
end Go.Free
namespace Go.Proofs.Ytfglecmimoeinaa
open Go.Free Go.RowKit Go.Proofs Go.Free.Sorts
set_option maxHeartbeats 8000000

theorem nodes_ok {key : List UInt8} {L : List EvV} (h : ∀ e ∈ L, e.okV) : ∀ e ∈ nodesM key L, e.okV := fun e he => h e (List.mem_filter.1 he).1
theorem order_fn (L : List EvV) (hl : L.length ≤ 1000000) (hok : ∀ e ∈ L, e.okV) (key : List UInt8) : Spc Try.prog 14 [row 26 (evsC L), .ex (str key)] fun B => own B 41 26 (evsC (orderM key L)) := by
  refine Spc.intro Try.func14 rfl (Nat.le_of_ble_eq_true rfl) fun w0 => ?_
  have hI := hIb w0
  have hA := Own.below w0
  obtain ⟨n, hn⟩ : ∃ n, n = nodesM key L := ⟨_, rfl⟩
  have hnl : n.length ≤ 1000000 := by rw [hn]; have := nodes_le key L; omega
  have hno : ∀ e ∈ n, e.okV := by rw [hn]; exact nodes_ok hok
  have hN : SpcR Try.prog 20 [row 26 (evsC L), .ex (str key)] emp fun B => own B 41 26 (evsC n) := fun w args F hd _ => by rw [hn]; exact nodes_fn L hl key w args hd
  refine J.heap0 1000 (newB w0) ?_
  refine J.seq (J.region mixed hI (by kernel_rfl) ?_)
  repeat (refine Plan.assign rfl rfl rfl rfl ?_)
  refine J.seq (J.region mixed hI (by kernel_rfl) ?_)
  repeat (refine Plan.move rfl rfl rfl rfl ?_)
  refine Plan.callRO (key := 1000) rfl rfl rfl hN (fun _ => rfl) Try.func20 rfl rfl (by intro _ e; cases e; decide) (by repeat (first | exact Opnds.nil | refine Opnds.cons rfl (by first | exact Sub.refl _ | exact Sub.old (fun _ h => h)) ?_)) rfl hA (Ent.refl _) fun B m cap hm => ?_
  obtain rfl : m = n.length := by rw [evs_len] at hm; omega
  refine Plan.allocC (key := 1000) (z := nilS) rfl rfl rfl (by intro _ e; cases e; decide) (by kernel_rfl) rfl hA fun β => ?_
  refine Plan.storeC (key := 1000) (q := 1) (off := 0) rfl rfl rfl rfl rfl rfl (by simp [Value.cells, Value.oneCell']) (by rfl) rfl hA rfl (obj_pat (Nat.le_of_ble_eq_true rfl)) ?_
  repeat (fail)
  refine J.seq (J.region mixed hI (by kernel_rfl) ?_)
  repeat (refine Plan.loadC (key := 1000) (q := 1) rfl rfl rfl rfl rfl rfl (obj_reads1 rfl) (by first | exact Try.underlying3 | exact Try.underlying22) (by rfl) (by decide) ?_)
  refine Plan.callC (key := 1000) (q := 0) rfl rfl rfl (kids_fn B cap n hnl hno) Try.func21 rfl rfl (by intro _ e; cases e; decide) (by repeat (first | exact Opnds.nil | refine Opnds.cons rfl (by exact Sub.refl _) ?_)) rfl hA rfl ?_
  rintro ⟨μ, es⟩ hk
  refine Plan.allocC (key := 1000) (z := .map none) rfl rfl rfl (by intro _ e; cases e; decide) (by kernel_rfl) rfl hA fun μc => ?_
  refine Plan.storeC (key := 1000) (q := 2) (off := 0) rfl rfl rfl rfl rfl rfl (by simp [Value.cells, Value.oneCell']) (by rfl) rfl hA rfl (obj_pat (Nat.le_of_ble_eq_true rfl)) ?_
  repeat (fail)
  refine J.seq (J.region mixed hI (by kernel_rfl) ?_)
  refine Plan.allocC (key := 1000) (z := nilS) rfl rfl rfl (by intro _ e; cases e; decide) (by kernel_rfl) rfl hA fun γ => ?_
  repeat (fail)
  refine J.seq (J.region mixed hI (by kernel_rfl) ?_)
  refine Plan.allocC (key := 1000) (z := .nilFunc) rfl rfl rfl (by intro _ e; cases e; decide) (by kernel_rfl) rfl hA fun δ => ?_
  repeat (fail)
  refine J.seq (J.region mixed hI (by kernel_rfl) ?_)
  refine Plan.makeFn (cs := [.tmp 6, .tmp 7, .tmp 5, .tmp 8]) (caps := [ptr μc, ptr γ, ptr β, ptr δ]) rfl rfl rfl (vals4 rfl rfl rfl rfl) ?_
  refine Plan.storeC (key := 1000) (q := 4) (off := 0) rfl rfl rfl rfl rfl rfl (by simp [Value.cells, Value.oneCell']) (by rfl) rfl hA rfl (obj_pat (Nat.le_of_ble_eq_true rfl)) ?_
  repeat (fail)
  have hw := walk_fn μc γ β δ μ B cap n hnl es hk (n.length + 1) none [] none 0 (by have := mu_le n none; omega) (by have := und_len n (n.length + 1) none; simp only [List.length_nil]; omega)
  refine J.nilRow (key := 1000) 41 26 rfl ?_
  refine J.seq (J.region mixed hI (by kernel_rfl) ?_)
  refine Plan.loadC (key := 1000) (q := 4) rfl rfl rfl rfl rfl rfl (obj_reads1 rfl) Try.underlying48 rfl (by decide) ?_
  repeat (fail)
  refine Plan.callFG (key := 1000) (allC []) (caps := [ptr μc, ptr γ, ptr β, ptr δ]) (fs := [.ex (vi (pkey none))]) (fun x => [allC (wH μc γ β δ μ B cap n es ([] ++ evsOf n (undM n (n.length + 1) none)) x.1 x.2)]) rfl rfl rfl rfl hw Try.func22 rfl rfl (by intro _ e; cases e; decide) (Opnds.cons rfl (Sub.refl _) Opnds.nil) rfl hA ?_ (fun x => Ent.refl _) ?_
  · exact ((Ent.joinC (H1 := [rowEv B n.length cap (evsC n), mapC μ (kvsM es), allC (es.map KE.row)])).trans (Ent.pickC [4, 5, 3, 6, 1, 0, 7, 2] rfl rfl)).trans Ent.addEmp
  rintro ⟨O2, oc2⟩ _
  repeat (fail)
  refine J.open1 (key := 1000) rfl ?_
  have he : [] ++ evsOf n (undM n (n.length + 1) none) = orderM key L := by rw [List.nil_append, hn]; rfl
  rw [he]
  refine J.seq (J.region mixed hI (by kernel_rfl) ?_)
  refine Plan.loadC (key := 1000) (q := 1) rfl rfl rfl rfl rfl rfl (obj_reads1 rfl) Try.underlying22 rfl (by decide) ?_
  repeat (refine Plan.assign rfl rfl rfl rfl ?_)
  exact J.ret (Nrm.retRow (key := 1000) (q := 6) rfl rfl rfl rfl)
end Go.Proofs.Ytfglecmimoeinaa
end

section
set_option linter.unusedSimpArgs false
set_option linter.unusedVariables false
set_option maxRecDepth 20000
namespace Go.Free
open Go.RowKit
/-- A contract told in other chunks. -/
theorem SpcC.ent2 {P : Program} {f : FuncId} {As : List Fa} {c d : Chunk} {X : Type} {ok : X → Prop} {R : X → Fa} {c' d' : X → Chunk} (h : SpcC P f As c ok R c') (he : Ent d c) (he' : ∀ x, Ent (c' x) (d' x)) : SpcC P f As d ok R d' := fun w args F hd hc => by
  obtain ⟨G, h1, h2⟩ := he w F hc
  refine (h w args G hd h1).mono ?_
  rintro e w' ⟨v, x, e1, e2, hK, hR, F', hF', hFb⟩
  obtain ⟨G', g1, g2⟩ := he' x w' F' hF'
  exact ⟨v, x, e1, e2, hK.mono fun b _ hb => h2 b hb, hR, G', g1, fun b hb => by
    rcases hFb b (g2 b hb) with h3 | h3
    · exact .inl (h2 b h3)
    · exact .inr h3⟩
/-- What the chunk that a reader was handed tells. -/
theorem J.tellOld {P : Program} {n : Nat} {I : World → Prop} {c : Code} {Q : Exit → Act → World → Prop} {E : Env} {w0 : World} {A : Nat → Prop} {H : List Chunk} {q : Nat} {ch : Chunk} {p : Prop} (hk : look E 999 = some (.old w0 (heap A H))) (hq : H[q]? = some ch) (hp : ∀ F, ch.holds w0 F → p) (h : p → J P n I c Q E) : J P n I c Q E := fun a w h1 h2 h3 => by
  have h4 := h3 999 _ hk
  simp only [Fa.den] at h4
  obtain ⟨φ, hL, hA⟩ := h4
  exact h (hp _ (hL.holds q _ hq)) a w h1 h2 h3
theorem below_frz {w0 w : World} (h : Below w0.heap.size w0 w) : ∀ b, b < w0.heap.size → b < w.heap.size ∧ w.heap[b]? = w0.heap[b]? := fun b hb => ⟨Nat.lt_of_lt_of_le hb h.size, h.block b hb⟩
end Go.Free
namespace Go.Proofs.Ytfglecmimoeinaa
open Go.Free Go.RowKit Go.Proofs Go.Free.Sorts
set_option maxHeartbeats 8000000

theorem item11_fn (ζ : Nat) (a b : EvV) (ha : a.okV) (h9 : a.kind = 9) (hb : b.okV) :
    SpcR Try.prog 28 [.ex (aggE b), .ex (ptr ζ)] (obj ζ a.enc) fun _ => .ex (.bool (decide (endsP b a))) := by
  refine SpcR.introOld Try.func28 rfl (Nat.le_of_ble_eq_true rfl) fun w0 => ?_
  have hI := hIb w0
  have hA := Own.below w0
  refine J.heap0 1001 (newB w0) ?_
  refine J.seq (J.region mixed hI (by kernel_rfl) ?_)
  refine Plan.boxC (key := 1001) rfl rfl rfl (by intro _ e; cases e; decide) rfl rfl hA fun α => ?_
  repeat (refine Plan.assign rfl rfl rfl rfl ?_)
  refine J.heapAgain 1000 (fun _ h => h) rfl ?_
  refine J.seq (J.region mixed hI (by kernel_rfl) ?_)
  repeat (fail)
  refine Plan.loadAggC (key := 1001) (q := 0) (vs := b.enc) rfl rfl rfl rfl rfl rfl obj_whole Try.underlying41 rfl (by rw [encE]; kernel_rfl) (by decide) ?_
  repeat (fail)
  refine Plan.loadAggC (key := 1000) (q := 0) (vs := a.enc) rfl rfl rfl rfl rfl rfl obj_whole Try.underlying41 rfl (by rw [encE]; kernel_rfl) (by decide) ?_
  refine Plan.call (B := w0.heap.size) rfl rfl rfl (ends_fn b a hb ha h9) Try.func29 rfl rfl (hBb w0) (by repeat (first | exact Opnds.nil | refine Opnds.cons rfl (by exact Sub.refl _) ?_)) ?_
  repeat (refine Plan.assign rfl rfl rfl rfl ?_)
  exact J.ret (Nrm.ret1 rfl (fun _ h => h) rfl fun B _ => Sub.refl _)
/-- Does anything end it? -/
def endedB (L : List EvV) (a : EvV) : Bool := L.any fun b => decide (endsP b a)
theorem item1_fn (ξ : Nat) (L : List EvV) (hl : L.length ≤ 1000000) (hok : ∀ x ∈ L, x.okV) (v : Value) (c : Chunk) (hread : c.reads ξ 0 [v]) (hrow : ∀ w F, c.holds w F → rowH 26 (evsC L) w v) (a : EvV) (ha : a.okV) (h9 : a.kind = 9) :
    SpcR Try.prog 26 [.ex (aggE a), .ex (ptr ξ)] c fun _ => .ex (.bool (endedB L a)) := by
  refine SpcR.introOld Try.func26 rfl (Nat.le_of_ble_eq_true rfl) fun w0 => ?_
  have hI := hIb w0
  have hA := Own.below w0
  refine J.tellOld (q := 0) rfl rfl (fun F => hrow w0 F) fun hr => ?_
  refine J.heap0 1001 (newB w0) ?_
  refine J.seq (J.region mixed hI (by kernel_rfl) ?_)
  refine Plan.boxC (key := 1001) rfl rfl rfl (by intro _ e; cases e; decide) rfl rfl hA fun ζ => ?_
  repeat (refine Plan.assign rfl rfl rfl rfl ?_)
  refine J.heapAgain 1000 (fun _ h => h) rfl ?_
  refine J.seq (J.region mixed hI (by kernel_rfl) ?_)
  refine Plan.loadC (key := 1000) (q := 0) (v := v) rfl rfl rfl rfl rfl rfl hread Try.underlying22 rfl (by decide) ?_
  repeat (fail)
  refine Plan.makeFn (cs := [.tmp 2]) (caps := [ptr ζ]) rfl rfl rfl (vals1 rfl) ?_
  refine Plan.callRG (key := 1001) (B := 0) rfl rfl rfl (containsG_fn L hl 28 _ [ptr ζ] (fun b => decide (endsP b a)) (obj ζ a.enc) Try.func28 rfl rfl fun b hb => item11_fn ζ a b ha h9 (hok b hb)) Try.func27 rfl rfl (fun _ _ => Nat.zero_le _) (Opnds.cons rfl (Sub.known (fun _ h => h) hr) (Opnds.cons rfl (Sub.refl _) Opnds.nil)) rfl Ent.one (by decide) ?_
  repeat (refine Plan.assign rfl rfl rfl rfl ?_)
  exact J.ret (Nrm.ret1 rfl (fun _ h => h) rfl fun B _ => Sub.refl _)
def itemsM (key : List UInt8) (L : List EvV) : List EvV := keepE (endedB L) (orderM key L)
theorem order_node {key : List UInt8} {L : List EvV} : ∀ a ∈ orderM key L, a ∈ L ∧ a.kind = 9 ∧ a.key = key := fun a ha => by
  unfold orderM at ha
  obtain ⟨i, hi, rfl⟩ := List.mem_map.1 ha
  have hl := und_lt _ _ hi
  rw [getD_at hl]
  have hm := List.mem_filter.1 (List.getElem_mem hl)
  have h2 := of_decide_eq_true hm.2
  exact ⟨hm.1, h2⟩
theorem order_len (key : List UInt8) (L : List EvV) : (orderM key L).length ≤ L.length := by
  unfold orderM
  rw [List.length_map]
  have h1 := und_len (nodesM key L) ((nodesM key L).length + 1) none
  have h2 := nodes_le key L
  omega
theorem items_fn (L : List EvV) (hl : L.length ≤ 1000000) (hok : ∀ e ∈ L, e.okV) (key : List UInt8) : Spc Try.prog 16 [row 26 (evsC L), .ex (str key)] fun B => own B 41 26 (evsC (itemsM key L)) := by
  refine Spc.intro Try.func16 rfl (Nat.le_of_ble_eq_true rfl) fun w0 => ?_
  have hI := hIb w0
  have hA := Own.below w0
  have hN : SpcR Try.prog 14 [row 26 (evsC L), .ex (str key)] emp fun B => own B 41 26 (evsC (orderM key L)) := fun w args F hd _ => order_fn L hl hok key w args hd
  refine J.nameOld (t := 0) rfl fun v hv => ?_
  have hv' := hv
  obtain ⟨Av, mv, cv, rfl, _⟩ := hv'
  refine J.heap0 1000 (newB w0) ?_
  refine J.seq (J.region mixed hI (by kernel_rfl) ?_)
  refine Plan.boxC (key := 1000) rfl rfl rfl (by intro _ e; cases e; decide) rfl rfl hA fun ξ => ?_
  repeat (refine Plan.assign rfl rfl rfl rfl ?_)
  refine J.seq (J.region mixed hI (by kernel_rfl) ?_)
  repeat (first | refine Plan.move rfl rfl rfl rfl ?_ | refine Plan.loadC (key := 1000) (q := 0) rfl rfl rfl rfl rfl rfl (obj_reads1 rfl) (by first | exact Try.underlying3 | exact Try.underlying22) (by rfl) (by decide) ?_)
  refine Plan.callRO (key := 1000) rfl rfl rfl hN (fun _ => rfl) Try.func14 rfl rfl (by intro _ e; cases e; decide) (Opnds.cons rfl (Sub.known (fun _ h => h) hv) (Opnds.cons rfl (Sub.refl _) Opnds.nil)) rfl hA Ent.emp fun B m cap hm => ?_
  obtain rfl : m = (orderM key L).length := by rw [evs_len] at hm; omega
  repeat (fail)
  refine Plan.makeFn (cs := [.tmp 2]) (caps := [ptr ξ]) rfl rfl rfl (vals1 rfl) ?_
  have hitem : ∀ a ∈ orderM key L, SpcR Try.prog 26 [.ex (aggE a), .ex (ptr ξ)] (allC [obj ξ [.slice Av mv cv], frozenC w0 fun b => b < w0.heap.size]) fun _ => .ex (.bool (endedB L a)) := fun a ha =>
    item1_fn ξ L hl hok (.slice Av mv cv) (allC [obj ξ [.slice Av mv cv], frozenC w0 fun b => b < w0.heap.size]) (fun w F ⟨G1, _, _, _, h1, _⟩ => obj_reads1 rfl w G1 h1) (fun w F ⟨_, _, _, _, _, _, G2, _, _, h2, _⟩ => frozen_row hv (fun b hb => hb) w fun b hb => (h2.2 b hb).2) a (hok a (order_node a ha).1) (order_node a ha).2.1
  have hdel := (delG_fn B cap (orderM key L) (by have := order_len key L; omega) 26 _ [ptr ξ] (endedB L) _ Try.func26 rfl rfl hitem).ent2 (d := allC ([rowEv B (orderM key L).length cap (evsC (orderM key L)), obj ξ [.slice Av mv cv]] ++ [frozenC w0 fun b => b < w0.heap.size])) (d' := fun _ => allC ([rowEv B (itemsM key L).length cap (evsC (itemsM key L)), obj ξ [.slice Av mv cv]] ++ [frozenC w0 fun b => b < w0.heap.size])) (Ent.sep (Ent.refl _) Ent.addEmp) (fun _ => Ent.sep (Ent.refl _) Ent.one)
  refine Plan.callFz (key := 1000) [1, 0] [] rfl rfl rfl hdel Try.func25 rfl rfl (by intro _ e; cases e; decide) (by repeat (first | exact Opnds.nil | refine Opnds.cons rfl (by exact Sub.refl _) ?_)) rfl hA rfl rfl rfl (fun w h b hb => below_frz h b hb) (fun b hb hb2 => by simp only [newB] at hb; omega) ?_
  intro _ _
  repeat (refine Plan.assign rfl rfl rfl rfl ?_)
  exact J.ret (Nrm.retRow (key := 1000) (q := 0) rfl rfl rfl rfl)
end Go.Proofs.Ytfglecmimoeinaa
end

section
set_option linter.unusedSimpArgs false
set_option linter.unusedVariables false
set_option maxRecDepth 20000
namespace Go.Proofs.Ytfglecmimoeinaa
open Go.Free Go.RowKit Go.Proofs Go.Free.Sorts
def dotOf (e : EvV) : Int × Int := (e.r, e.n)
def unlikeM (n : List EvV) : Prop := n.Pairwise fun a b => dotOf a ≠ dotOf b
def pdot (n : List EvV) (e : EvV) : Option (Int × Int) := if e.rr = 0 ∧ e.rn = 0 then none else if n.any (hangs e) = true then some (e.rr, e.rn) else none
def byLate (n : List EvV) : List EvV := n.mergeSort fun a b => decide (¬ ltE a b)
def kidsD (n : List EvV) (p : Option (Int × Int)) : List EvV := byLate (n.filter fun e => decide (pdot n e = p))
def undD (n : List EvV) : Nat → Option (Int × Int) → List EvV
  | 0, _ => []
  | k + 1, p => (kidsD n p).flatMap fun e => e :: undD n k (some (dotOf e))
theorem ltE_tot {a b : EvV} (h : dotOf a ≠ dotOf b) : ltE a b ∨ ltE b a := by
  unfold dotOf at h
  unfold ltE
  by_cases h1 : a.r = b.r
  · have : a.n ≠ b.n := fun h2 => h (by rw [h1, h2])
    omega
  · omega
theorem late_one : ∀ {l m : List EvV}, l.Pairwise (fun a b => ltE b a) → m.Pairwise (fun a b => ltE b a) → (∀ v, v ∈ l ↔ v ∈ m) → l = m
  | [], [], _, _, _ => rfl
  | [], y :: m, _, _, h => absurd ((h y).2 List.mem_cons_self) (by simp)
  | x :: l, [], _, _, h => absurd ((h x).1 List.mem_cons_self) (by simp)
  | x :: l, y :: m, hl, hm, h => by
    obtain ⟨h1, h2⟩ := List.pairwise_cons.1 hl
    obtain ⟨h3, h4⟩ := List.pairwise_cons.1 hm
    have hxy : x = y := by
      rcases List.mem_cons.1 ((h x).1 List.mem_cons_self) with e | hx
      · exact e
      · rcases List.mem_cons.1 ((h y).2 List.mem_cons_self) with e | hy
        · exact e.symm
        · exact absurd (ltE_trans (h1 y hy) (h3 x hx)) (ltE_irr y)
    subst hxy
    have hx1 : x ∉ l := fun hx => ltE_irr x (h1 x hx)
    have hx2 : x ∉ m := fun hx => ltE_irr x (h3 x hx)
    congr 1
    refine late_one h2 h4 fun v => ?_
    have hv := h v
    rw [List.mem_cons, List.mem_cons] at hv
    constructor
    · intro hvl
      rcases hv.1 (.inr hvl) with e | hvm
      · exact absurd (e ▸ hvl) hx1
      · exact hvm
    · intro hvm
      rcases hv.2 (.inr hvm) with e | hvl
      · exact absurd (e ▸ hvm) hx2
      · exact hvl
theorem byLate_mem {n : List EvV} {v : EvV} : v ∈ byLate n ↔ v ∈ n := (List.mergeSort_perm n _).mem_iff
theorem unlike_ltE {n : List EvV} (h : unlikeM n) {a b : EvV} (ha : a ∈ n) (hb : b ∈ n) (hd : dotOf a = dotOf b) : a = b := by
  induction n with
  | nil => cases ha
  | cons x n ih =>
    obtain ⟨h1, h2⟩ := List.pairwise_cons.1 h
    rcases List.mem_cons.1 ha with ea | ha'
    · rcases List.mem_cons.1 hb with eb | hb'
      · rw [ea, eb]
      · exact absurd (ea ▸ hd) (h1 b hb')
    · rcases List.mem_cons.1 hb with eb | hb'
      · exact absurd (eb ▸ hd.symm) (h1 a ha')
      · exact ih h2 ha' hb'
theorem byLate_sorted {n : List EvV} (h : unlikeM n) : (byLate n).Pairwise fun a b => ltE b a := by
  have h1 : (byLate n).Pairwise fun a b => decide (¬ ltE a b) = true := List.pairwise_mergeSort (le := fun a b => decide (¬ ltE a b))
    (fun a b c h1 h2 => by
      simp only [decide_eq_true_eq] at h1 h2 ⊢
      unfold ltE at *; omega)
    (fun a b => by
      simp only [Bool.or_eq_true, decide_eq_true_eq]
      unfold ltE; omega) n
  have h2 : (byLate n).Pairwise fun a b => dotOf a ≠ dotOf b := (List.mergeSort_perm n _).symm.pairwise h fun {a b} h => Ne.symm h
  refine (h1.and h2).imp fun {a b} ⟨p, q⟩ => ?_
  simp only [decide_eq_true_eq] at p
  exact (ltE_tot q).resolve_left p
theorem unlike_filter {n : List EvV} (h : unlikeM n) (p : EvV → Bool) : unlikeM (n.filter p) := List.Pairwise.filter p h
theorem pdot_mem {n m : List EvV} (h : ∀ v, v ∈ n ↔ v ∈ m) (e : EvV) : pdot n e = pdot m e := by
  unfold pdot
  have : (n.any (hangs e) = true) ↔ (m.any (hangs e) = true) := by
    rw [List.any_eq_true, List.any_eq_true]
    exact ⟨fun ⟨x, h1, h2⟩ => ⟨x, (h x).1 h1, h2⟩, fun ⟨x, h1, h2⟩ => ⟨x, (h x).2 h1, h2⟩⟩
  simp only [this]
/-- Of lists that have the same events, each with a dot of its own, the order is one. -/
theorem undD_mem {n m : List EvV} (hn : unlikeM n) (hm : unlikeM m) (h : ∀ v, v ∈ n ↔ v ∈ m) : ∀ (k : Nat) (p : Option (Int × Int)), undD n k p = undD m k p
  | 0, _ => rfl
  | k + 1, p => by
    have hk : kidsD n p = kidsD m p := late_one (byLate_sorted (unlike_filter hn _)) (byLate_sorted (unlike_filter hm _)) fun v => by
      rw [show kidsD n p = byLate _ from rfl, show kidsD m p = byLate _ from rfl, byLate_mem, byLate_mem, List.mem_filter, List.mem_filter, h v, pdot_mem h v]
    show List.flatMap _ _ = List.flatMap _ _
    rw [hk]
    congr 1
    funext e
    rw [undD_mem hn hm h k]
theorem par_dot {n : List EvV} (hn : unlikeM n) {e : EvV} {i : Nat} (hi : i < n.length) : parM n e = some i ↔ pdot n e = some (dotOf (n.getD i ev0)) := by
  have hgi : n.getD i ev0 = n[i] := by rw [List.getD_eq_getElem?_getD, List.getElem?_eq_getElem hi]; rfl
  rw [hgi]
  unfold parM pdot
  split
  · simp
  · constructor
    · intro h
      rw [List.findIdx?_eq_some_iff_getElem] at h
      obtain ⟨hk, h1, _⟩ := h
      rw [if_pos (List.any_eq_true.2 ⟨n[i], List.getElem_mem hi, h1⟩)]
      unfold hangs at h1
      rw [Bool.and_eq_true, decide_eq_true_eq] at h1
      rw [show dotOf n[i] = (e.rr, e.rn) by unfold dotOf; rw [h1.1.1, h1.1.2]]
    · intro h
      split at h
      · rename_i hany
        simp only [Option.some.injEq] at h
        obtain ⟨x, hx, hxh⟩ := List.any_eq_true.1 hany
        have hxd : dotOf x = dotOf n[i] := by
          rw [← h]
          unfold hangs at hxh
          rw [Bool.and_eq_true, decide_eq_true_eq] at hxh
          unfold dotOf; rw [hxh.1.1, hxh.1.2]
        have hxi := unlike_ltE hn hx (List.getElem_mem hi) hxd
        rw [hxi] at hxh
        rw [List.findIdx?_eq_some_iff_getElem]
        refine ⟨hi, hxh, fun j hj => ?_⟩
        intro hjh
        have hjd : dotOf n[j] = dotOf n[i] := by
          rw [← h]
          unfold hangs at hjh
          rw [Bool.and_eq_true, decide_eq_true_eq] at hjh
          unfold dotOf; rw [hjh.1.1, hjh.1.2]
        exact (List.pairwise_iff_getElem.1 hn j i (by omega) hi hj) hjd
      · cases h
theorem par_none {n : List EvV} {e : EvV} : parM n e = none ↔ pdot n e = none := by
  unfold parM pdot
  split
  · simp
  · rw [List.findIdx?_eq_none_iff]
    split
    · rename_i h
      obtain ⟨x, hx, hxh⟩ := List.any_eq_true.1 h
      simp only [reduceCtorEq, iff_false]
      intro h2
      rw [h2 x hx] at hxh; cases hxh
    · rename_i h
      simp only [iff_true]
      intro x hx
      cases hh : hangs e x with
      | false => rfl
      | true => exact absurd (List.any_eq_true.2 ⟨x, hx, hh⟩) h
theorem kids_nodup (n : List EvV) (p : Option Nat) : (kidsM n p).Nodup := List.Pairwise.filter _ List.nodup_range
theorem kids_events {n : List EvV} (hn : unlikeM n) {p : Option Nat} (hp : ∀ i, p = some i → i < n.length) :
    (sortK n (kidsM n p)).map (fun i => n.getD i ev0) = kidsD n (p.map fun i => dotOf (n.getD i ev0)) := by
  have hs := sortK_sorted n (kidsM n p) (kids_nodup n p)
  refine late_one ?_ (byLate_sorted (unlike_filter hn _)) fun v => ?_
  · rw [List.pairwise_map]
    have hmem : (sortK n (kidsM n p)).Pairwise fun i j => i ∈ sortK n (kidsM n p) ∧ j ∈ sortK n (kidsM n p) := by
      rw [List.pairwise_iff_getElem]
      intro i j hi hj _
      exact ⟨List.getElem_mem hi, List.getElem_mem hj⟩
    refine (hs.and hmem).imp fun {i j} ⟨h1, h2, h3⟩ => ?_
    have hi := (kids_mem.1 ((sortK_mem n _ i).1 h2)).1
    have hj := (kids_mem.1 ((sortK_mem n _ j).1 h3)).1
    have hne : i ≠ j := fun e => (ahead_ord n).irr _ (by rw [e] at h1; exact h1)
    have gi : n.getD i ev0 = n[i] := by rw [List.getD_eq_getElem?_getD, List.getElem?_eq_getElem hi]; rfl
    have gj : n.getD j ev0 = n[j] := by rw [List.getD_eq_getElem?_getD, List.getElem?_eq_getElem hj]; rfl
    have hd : dotOf n[i] ≠ dotOf n[j] := by
      rcases Nat.lt_or_ge i j with h | h
      · exact List.pairwise_iff_getElem.1 hn i j hi hj h
      · exact Ne.symm (List.pairwise_iff_getElem.1 hn j i hj hi (by omega))
    unfold ahead at h1
    rw [gi, gj] at h1 ⊢
    rcases h1 with h1 | h1
    · exact h1
    · exact (ltE_tot hd).resolve_left h1.1
  · rw [show kidsD n (p.map fun i => dotOf (n.getD i ev0)) = byLate _ from rfl, byLate_mem, List.mem_filter, List.mem_map, decide_eq_true_eq]
    constructor
    · rintro ⟨i, hi, rfl⟩
      obtain ⟨h1, h2⟩ := kids_mem.1 ((sortK_mem n _ i).1 hi)
      refine ⟨by rw [List.getD_eq_getElem?_getD, List.getElem?_eq_getElem h1]; exact List.getElem_mem h1, ?_⟩
      cases p with
      | none => exact par_none.1 h2
      | some k => exact (par_dot hn (hp k rfl)).1 h2
    · rintro ⟨h1, h2⟩
      obtain ⟨i, hi, rfl⟩ := List.getElem_of_mem h1
      have gi : n.getD i ev0 = n[i] := by rw [List.getD_eq_getElem?_getD, List.getElem?_eq_getElem hi]; rfl
      refine ⟨i, (sortK_mem n _ i).2 (kids_mem.2 ⟨hi, ?_⟩), gi⟩
      rw [gi]
      cases p with
      | none => exact par_none.2 h2
      | some k => exact (par_dot hn (hp k rfl)).2 h2
theorem und_events {n : List EvV} (hn : unlikeM n) : ∀ (k : Nat) (p : Option Nat), (∀ i, p = some i → i < n.length) → (undM n k p).map (fun i => n.getD i ev0) = undD n k (p.map fun i => dotOf (n.getD i ev0))
  | 0, _, _ => rfl
  | k + 1, p, hp => by
    show List.map _ (List.flatMap _ _) = List.flatMap _ _
    rw [← kids_events hn hp, List.map_flatMap, List.flatMap_map]
    unfold List.flatMap
    congr 1
    refine List.map_congr_left fun i hi => ?_
    rw [List.map_cons, und_events hn k (some i) fun j hj => by
      cases hj; exact (kids_mem.1 ((sortK_mem n _ i).1 hi)).1]
    rfl
end Go.Proofs.Ytfglecmimoeinaa
end
