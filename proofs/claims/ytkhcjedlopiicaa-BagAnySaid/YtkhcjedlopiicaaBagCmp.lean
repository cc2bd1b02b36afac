/-
  Bags: dots and items compared; what comes in; the law's awake.
-/
import Derived.Test.YtkhcjedlopiicaaBagDrop3I
import Derived.Test.YtkhcjedlopiicaaBagPlain2
import Derived.Test.YtkhcjedlopiicaaFlatEq
set_option linter.unusedSimpArgs false
set_option linter.unusedVariables false
set_option maxRecDepth 20000
namespace Go.Proofs.Ytkhcjedlopiicaa
open Go.Free Go.RowKit Go.Proofs
set_option maxHeartbeats 4000000

def okD (d : Dt) : Prop := in64 d.1 ∧ in64 d.2
def okI (x : Dt × Int) : Prop := okD x.1 ∧ in64 x.2
theorem formedDt (zs : Array Value) (h : zs.size = 2) : (Value.agg zs).formed Try.prog 28 = true := by
  have hc : Try.prog.cellsOf 28 = 2 := by kernel_rfl
  unfold Value.formed
  rw [Try.underlying28]
  simp only [hc, h]
  rfl
theorem formedIt (zs : Array Value) (h : zs.size = 3) : (Value.agg zs).formed Try.prog 33 = true := by
  have hc : Try.prog.cellsOf 33 = 3 := by kernel_rfl
  unfold Value.formed
  rw [Try.underlying33]
  simp only [hc, h]
  rfl
section
variable {ops : Array Oper} {Q : Exit → Act → World → Prop} {n : Nat} {I : World → Prop} {k i : Nat} {E : Env} {o : Oper} {d : Bool} {x y : Operand} {yt : TypeId}
theorem dt_eq (a b : Dt) : decide (a = b) = true ↔ [vi a.1, vi a.2] = [vi b.1, vi b.2] := by
  obtain ⟨a1, a2⟩ := a
  obtain ⟨b1, b2⟩ := b
  simp
theorem Plan.eqlDt (a b : Dt) (ho : ops[i]? = some o) (hop : o.op = .binOp .eql 28 x y yt) (hg : wantB ops E o = some true)
    (hx : opF E x = some (.ex (aggD a.1 a.2))) (hy : opF E y = some (.ex (aggD b.1 b.2))) (ha : okD a) (hb : okD b)
    (h : Plan Try.prog ops Q n I d k (i + 1) (setE o.dst (.ex (.bool (decide (a = b)))) E)) : Plan Try.prog ops Q n I d (k + 1) i E :=
  Plan.eqAgg (m := 9) (l := [.int .i64, .int .i64]) (xs := [vi a.1, vi a.2]) (ys := [vi b.1, vi b.2]) (r := decide (a = b)) ho hop hg hx hy (by decide) (by kernel_rfl) (by kernel_rfl) (by kernel_rfl)
    ⟨_, _, rfl, intF ha.1, _, _, rfl, intF ha.2, rfl⟩ ⟨_, _, rfl, intF hb.1, _, _, rfl, intF hb.2, rfl⟩ formedDt (dt_eq a b) (.inl ⟨rfl, rfl⟩) h
theorem Plan.neqDt (a b : Dt) (ho : ops[i]? = some o) (hop : o.op = .binOp .neq 28 x y yt) (hg : wantB ops E o = some true)
    (hx : opF E x = some (.ex (aggD a.1 a.2))) (hy : opF E y = some (.ex (aggD b.1 b.2))) (ha : okD a) (hb : okD b)
    (h : Plan Try.prog ops Q n I d k (i + 1) (setE o.dst (.ex (.bool (!decide (a = b)))) E)) : Plan Try.prog ops Q n I d (k + 1) i E :=
  Plan.eqAgg (m := 9) (l := [.int .i64, .int .i64]) (xs := [vi a.1, vi a.2]) (ys := [vi b.1, vi b.2]) (r := decide (a = b)) ho hop hg hx hy (by decide) (by kernel_rfl) (by kernel_rfl) (by kernel_rfl)
    ⟨_, _, rfl, intF ha.1, _, _, rfl, intF ha.2, rfl⟩ ⟨_, _, rfl, intF hb.1, _, _, rfl, intF hb.2, rfl⟩ formedDt (dt_eq a b) (.inr ⟨rfl, rfl⟩) h
theorem it_eq (a b : Dt × Int) : decide (a = b) = true ↔ itI a = itI b := by
  obtain ⟨⟨a1, a2⟩, a3⟩ := a
  obtain ⟨⟨b1, b2⟩, b3⟩ := b
  simp [itC, encTI, and_assoc]
theorem Plan.neqIt (a b : Dt × Int) (ho : ops[i]? = some o) (hop : o.op = .binOp .neq 33 x y yt) (hg : wantB ops E o = some true)
    (hx : opF E x = some (.ex (.agg (itI a).toArray))) (hy : opF E y = some (.ex (.agg (itI b).toArray))) (ha : okI a) (hb : okI b)
    (h : Plan Try.prog ops Q n I d k (i + 1) (setE o.dst (.ex (.bool (!decide (a = b)))) E)) : Plan Try.prog ops Q n I d (k + 1) i E :=
  Plan.eqAgg (m := 9) (l := [.int .i64, .int .i64, .int .i64]) (xs := itI a) (ys := itI b) (r := decide (a = b)) ho hop hg hx hy (by decide) (by kernel_rfl) (by kernel_rfl) (by kernel_rfl)
    ⟨_, _, rfl, intF ha.1.1, _, _, rfl, intF ha.1.2, _, _, rfl, intF ha.2, rfl⟩ ⟨_, _, rfl, intF hb.1.1, _, _, rfl, intF hb.1.2, _, _, rfl, intF hb.2, rfl⟩ formedIt (it_eq a b) (.inr ⟨rfl, rfl⟩) h
end
/-! ### What comes in -/
def kdsItem : List Kd := [.int .i64, .int .i64, .int .i64]
def kdsDot : List Kd := [.int .i64, .int .i64]
def kdsVV : List Kd := List.replicate 16 (.int .i64)
theorem item_of {c : List Value} (h : CellsOk kdsItem c) : ∃ x : Dt × Int, c = itI x ∧ okI x := by
  obtain ⟨_, _, rfl, ⟨r, rfl, hr⟩, _, _, rfl, ⟨n, rfl, hn⟩, _, _, rfl, ⟨x, rfl, hx⟩, rfl⟩ := h
  exact ⟨((r, n), x), rfl, ⟨in64_wf.1 hr, in64_wf.1 hn⟩, in64_wf.1 hx⟩
theorem dot_of {c : List Value} (h : CellsOk kdsDot c) : ∃ d : Dt, c = [vi d.1, vi d.2] ∧ okD d := by
  obtain ⟨_, _, rfl, ⟨r, rfl, hr⟩, _, _, rfl, ⟨n, rfl, hn⟩, rfl⟩ := h
  exact ⟨(r, n), rfl, in64_wf.1 hr, in64_wf.1 hn⟩
theorem items_of : ∀ (ls : List (List Value)), (∀ c ∈ ls, CellsOk kdsItem c) → ∃ l : List (Dt × Int), l.length = ls.length ∧ ls.flatten = l.flatMap itI ∧ ∀ x ∈ l, okI x
  | [], _ => ⟨[], rfl, rfl, by simp⟩
  | c :: r, h => by
    obtain ⟨o, rfl, ho⟩ := item_of (h c List.mem_cons_self)
    obtain ⟨sc, h1, h2, h3⟩ := items_of r (fun c hc => h c (List.mem_cons_of_mem _ hc))
    exact ⟨o :: sc, by simp [h1], by simp [h2], fun x hx => by rcases List.mem_cons.1 hx with rfl | hx; exact ho; exact h3 x hx⟩
theorem mem_putAll {α : Type} {b l : List (Dt × α)} (hb : sortedD b) {e : Dt} {y : α} (h : (e, y) ∈ putAll b l) : (e, y) ∈ b ∨ (e, y) ∈ l := by
  induction l generalizing b with
  | nil => exact .inl h
  | cons x l ih =>
    rcases ih (sorted_put hb x.1 x.2) h with h1 | h1
    · rcases (mem_put hb x.1 x.2 e y).1 h1 with ⟨rfl, rfl⟩ | h2
      · exact .inr List.mem_cons_self
      · exact .inl h2.2
    · exact .inr (List.mem_cons_of_mem _ h1)
abbrev itemsF (l : List (Dt × Int)) : Fa := row 3 (l.flatMap itI)
theorem eltRef : Elt Try.prog 22 30 (.agg (itI it0I).toArray) 3 24 := Elt.mk' Try.underlying22 (by kernel_rfl) rfl (by decide) (by decide)
def oddB (x : Int) : Bool := x.tmod 2 != 0
theorem odd_fn (x : Int) : Spc Try.prog 28 [.ex (vi x)] fun _ => .ex (.bool (oddB x)) := by
  refine Spc.intro Try.func28 rfl (Nat.le_of_ble_eq_true rfl) fun w0 => ?_
  have hI := hIb w0
  repeat (first | refine Plan.move rfl rfl rfl rfl ?_ | refine Plan.assign rfl rfl rfl rfl ?_ | (refine Plan.ints rfl rfl rfl rfl rfl rfl ?_; (skip)) | refine J.seq (J.region mixed hI (by kernel_rfl) ?_))
  refine Plan.boolv (y := oddB x) rfl ?_
  repeat (fail)
  exact J.ret (Nrm.ret1 rfl (fun _ h => h) rfl fun B _ => Sub.refl _)
theorem awakeB_fn : Spc Try.prog 14 [] fun _ => .ex (.bool true) := by
  refine Spc.intro Try.func14 rfl (Nat.le_of_ble_eq_true rfl) fun w0 => ?_
  have hI := hIb w0
  have hA := Own.below w0
  refine J.heap0 1000 (newB w0) ?_
  repeat (first | refine Plan.assign rfl rfl rfl rfl ?_ | refine J.seq (J.region mixed hI (by kernel_rfl) ?_))
  refine Plan.callN (key := 1000) rfl rfl rfl (new_fnI) Try.func15 rfl rfl (by intro _ e; cases e; decide) (by repeat (exact Opnds.nil)) rfl hA ?_
  intro β _
  repeat (first | refine Plan.move rfl rfl rfl rfl ?_ | refine Plan.assign rfl rfl rfl rfl ?_ | refine Plan.eqlPtr rfl rfl rfl rfl (by kernel_rfl) ?_ | refine J.seq (J.region mixed hI (by kernel_rfl) ?_) | refine J.seq (J.seq (J.region mixed hI (by kernel_rfl) ?_)) | refine J.condF rfl ?_ | refine J.skip ?_)
  refine Plan.build rfl rfl rfl (Parts.cons rfl (Parts.cons rfl Parts.nil)) (cells := #[vi 1, vi 2]) (by kernel_rfl) ?_
  refine Plan.callC (key := 1000) (q := 0) rfl rfl rfl (put_fnI β [] sorted_nil (by simp) (1, 2) 7) Try.func16 rfl rfl (by intro _ e; cases e; decide) (by repeat (first | exact Opnds.nil | refine Opnds.cons rfl (by exact Sub.refl _) ?_)) rfl hA rfl ?_
  intro _ _
  have hp : putD ([] : List (Dt × Int)) (1, 2) 7 = [((1, 2), 7)] := rfl
  rw [hp]
  repeat (first | refine Plan.move rfl rfl rfl rfl ?_ | refine J.seq (J.region mixed hI (by kernel_rfl) ?_))
  refine Plan.build rfl rfl rfl (Parts.cons rfl (Parts.cons rfl Parts.nil)) (cells := #[vi 1, vi 2]) (by kernel_rfl) ?_
  refine Plan.callR (key := 1000) (B := 0) (q := 0) rfl rfl rfl (get_fnI β [((1, 2), 7)] (List.pairwise_singleton _ _) (by simp) (1, 2)) Try.func19 rfl rfl (fun _ _ => Nat.zero_le _) (by repeat (first | exact Opnds.nil | refine Opnds.cons rfl (by exact Sub.refl _) ?_)) rfl rfl (by decide) ?_
  rw [show valD [(((1 : Int), (2 : Int)), (7 : Int))] (1, 2) 0 = 7 by decide, show hereD [(((1 : Int), (2 : Int)), (7 : Int))] (1, 2) = true by decide]
  repeat (first | refine Plan.move rfl rfl rfl rfl ?_ | refine Plan.assign rfl rfl rfl rfl ?_ | refine Plan.extract rfl rfl rfl rfl rfl ?_ | refine Plan.pick rfl rfl rfl rfl rfl ?_ | (refine Plan.ints rfl rfl rfl rfl rfl rfl ?_; (skip)) | refine J.seq (J.region mixed hI (by kernel_rfl) ?_))
  refine Plan.callR (key := 1000) (B := 0) (q := 0) rfl rfl rfl (len_fnI β [((1, 2), 7)]) Try.func20 rfl rfl (fun _ _ => Nat.zero_le _) (by repeat (first | exact Opnds.nil | refine Opnds.cons rfl (by exact Sub.refl _) ?_)) rfl rfl (by decide) ?_
  repeat (first | refine Plan.assign rfl rfl rfl rfl ?_ | refine Plan.pick rfl rfl rfl rfl rfl ?_ | (refine Plan.ints rfl rfl rfl rfl rfl rfl ?_; (skip)))
  exact J.ret (Nrm.ret1 rfl (fun _ h => h) rfl fun B _ => Sub.refl _)
end Go.Proofs.Ytkhcjedlopiicaa
