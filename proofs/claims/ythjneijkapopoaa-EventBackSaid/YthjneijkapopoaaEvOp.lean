/-
  Events: an operation is read.
-/
import Derived.Test.YthjneijkapopoaaEvRead
set_option linter.unusedSimpArgs false
set_option linter.unusedVariables false
set_option maxRecDepth 20000
namespace Go.Proofs.Ythjneijkapopoaa
open Go.Free Go.RowKit Go.Proofs
set_option maxHeartbeats 4000000

def opL (k : Int) (a b c : List UInt8) (x r n : Int) : List Value := [vi k, str a, str b, str c, vi x, vi r, vi n]
def opV (l : List UInt8) (s : RS) : List Value := opL (oK l s) (oKey l s).1 (oField l s).1 (oValue l s).1 (oNum l s).1 (oRR l s).1 (oRN l s).1
def opZ : List Value := opL 0 [] [] [] 0 0 0
def opH (A : Nat → Prop) (β α γ δ : Nat) (v : Value) (k : Int) (s : RS) (cs : List Value) : Fa := heap A [rdC β v s, obj α opZ, obj γ cs, obj δ (partsV k)]
def opM (A : Nat → Prop) (β α γ δ : Nat) (v : Value) (k : Int) (s : RS) (cs : List Value) : Env := [(0, .ex (ptr β)), (2, .ex (ptr α)), (3, .ex (ptr γ)), (4, .ex (ptr δ)), (1000, opH A β α γ δ v k s cs)]
theorem opH_eq {A : Nat → Prop} {β α γ δ : Nat} {v : Value} {k : Int} {s s' : RS} {cs cs' : List Value} (h1 : s' = s) (h2 : cs' = cs) : heap A [rdC β v s', obj α opZ, obj γ cs', obj δ (partsV k)] = opH A β α γ δ v k s cs := by subst h1 h2; rfl
theorem op_fn {wO : World} {v : Value} {l : List UInt8} (hv : (bytesF l).den wO v) {β : Nat} (hβ : wO.heap.size ≤ β) {s : RS} (hs : okS l s) (hl : l.length ≤ 9223372036854775807) :
    SpcC Try.prog 46 [exIn wO (ptr β)] (rdC β v s) (fun _ : Unit => True) (fun _ => .ex (.agg (opV l s).toArray)) (fun _ => rdC β v (oRN l s).2) := by
  refine SpcC.intro2 Try.func46 rfl (Nat.le_of_ble_eq_true rfl) fun w1 F args hd hc => ?_
  have hB0 := exIn_below hd
  have hbe : ∀ w, Kept F w1 w → Below wO.heap.size wO w := fun w h => kept_beyond hB0 (fun b hb => by rw [(hc.2 b).1 hb]; exact hβ) h
  have hI := kept_below F w1
  have hA := Own.kept F w1
  refine J.weak [(0, .ex (ptr β)), (1000, heap (fun b => F b ∨ w1.heap.size ≤ b) [rdC β v s])] (Weak.cons rfl Sub.inEx (Weak.cons rfl (Sub.refl _) Weak.nil)) ?_
  repeat (refine J.seq (J.region mixed hI (by kernel_rfl) ?_))
  refine Plan.allocC (key := 1000) (z := .agg opZ.toArray) rfl rfl rfl (by intro _ e; cases e; decide) (by kernel_rfl) rfl hA fun α => ?_
  repeat (first | refine Plan.move rfl rfl rfl rfl ?_ | refine J.seq (J.region mixed hI (by kernel_rfl) ?_))
  refine Plan.callC (key := 1000) (q := 0) rfl rfl rfl (number_fn hv hβ hs hl) Try.func45 rfl rfl (by intro _ e; cases e; decide) (by repeat (first | exact Opnds.nil | refine Opnds.cons rfl (by exact Sub.exIn hbe) ?_)) rfl hA rfl ?_
  intro _ _
  refine Plan.build (cells := (opL (oK l s) [] [] [] 0 0 0).toArray) rfl rfl (ps := [(0, _)]) rfl (Parts.cons rfl Parts.nil) (by kernel_rfl) ?_
  refine Plan.allocC (key := 1000) (z := .agg opZ.toArray) rfl rfl rfl (by intro _ e; cases e; decide) (by kernel_rfl) rfl hA fun γ => ?_
  refine Plan.storeC (key := 1000) (q := 2) (off := 0) rfl rfl rfl rfl rfl rfl (by simp [Value.cells, Value.oneCell', opL, str]) (by show _ = some (opL (oK l s) [] [] [] 0 0 0).toArray.size; kernel_rfl) rfl hA rfl (obj_pat (Nat.le_of_ble_eq_true rfl)) ?_
  repeat (first | refine Plan.fieldC rfl rfl rfl rfl (by first | exact Try.underlying31 | exact Try.underlying29) rfl (by kernel_rfl) (by exact (rfl : _ = 0)) ?_ | refine Plan.loadC (key := 1000) (q := 2) rfl rfl rfl rfl rfl rfl (obj_reads1 rfl) (by exact Try.underlying3) (by rfl) (by decide) ?_ | refine J.seq (J.region mixed hI (by kernel_rfl) ?_))
  refine Plan.call (B := 0) rfl rfl rfl (uses_fn (oK l s)) Try.func32 rfl rfl (fun _ _ => Nat.zero_le _) (Opnds.cons rfl (Sub.refl _) Opnds.nil) ?_
  repeat (first | refine Plan.move rfl rfl rfl rfl ?_ | refine Plan.extract rfl rfl rfl rfl rfl ?_)
  refine Plan.allocC (key := 1000) (z := .agg #[.bool false, .bool false, .bool false, .bool false]) rfl rfl rfl (by intro _ e; cases e; decide) (by kernel_rfl) rfl hA fun δ => ?_
  refine Plan.storeC (key := 1000) (q := 3) (off := 0) rfl rfl rfl rfl rfl rfl (by simp [Value.cells, Value.oneCell', partsV]) (by show _ = some (partsV (oK l s)).toArray.size; kernel_rfl) rfl hA rfl (obj_pat (Nat.le_of_ble_eq_true rfl)) ?_
  repeat (refine Plan.assign rfl rfl rfl rfl ?_)
  refine J.seqMid (σ := Unit) (fun _ => opM (fun b => F b ∨ w1.heap.size ≤ b) β α γ δ v (oK l s) (oS1 l s) (opL (oK l s) [] [] [] 0 0 0)) (fun _ => True) ?_ fun _ _ => ?_
  · repeat (first | refine Plan.move rfl rfl rfl rfl ?_ | (refine Plan.ints rfl rfl rfl rfl rfl rfl ?_; (skip)) | refine Plan.nilOk rfl rfl rfl rfl ?_ | refine Plan.fieldC rfl rfl rfl rfl (by first | exact Try.underlying31 | exact Try.underlying75) rfl (by kernel_rfl) (by exact (rfl : _ = 2)) ?_ | refine Plan.loadC (key := 1000) (q := 0) rfl rfl rfl rfl rfl rfl (obj_reads1 rfl) (by exact Try.underlying3) (by rfl) (by decide) ?_ | refine J.seq (J.region mixed hI (by kernel_rfl) ?_))
    refine Plan.splitE (fun h1 => ?_) (fun h1 => ?_)
    · repeat (first | refine Plan.move rfl rfl rfl rfl ?_ | refine Plan.pick rfl rfl rfl rfl rfl ?_ | refine Plan.un rfl rfl rfl rfl rfl ?_)
      refine J.condND rfl (fun hk => ?_) (fun hk => ?_)
      · have e1 : oS1 l s = ((rNum l s).2.1, 3) := if_pos ⟨by omega, hk⟩
        repeat (first | refine Plan.move rfl rfl rfl rfl ?_ | refine Plan.nilOk rfl rfl rfl rfl ?_ | refine Plan.fieldC rfl rfl rfl rfl (by first | exact Try.underlying31 | exact Try.underlying75) rfl (by kernel_rfl) (by exact (rfl : _ = 2)) ?_ | refine J.region mixed hI (by kernel_rfl) ?_)
        refine Plan.storeC (key := 1000) (q := 0) rfl rfl rfl rfl rfl rfl (by simp [Value.cells, Value.oneCell', str]) (by kernel_rfl) rfl hA rfl (obj_pat1 (Nat.le_of_ble_eq_true rfl)) ?_
        repeat (fail)
        exact Nrm.mid () trivial (Weak.cons rfl (Sub.refl _) (Weak.cons rfl (Sub.refl _) (Weak.cons rfl (Sub.refl _) (Weak.cons rfl (Sub.refl _) (Weak.cons rfl (Sub.of_eq (by rw [e1] <;> rfl)) Weak.nil)))))
      · have e1 : oS1 l s = (rNum l s).2 := if_neg fun hh => hh.2 hk
        refine J.skip ?_
        exact Nrm.mid () trivial (Weak.cons rfl (Sub.refl _) (Weak.cons rfl (Sub.refl _) (Weak.cons rfl (Sub.refl _) (Weak.cons rfl (Sub.refl _) (Weak.cons rfl (Sub.of_eq (by rw [e1] <;> rfl)) Weak.nil)))))
    · have e1 : oS1 l s = (rNum l s).2 := if_neg fun hh => h1 (by omega)
      repeat (first | refine Plan.skip rfl rfl ?_ | refine Plan.pick rfl rfl rfl rfl rfl ?_ | refine J.condF rfl ?_ | refine J.skip ?_)
      exact Nrm.mid () trivial (Weak.cons rfl (Sub.refl _) (Weak.cons rfl (Sub.refl _) (Weak.cons rfl (Sub.refl _) (Weak.cons rfl (Sub.refl _) (Weak.cons rfl (Sub.of_eq (by rw [e1] <;> rfl)) Weak.nil)))))
  refine J.seqMid (σ := Unit) (fun _ => opM (fun b => F b ∨ w1.heap.size ≤ b) β α γ δ v (oK l s) (oKey l s).2 (opL (oK l s) (oKey l s).1 [] [] 0 0 0)) (fun _ => True) ?_ fun _ _ => ?_
  · repeat (first | refine Plan.move rfl rfl rfl rfl ?_ | refine J.region mixed hI (by kernel_rfl) ?_)
    refine Plan.callC (key := 1000) (q := 0) rfl rfl rfl (text_fn hv hβ (oS1_ok hs) hl) Try.func62 rfl rfl (by intro _ e; cases e; decide) (by repeat (first | exact Opnds.nil | refine Opnds.cons rfl (by exact Sub.exIn hbe) ?_)) rfl hA rfl ?_
    intro _ _
    repeat (refine Plan.fieldC rfl rfl rfl rfl (by first | exact Try.underlying31 | exact Try.underlying29) rfl (by kernel_rfl) (by exact (rfl : _ = 1)) ?_)
    refine Plan.storeC (key := 1000) (q := 2) rfl rfl rfl rfl rfl rfl (by simp [Value.cells, Value.oneCell', str]) (by kernel_rfl) rfl hA rfl (obj_pat1 (Nat.le_of_ble_eq_true rfl)) ?_
    repeat (fail)
    exact Nrm.mid () trivial (Weak.cons rfl (Sub.refl _) (Weak.cons rfl (Sub.refl _) (Weak.cons rfl (Sub.refl _) (Weak.cons rfl (Sub.refl _) (Weak.cons rfl (Sub.of_eq rfl) Weak.nil)))))
  refine J.seqMid (σ := Unit) (fun _ => opM (fun b => F b ∨ w1.heap.size ≤ b) β α γ δ v (oK l s) (oField l s).2 (opL (oK l s) (oKey l s).1 (oField l s).1 [] 0 0 0)) (fun _ => True) ?_ fun _ _ => ?_
  · repeat (first | refine Plan.fieldC rfl rfl rfl rfl (by first | exact Try.underlying31 | exact Try.underlying61) rfl (by kernel_rfl) (by exact (rfl : _ = 0)) ?_ | refine J.seq (J.region mixed hI (by kernel_rfl) ?_))
    refine Plan.loadC (key := 1000) (q := 3) rfl rfl rfl rfl rfl rfl (obj_reads1 rfl) Try.underlying4 rfl (by decide) ?_
    refine J.condD rfl (fun hf => ?_) (fun hf => ?_)
    · have hy : oField l s = _ := if_pos hf
      repeat (first | refine Plan.move rfl rfl rfl rfl ?_ | refine J.region mixed hI (by kernel_rfl) ?_)
      refine Plan.callC (key := 1000) (q := 0) rfl rfl rfl (text_fn hv hβ (oKey_ok hs).1 hl) Try.func62 rfl rfl (by intro _ e; cases e; decide) (by repeat (first | exact Opnds.nil | refine Opnds.cons rfl (by exact Sub.exIn hbe) ?_)) rfl hA rfl ?_
      intro _ _
      repeat (refine Plan.fieldC rfl rfl rfl rfl (by first | exact Try.underlying31 | exact Try.underlying29) rfl (by kernel_rfl) (by exact (rfl : _ = 2)) ?_)
      refine Plan.storeC (key := 1000) (q := 2) rfl rfl rfl rfl rfl rfl (by simp [Value.cells, Value.oneCell', str]) (by kernel_rfl) rfl hA rfl (obj_pat1 (Nat.le_of_ble_eq_true rfl)) ?_
      repeat (fail)
      exact Nrm.mid () trivial (Weak.cons rfl (Sub.refl _) (Weak.cons rfl (Sub.refl _) (Weak.cons rfl (Sub.refl _) (Weak.cons rfl (Sub.refl _) (Weak.cons rfl (Sub.of_eq (by rw [hy] <;> rfl)) Weak.nil)))))
    · have hn : oField l s = _ := if_neg hf
      refine J.skip ?_
      exact Nrm.mid () trivial (Weak.cons rfl (Sub.refl _) (Weak.cons rfl (Sub.refl _) (Weak.cons rfl (Sub.refl _) (Weak.cons rfl (Sub.refl _) (Weak.cons rfl (Sub.of_eq (by rw [hn] <;> rfl)) Weak.nil)))))
  refine J.seqMid (σ := Unit) (fun _ => opM (fun b => F b ∨ w1.heap.size ≤ b) β α γ δ v (oK l s) (oValue l s).2 (opL (oK l s) (oKey l s).1 (oField l s).1 (oValue l s).1 0 0 0)) (fun _ => True) ?_ fun _ _ => ?_
  · repeat (first | refine Plan.fieldC rfl rfl rfl rfl (by first | exact Try.underlying31 | exact Try.underlying61) rfl (by kernel_rfl) (by exact (rfl : _ = 1)) ?_ | refine J.seq (J.region mixed hI (by kernel_rfl) ?_))
    refine Plan.loadC (key := 1000) (q := 3) rfl rfl rfl rfl rfl rfl (obj_reads1 rfl) Try.underlying4 rfl (by decide) ?_
    refine J.condD rfl (fun hf => ?_) (fun hf => ?_)
    · have hy : oValue l s = _ := if_pos hf
      repeat (first | refine Plan.move rfl rfl rfl rfl ?_ | refine J.region mixed hI (by kernel_rfl) ?_)
      refine Plan.callC (key := 1000) (q := 0) rfl rfl rfl (text_fn hv hβ (oField_ok hs).1 hl) Try.func62 rfl rfl (by intro _ e; cases e; decide) (by repeat (first | exact Opnds.nil | refine Opnds.cons rfl (by exact Sub.exIn hbe) ?_)) rfl hA rfl ?_
      intro _ _
      repeat (refine Plan.fieldC rfl rfl rfl rfl (by first | exact Try.underlying31 | exact Try.underlying29) rfl (by kernel_rfl) (by exact (rfl : _ = 3)) ?_)
      refine Plan.storeC (key := 1000) (q := 2) rfl rfl rfl rfl rfl rfl (by simp [Value.cells, Value.oneCell', str]) (by kernel_rfl) rfl hA rfl (obj_pat1 (Nat.le_of_ble_eq_true rfl)) ?_
      repeat (fail)
      exact Nrm.mid () trivial (Weak.cons rfl (Sub.refl _) (Weak.cons rfl (Sub.refl _) (Weak.cons rfl (Sub.refl _) (Weak.cons rfl (Sub.refl _) (Weak.cons rfl (Sub.of_eq (by rw [hy] <;> rfl)) Weak.nil)))))
    · have hn : oValue l s = _ := if_neg hf
      refine J.skip ?_
      exact Nrm.mid () trivial (Weak.cons rfl (Sub.refl _) (Weak.cons rfl (Sub.refl _) (Weak.cons rfl (Sub.refl _) (Weak.cons rfl (Sub.refl _) (Weak.cons rfl (Sub.of_eq (by rw [hn] <;> rfl)) Weak.nil)))))
  refine J.seqMid (σ := Unit) (fun _ => opM (fun b => F b ∨ w1.heap.size ≤ b) β α γ δ v (oK l s) (oNum l s).2 (opL (oK l s) (oKey l s).1 (oField l s).1 (oValue l s).1 (oNum l s).1 0 0)) (fun _ => True) ?_ fun _ _ => ?_
  · repeat (first | refine Plan.fieldC rfl rfl rfl rfl (by first | exact Try.underlying31 | exact Try.underlying61) rfl (by kernel_rfl) (by exact (rfl : _ = 2)) ?_ | refine J.seq (J.region mixed hI (by kernel_rfl) ?_))
    refine Plan.loadC (key := 1000) (q := 3) rfl rfl rfl rfl rfl rfl (obj_reads1 rfl) Try.underlying4 rfl (by decide) ?_
    refine J.condD rfl (fun hf => ?_) (fun hf => ?_)
    · have hy : oNum l s = _ := if_pos hf
      repeat (first | refine Plan.move rfl rfl rfl rfl ?_ | refine J.region mixed hI (by kernel_rfl) ?_)
      refine Plan.callC (key := 1000) (q := 0) rfl rfl rfl (signed_fn hv hβ (oValue_ok hs).1 hl) Try.func63 rfl rfl (by intro _ e; cases e; decide) (by repeat (first | exact Opnds.nil | refine Opnds.cons rfl (by exact Sub.exIn hbe) ?_)) rfl hA rfl ?_
      intro _ _
      repeat (refine Plan.fieldC rfl rfl rfl rfl (by first | exact Try.underlying31 | exact Try.underlying29) rfl (by kernel_rfl) (by exact (rfl : _ = 4)) ?_)
      refine Plan.storeC (key := 1000) (q := 2) rfl rfl rfl rfl rfl rfl (by simp [Value.cells, Value.oneCell', str]) (by kernel_rfl) rfl hA rfl (obj_pat1 (Nat.le_of_ble_eq_true rfl)) ?_
      repeat (fail)
      exact Nrm.mid () trivial (Weak.cons rfl (Sub.refl _) (Weak.cons rfl (Sub.refl _) (Weak.cons rfl (Sub.refl _) (Weak.cons rfl (Sub.refl _) (Weak.cons rfl (Sub.of_eq (by rw [hy] <;> rfl)) Weak.nil)))))
    · have hn : oNum l s = _ := if_neg hf
      refine J.skip ?_
      exact Nrm.mid () trivial (Weak.cons rfl (Sub.refl _) (Weak.cons rfl (Sub.refl _) (Weak.cons rfl (Sub.refl _) (Weak.cons rfl (Sub.refl _) (Weak.cons rfl (Sub.of_eq (by rw [hn] <;> rfl)) Weak.nil)))))
  refine J.seqMid (σ := Unit) (fun _ => opM (fun b => F b ∨ w1.heap.size ≤ b) β α γ δ v (oK l s) (oRN l s).2 (opL (oK l s) (oKey l s).1 (oField l s).1 (oValue l s).1 (oNum l s).1 (oRR l s).1 (oRN l s).1)) (fun _ => True) ?_ fun _ _ => ?_
  · repeat (first | refine Plan.fieldC rfl rfl rfl rfl (by first | exact Try.underlying31 | exact Try.underlying61) rfl (by kernel_rfl) (by exact (rfl : _ = 3)) ?_ | refine J.seq (J.region mixed hI (by kernel_rfl) ?_))
    refine Plan.loadC (key := 1000) (q := 3) rfl rfl rfl rfl rfl rfl (obj_reads1 rfl) Try.underlying4 rfl (by decide) ?_
    refine J.condD rfl (fun hf => ?_) (fun hf => ?_)
    · have hy1 : oRR l s = _ := if_pos hf
      have hy2 : oRN l s = _ := if_pos hf
      have okr := (oRR_ok hs).1
      rw [hy1] at hy2 okr
      repeat (first | refine Plan.move rfl rfl rfl rfl ?_ | refine J.seq (J.region mixed hI (by kernel_rfl) ?_))
      refine Plan.callC (key := 1000) (q := 0) rfl rfl rfl (number_fn hv hβ (oNum_ok hs).1 hl) Try.func45 rfl rfl (by intro _ e; cases e; decide) (by repeat (first | exact Opnds.nil | refine Opnds.cons rfl (by exact Sub.exIn hbe) ?_)) rfl hA rfl ?_
      intro _ _
      repeat (refine Plan.fieldC rfl rfl rfl rfl (by first | exact Try.underlying31 | exact Try.underlying29 | exact Try.underlying25) rfl (by kernel_rfl) (by exact (rfl : _ = 5)) ?_)
      refine Plan.storeC (key := 1000) (q := 2) rfl rfl rfl rfl rfl rfl (by simp [Value.cells, Value.oneCell', str]) (by kernel_rfl) rfl hA rfl (obj_pat1 (Nat.le_of_ble_eq_true rfl)) ?_
      repeat (first | refine Plan.move rfl rfl rfl rfl ?_ | refine J.region mixed hI (by kernel_rfl) ?_)
      refine Plan.callC (key := 1000) (q := 0) rfl rfl rfl (number_fn hv hβ okr hl) Try.func45 rfl rfl (by intro _ e; cases e; decide) (by repeat (first | exact Opnds.nil | refine Opnds.cons rfl (by exact Sub.exIn hbe) ?_)) rfl hA rfl ?_
      intro _ _
      repeat (refine Plan.fieldC rfl rfl rfl rfl (by first | exact Try.underlying31 | exact Try.underlying29 | exact Try.underlying25) rfl (by kernel_rfl) (by first | exact (rfl : _ = 5) | exact (rfl : _ = 6)) ?_)
      refine Plan.storeC (key := 1000) (q := 2) rfl rfl rfl rfl rfl rfl (by simp [Value.cells, Value.oneCell', str]) (by kernel_rfl) rfl hA rfl (obj_pat1 (Nat.le_of_ble_eq_true rfl)) ?_
      repeat (fail)
      exact Nrm.mid () trivial (Weak.cons rfl (Sub.refl _) (Weak.cons rfl (Sub.refl _) (Weak.cons rfl (Sub.refl _) (Weak.cons rfl (Sub.refl _) (Weak.cons rfl (Sub.of_eq (by rw [hy2, hy1] <;> rfl)) Weak.nil)))))
    · have hn1 : oRR l s = _ := if_neg hf
      have hn2 : oRN l s = _ := if_neg hf
      rw [hn1] at hn2
      refine J.skip ?_
      exact Nrm.mid () trivial (Weak.cons rfl (Sub.refl _) (Weak.cons rfl (Sub.refl _) (Weak.cons rfl (Sub.refl _) (Weak.cons rfl (Sub.refl _) (Weak.cons rfl (Sub.of_eq (by rw [hn2, hn1] <;> rfl)) Weak.nil)))))
  repeat (refine J.seq (J.region mixed hI (by kernel_rfl) ?_))
  refine Plan.loadAggC (key := 1000) (q := 2) (vs := opV l s) rfl rfl rfl rfl rfl rfl obj_whole Try.underlying29 rfl (by kernel_rfl) (by decide) ?_
  refine Plan.storeC (key := 1000) (q := 1) (off := 0) rfl rfl rfl rfl rfl rfl (by simp [Value.cells, Value.oneCell', opV, opL, str]) (by show _ = some (opV l s).toArray.size; kernel_rfl) rfl hA rfl (obj_pat (Nat.le_of_ble_eq_true rfl)) ?_
  repeat (fail)
  exact J.ret (Nrm.retCc (key := 1000) (q := 1) () rfl rfl rfl rfl obj_whole Try.underlying29 rfl (by kernel_rfl) trivial rfl Ent.left)
end Go.Proofs.Ythjneijkapopoaa
