/-
  Bags of int: Items, Drop.
-/
import Derived.Test.YtkhcjedlopiicaaBagFnsI
import Derived.Test.YtkhcjedlopiicaaEvFns2
import Derived.Test.YtkhcjedlopiicaaFreeOwn2
set_option linter.unusedSimpArgs false
set_option linter.unusedVariables false
set_option maxRecDepth 20000
namespace Go.Proofs.Ytkhcjedlopiicaa
open Go.Free Go.RowKit Go.Proofs
set_option maxHeartbeats 4000000

theorem clone_fnI (l : List (Dt × Int)) (hl : l.length ≤ 1000000) : Spc Try.prog 46 [row 3 (l.flatMap itI)] fun B => own B 33 3 (l.flatMap itI) := by
  refine Spc.intro Try.func46 rfl (Nat.le_of_ble_eq_true rfl) fun w0 => ?_
  have hI := hIb w0
  repeat (first | refine Plan.move rfl rfl rfl rfl ?_ | refine Plan.assign rfl rfl rfl rfl ?_ | refine J.seq (J.region mixed hI (by kernel_rfl) ?_) | refine J.seq (J.seq (J.region mixed hI (by kernel_rfl) ?_)))
  refine Plan.eqlNil rfl rfl rfl rfl (Sub.old fun _ h => h) Try.underlying31 ?_
  repeat (fail)
  refine J.condNil rfl (fun he => ?_) ?_
  · rw [he]
    repeat (first | refine Plan.assign rfl rfl rfl rfl ?_ | refine J.seq (J.region mixed hI (by kernel_rfl) ?_))
    exact J.ret (Nrm.ret1 rfl (fun _ h => h) rfl fun B hB => by first | exact Sub.refl _ | exact Sub.own | exact Sub.old (fun _ h => h) | exact Sub.oldOwn (fun _ h => h) | exact Sub.nilRow | exact Sub.ownLower hB | exact Sub.nilOwn (fun _ h => Nat.le_trans hB h.size))
  · repeat (first | refine J.seq (J.region mixed hI (by kernel_rfl) ?_) | refine J.skip ?_)
    refine Plan.lit (B := w0.heap.size) (vs := []) rfl rfl rfl eltItI rfl (hBb w0) rfl (by simp [Value.cells]) (by decide) ?_
    repeat (refine Plan.move rfl rfl rfl rfl ?_)
    refine Plan.append (news := l.flatMap itI) rfl rfl rfl rfl (Sub.refl _) rfl (Sub.old fun _ h => h) eltItI (by intro d hd; cases hd; decide) (hGb w0) (fun u hu => by
      obtain ⟨x, _, hx⟩ := List.mem_flatMap.1 hu
      exact itOneI x u hx) (by simp only [flat, List.flatMap_nil, List.length_nil]; rw [flat_len itLI]; omega) ?_
    repeat (refine Plan.assign rfl rfl rfl rfl ?_)
    exact J.ret (Nrm.ret1 rfl (fun _ h => h) rfl fun B hB => by first | exact Sub.refl _ | exact Sub.own | exact Sub.old (fun _ h => h) | exact Sub.oldOwn (fun _ h => h) | exact Sub.nilRow | exact Sub.ownLower hB | exact Sub.nilOwn (fun _ h => Nat.le_trans hB h.size))
theorem items_fnI (β : Nat) (l : List (Dt × Int)) (hl : l.length ≤ 1000000) : SpcR Try.prog 17 [.ex (ptr β)] (bagCI β l) fun B => own B 33 3 (l.flatMap itI) := by
  refine SpcR.intro Try.func17 rfl (Nat.le_of_ble_eq_true rfl) fun w0 => ?_
  have hI := hIb w0
  refine J.exC (key := 1000) (q := 0) rfl rfl fun x => ?_
  refine J.sepC (key := 1000) (q := 0) rfl rfl ?_
  repeat (first | refine Plan.move rfl rfl rfl rfl ?_ | refine Plan.assign rfl rfl rfl rfl ?_ | refine J.seq (J.region mixed hI (by kernel_rfl) ?_) | refine J.seq (J.seq (J.region mixed hI (by kernel_rfl) ?_)))
  refine Plan.eqlPtr rfl rfl rfl rfl (by kernel_rfl) ?_
  repeat (first | refine Plan.move rfl rfl rfl rfl ?_ | refine J.seq (J.region mixed hI (by kernel_rfl) ?_) | refine J.condF rfl ?_ | refine J.skip ?_)
  refine Plan.nilOk rfl rfl rfl rfl ?_
  refine Plan.fieldC rfl rfl rfl rfl (by exact Try.underlying50) rfl (by kernel_rfl) (by exact (rfl : _ = 0)) ?_
  refine Plan.loadRowC (key := 1000) (q := 0) (q2 := 1) rfl rfl rfl rfl rfl rfl (obj_reads1 rfl) rfl Try.underlying31 (by rfl) (by decide) ?_
  refine Plan.call (B := w0.heap.size) rfl rfl rfl (clone_fnI l hl) Try.func46 rfl rfl (hBb w0) (by repeat (first | exact Opnds.nil | refine Opnds.cons rfl (by exact Sub.refl _) ?_)) ?_
  repeat (refine Plan.assign rfl rfl rfl rfl ?_)
  exact J.ret (Nrm.ret1 rfl (fun _ h => h) rfl fun B hB => by first | exact Sub.refl _ | exact Sub.own | exact Sub.old (fun _ h => h) | exact Sub.oldOwn (fun _ h => h) | exact Sub.nilRow | exact Sub.ownLower hB | exact Sub.nilOwn (fun _ h => Nat.le_trans hB h.size))
theorem items_nilI : Spc Try.prog 17 [.ex (.pointer none)] fun B => own B 33 3 [] := by
  refine Spc.intro Try.func17 rfl (Nat.le_of_ble_eq_true rfl) fun w0 => ?_
  have hI := hIb w0
  repeat (first | refine Plan.move rfl rfl rfl rfl ?_ | refine Plan.assign rfl rfl rfl rfl ?_ | refine Plan.eqlPtr rfl rfl rfl rfl (by kernel_rfl) ?_ | refine J.seq (J.region mixed hI (by kernel_rfl) ?_) | refine J.seq (J.seq (J.region mixed hI (by kernel_rfl) ?_)) | refine J.condT rfl ?_)
  exact J.ret (Nrm.ret1 rfl (fun _ h => h) rfl fun B hB => by first | exact Sub.refl _ | exact Sub.own | exact Sub.old (fun _ h => h) | exact Sub.oldOwn (fun _ h => h) | exact Sub.nilRow | exact Sub.ownLower hB | exact Sub.nilOwn (fun _ h => Nat.le_trans hB h.size))
def WhOkI (wh : Value) (p : Int → Bool) : Prop := (wh = .nilFunc ∧ p = fun _ => true) ∨ ∃ f fn, wh = .func (.func f) #[] #[] ∧ Try.prog.funcs[f]? = some fn ∧ fn.body.isNone = false ∧ (fn.name == "runtime.NumGoroutine") = false ∧ ∀ x, Spc Try.prog f [.ex (vi x)] fun _ => .ex (.bool (p x))
def goesI (v : Nat → Int) (p : Int → Bool) (x : Dt × Int) : Bool := decide (hasP v x.1.1 x.1.2) && p x.2
theorem drop1_fnI (a b : Nat) (v : Nat → Int) (wh : Value) (p : Int → Bool) (hw : WhOkI wh p) (x : Dt × Int) :
    SpcR Try.prog 49 [.ex (.agg (itI x).toArray), .ex (ptr a), .ex (ptr b)] (sepC (obj a (vList v)) (obj b [wh])) fun _ => .ex (.bool (goesI v p x)) := by
  refine SpcR.intro Try.func49 rfl (Nat.le_of_ble_eq_true rfl) fun w0 => ?_
  have hI := hIb w0
  refine J.sepC (key := 1000) (q := 0) rfl rfl ?_
  repeat (refine J.seq (J.region mixed hI (by kernel_rfl) ?_))
  refine Plan.boxP rfl rfl rfl rfl ?_
  repeat (first | refine Plan.assign rfl rfl rfl rfl ?_ | refine J.seq (J.region mixed hI (by kernel_rfl) ?_))
  refine Plan.loadAggC (key := 1000) (q := 0) (vs := vList v) rfl rfl rfl rfl rfl rfl obj_whole Try.underlying42 rfl (by kernel_rfl) (by decide) ?_
  refine Plan.fieldPtr (us := [vi x.1.1, vi x.1.2]) rfl rfl rfl rfl (Sub.refl _) Try.underlying33 rfl (by kernel_rfl) rfl ?_
  refine Plan.loadAggP rfl rfl rfl rfl (Sub.refl _) Try.underlying28 rfl (by kernel_rfl) ?_
  refine Plan.call (B := w0.heap.size) rfl rfl rfl (has_fn v x.1.1 x.1.2) Try.func50 rfl rfl (hBb w0) (by repeat (first | exact Opnds.nil | refine Opnds.cons rfl (by exact Sub.refl _) ?_)) ?_
  refine Plan.splitD (fun h => ?_) (fun h => ?_)
  · repeat (refine Plan.move rfl rfl rfl rfl ?_)
    refine Plan.loadC (key := 1000) (q := 1) rfl rfl rfl rfl rfl rfl (obj_reads1 rfl) Try.underlying55 rfl (by decide) ?_
    rcases hw with ⟨rfl, rfl⟩ | ⟨f, fn, rfl, hf, hb, hn, hp⟩
    · have hg : goesI v (fun _ => true) x = true := by simp [goesI, h]
      rw [hg]
      refine Plan.eqlFunc rfl rfl rfl rfl Try.underlying55 (.inl ⟨rfl, rfl⟩) ?_
      repeat (first | refine Plan.move rfl rfl rfl rfl ?_ | refine Plan.assign rfl rfl rfl rfl ?_ | refine Plan.skip rfl rfl ?_ | refine Plan.pick rfl rfl rfl rfl rfl ?_)
      exact J.ret (Nrm.ret1 rfl (fun _ h => h) rfl fun B _ => Sub.refl _)
    · have hg : goesI v p x = p x.2 := by simp [goesI, h]
      rw [hg]
      refine Plan.eqlFunc rfl rfl rfl rfl Try.underlying55 (.inr ⟨⟨_, _, _, rfl⟩, rfl⟩) ?_
      repeat (refine Plan.move rfl rfl rfl rfl ?_)
      refine Plan.loadC (key := 1000) (q := 1) rfl rfl rfl rfl rfl rfl (obj_reads1 rfl) Try.underlying55 rfl (by decide) ?_
      refine Plan.fieldPtr (us := [vi x.2]) rfl rfl rfl rfl (Sub.refl _) Try.underlying33 rfl (by kernel_rfl) rfl ?_
      refine Plan.load rfl rfl rfl rfl (Sub.refl _) Try.underlying3 rfl ?_
      refine Plan.callFn rfl rfl rfl rfl (vals1 rfl) hf hb hn (Spc.fnCalls (hp x.2) (fun w _ => by simp [Fa.dens, Fa.den])) ?_
      repeat (first | refine Plan.assign rfl rfl rfl rfl ?_ | refine Plan.pick rfl rfl rfl rfl rfl ?_)
      exact J.ret (Nrm.ret1 rfl (fun _ h => h) rfl fun B _ => Sub.refl _)
  · have hg : goesI v p x = false := by simp [goesI, h]
    rw [hg]
    repeat (first | refine Plan.move rfl rfl rfl rfl ?_ | refine Plan.assign rfl rfl rfl rfl ?_ | refine Plan.skip rfl rfl ?_ | refine Plan.pick rfl rfl rfl rfl rfl ?_)
    exact J.ret (Nrm.ret1 rfl (fun _ h => h) rfl fun B _ => Sub.refl _)
end Go.Proofs.Ytkhcjedlopiicaa
